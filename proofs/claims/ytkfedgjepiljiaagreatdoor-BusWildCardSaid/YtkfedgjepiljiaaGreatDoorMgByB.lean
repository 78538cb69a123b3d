/- Bytes of a string in a block of the call's own ('[]byte(s)'), written in place; a bit of a byte. Nothing of the program's text. -/
import Derived.Test.YtkfedgjepiljiaaGreatDoorMgFrR
import Derived.Test.YtkfedgjepiljiaaGreatDoorOwS
import Derived.WalkKit
import Derived.Laws.Rows
import Derived.Test.YtkfedgjepiljiaaGreatDoorOrdL
import Derived.Test.YtkfedgjepiljiaaGreatDoorMgRng
namespace Go.Proofs.YtkfedgjepiljiaaGreatDoor
open Go.ChangeShapes Go.WideShapes Go.ChangeAt Go.RowKit
open SG

theorem and_one_i64 (x : Int) : bits .and .i64 x 1 = x % 2 := by
  have h : ((BitVec.ofInt 64 x) &&& (BitVec.ofInt 64 1)).toNat = (x % 2).toNat := by
    rw [BitVec.toNat_and, BitVec.toNat_ofInt, BitVec.toNat_ofInt]
    have e1 : ((1 : Int) % ((2 ^ 64 : Nat) : Int)).toNat = 1 := by decide
    rw [e1, Nat.and_one_is_mod]
    have : x % ((2 ^ 64 : Nat) : Int) % 2 = x % 2 := Int.emod_emod_of_dvd _ (by decide)
    have h0 := Int.emod_nonneg x (show ((2 ^ 64 : Nat) : Int) ≠ 0 by decide)
    omega
  have h2 := Int.emod_two_eq x
  show IntKind.i64.wrap (((BitVec.ofInt 64 x) &&& (BitVec.ofInt 64 1)).toNat : Int) = x % 2
  rw [h]
  rcases h2 with h2 | h2 <;> rw [h2] <;> decide
theorem byte_set : ∀ (x : Fin 256) (j : Fin 8) (b : Bool), bits .or .u8 (bits .andNot .u8 (x.val : Int) (IntKind.u8.wrap (2 ^ j.val))) (IntKind.u8.wrap ((if b then 1 else 0) * 2 ^ j.val)) = ((setN x.val j.val b : Nat) : Int) := by decide +kernel
theorem byte_get : ∀ (x : Fin 256) (j : Fin 8), (x.val : Int) / 2 ^ j.val % 2 = if x.val.testBit j.val then 1 else 0 := by decide +kernel

/-- The bytes l lie at block g, open to stores. -/
def ByB (W : World) (g : Nat) (l : List UInt8) : Prop := ∃ cs n, W.heap[g]? = some (.cells cs 5 (n, n + 1)) ∧ l.length ≤ n ∧ ∀ j (hj : j < l.length), cs[j]? = some (.int .u8 (l[j].toNat : Int))
theorem ByB.lt {W : World} {g : Nat} {l : List UInt8} (h : ByB W g l) : g < W.heap.size := by obtain ⟨cs, n, h, _⟩ := h; exact heap_lt h
theorem ByB.below {W W' : World} {g : Nat} {l : List UInt8} (h : ByB W g l) (q : Below W.heap.size W W') : ByB W' g l := by obtain ⟨cs, n, h, r⟩ := h; exact ⟨cs, n, heap_below h q, r⟩
theorem ByB.drew {W : World} {g : Nat} {l : List UInt8} (h : ByB W g l) : ByB W.drew g l := h
theorem ByB.cell {W : World} {g : Nat} {l : List UInt8} (h : ByB W g l) {j : Nat} (hj : j < l.length) : W.cell? ⟨g, j, none⟩ = some (.int .u8 (l[j].toNat : Int)) ∧ W.frozen? ⟨g, j, none⟩ = false := by
  obtain ⟨cs, n, h, hn, hc⟩ := h
  refine ⟨?_, ?_⟩
  · simp [World.cell?, h, hc j hj]
  · simp only [World.frozen?, h]
    simp; omega
theorem ByB.set {W : World} {g : Nat} {l : List UInt8} (h : ByB W g l) {j : Nat} (hj : j < l.length) (x : UInt8) : ByB (W.setCell ⟨g, j, none⟩ (.int .u8 (x.toNat : Int))) g (l.set j x) := by
  obtain ⟨cs, n, h, hn, hc⟩ := h
  refine ⟨cs.setIfInBounds j (.int .u8 (x.toNat : Int)), n, ?_, by simpa using hn, fun i hi => ?_⟩
  · simp [World.setCell, Array.getElem?_modify, h]
  · have hi' : i < l.length := by simpa using hi
    have := hc i hi'
    have hz : i < cs.size := (Array.getElem?_eq_some_iff.1 this).1
    rw [Array.getElem?_setIfInBounds, List.getElem_set]
    by_cases e : j = i
    · subst e; rw [if_pos rfl, if_pos hz, if_pos rfl]
    · rw [if_neg e, if_neg e]; exact this
theorem ByB.made (w : World) (s : ByteArray) (c : Nat) (hc : s.size ≤ c) : ByB (w.alloc (.cells (bytesRow s c) 5 ((bytesRow s c).size, (bytesRow s c).size + 1))) w.heap.size s.data.toList := by
  refine ⟨_, _, World.alloc_heap_new w _, ?_, fun j hj => ?_⟩
  · have : s.data.toList.length = s.size := by simp
    rw [this]
    simp [bytesRow]
  · have hz : j < s.data.size := by simpa using hj
    have hz2 : j < s.size := hz
    have hg : s.data[j]? = some s.data[j] := Array.getElem?_eq_getElem hz
    simp [bytesRow, Array.getElem?_append, hz2, hg]
end Go.Proofs.YtkfedgjepiljiaaGreatDoor

/- Results that lie in blocks of the call's own, whole. Nothing of the program's text. -/
namespace Go.Proofs.YtkfedgjepiljiaaGreatDoor
open Go.ChangeShapes Go.WideShapes Go.ChangeAt Go.RowKit

theorem results_cell_tmp {P : Program} {fn : Func} {p q : Tmp} {ty : TypeId} (h : fn.results = #[.cell p ty, .tmp q]) (tmps : Array Value) (w : World) (g : Nat) (t : TypeId) (cs : Array Value) (fr : Nat × Nat) (d : TypeDesc) (v : Value)
    (hp : tmps.getD p undef = .pointer (some ⟨g, 0, none⟩)) (hq : tmps.getD q undef = v) (hg : w.heap[g]? = some (.cells cs t fr))
    (hu : P.underlying ty = some d) (hd : (match d with | .struct _ | .array _ _ => true | _ => false) = true) (hi : (P.info? ty).map (·.size) = some cs.size) :
    (results fn tmps).run P w = .ok (.tuple #[.agg cs, v]) w := by
  have hp' : tmps[p]?.getD undef = .pointer (some ⟨g, 0, none⟩) := by simpa using hp
  have hq' : tmps[q]?.getD undef = v := by simpa using hq
  simp [results, h, hp', hq', asAddr, run_loadVar_row w g t ty cs fr d hg hu hd hi]
theorem results_cell_tmp2 {P : Program} {fn : Func} {p q r : Tmp} {ty : TypeId} (h : fn.results = #[.cell p ty, .tmp q, .tmp r]) (tmps : Array Value) (w : World) (g : Nat) (t : TypeId) (cs : Array Value) (fr : Nat × Nat) (d : TypeDesc) (v u : Value)
    (hp : tmps.getD p undef = .pointer (some ⟨g, 0, none⟩)) (hq : tmps.getD q undef = v) (hr : tmps.getD r undef = u) (hg : w.heap[g]? = some (.cells cs t fr))
    (hu : P.underlying ty = some d) (hd : (match d with | .struct _ | .array _ _ => true | _ => false) = true) (hi : (P.info? ty).map (·.size) = some cs.size) :
    (results fn tmps).run P w = .ok (.tuple #[.agg cs, v, u]) w := by
  have hp' : tmps[p]?.getD undef = .pointer (some ⟨g, 0, none⟩) := by simpa using hp
  have hq' : tmps[q]?.getD undef = v := by simpa using hq
  have hr' : tmps[r]?.getD undef = u := by simpa using hr
  simp [results, h, hp', hq', hr', asAddr, run_loadVar_row w g t ty cs fr d hg hu hd hi]
theorem results_cell2_tmp {P : Program} {fn : Func} {p p2 q : Tmp} {ty ty2 : TypeId} (h : fn.results = #[.cell p ty, .cell p2 ty2, .tmp q]) (tmps : Array Value) (w : World) (g g2 : Nat) (t t2 : TypeId) (cs cs2 : Array Value) (fr fr2 : Nat × Nat) (d d2 : TypeDesc) (v : Value)
    (hp : tmps.getD p undef = .pointer (some ⟨g, 0, none⟩)) (hp2 : tmps.getD p2 undef = .pointer (some ⟨g2, 0, none⟩)) (hq : tmps.getD q undef = v) (hg : w.heap[g]? = some (.cells cs t fr)) (hg2 : w.heap[g2]? = some (.cells cs2 t2 fr2))
    (hu : P.underlying ty = some d) (hd : (match d with | .struct _ | .array _ _ => true | _ => false) = true) (hi : (P.info? ty).map (·.size) = some cs.size)
    (hu2 : P.underlying ty2 = some d2) (hd2 : (match d2 with | .struct _ | .array _ _ => true | _ => false) = true) (hi2 : (P.info? ty2).map (·.size) = some cs2.size) :
    (results fn tmps).run P w = .ok (.tuple #[.agg cs, .agg cs2, v]) w := by
  have hp' : tmps[p]?.getD undef = .pointer (some ⟨g, 0, none⟩) := by simpa using hp
  have hpp : tmps[p2]?.getD undef = .pointer (some ⟨g2, 0, none⟩) := by simpa using hp2
  have hq' : tmps[q]?.getD undef = v := by simpa using hq
  simp [results, h, hp', hpp, hq', asAddr, run_loadVar_row w g t ty cs fr d hg hu hd hi, run_loadVar_row w g2 t2 ty2 cs2 fr2 d2 hg2 hu2 hd2 hi2]
end Go.Proofs.YtkfedgjepiljiaaGreatDoor

/- bits.And of rows of one bit each. -/
namespace Go.Proofs.YtkfedgjepiljiaaGreatDoor
open Go.ChangeShapes Go.WideShapes Go.ChangeAt Go.RowKit
open FP (Fr)

def mB (a b : UInt8) : UInt8 := if a = 48 ∨ b = 48 then 48 else 49
/-- What the first k rows have, and b. -/
def andN (l : List UInt8) (b : UInt8) : Nat → UInt8
  | 0 => b
  | k + 1 => mB (andN l b k) (l.getD k 49)
theorem mB_bit (a b : UInt8) : mB a b = 48 ∨ mB a b = 49 := by unfold mB; split; exact .inl rfl; exact .inr rfl
theorem andN_bit (l : List UInt8) {b : UInt8} (hb : b = 48 ∨ b = 49) : ∀ k, andN l b k = 48 ∨ andN l b k = 49
  | 0 => hb
  | k + 1 => mB_bit _ _
theorem andN_low (l : List UInt8) {b : UInt8} (hb : b = 48 ∨ b = 49) : ∀ k, andN l b k = 48 ↔ b = 48 ∨ ∃ j, j < k ∧ l.getD j 49 = 48
  | 0 => ⟨fun h => .inl h, fun h => h.elim id (fun ⟨_, hj, _⟩ => absurd hj (by omega))⟩
  | k + 1 => by
    have ih := andN_low l hb k
    show mB (andN l b k) (l.getD k 49) = 48 ↔ _
    unfold mB
    constructor
    · intro h
      split at h
      · rename_i q
        rcases q with q | q
        · rcases ih.1 q with q | ⟨j, hj, q⟩
          · exact .inl q
          · exact .inr ⟨j, by omega, q⟩
        · exact .inr ⟨k, by omega, q⟩
      · exact absurd h (by decide)
    · intro h
      rw [if_pos]
      rcases h with h | ⟨j, hj, h⟩
      · exact .inl (ih.2 (.inl h))
      · by_cases e : j = k
        · subst e; exact .inr h
        · exact .inl (ih.2 (.inr ⟨j, by omega, h⟩))
def andB (l : List UInt8) : UInt8 := if l.any (· == 48) = true then 48 else 49
theorem andN_all {l : List UInt8} (hl : 0 < l.length) (hb : ∀ c ∈ l, c = 48 ∨ c = 49) : andN l (l.getD 0 49) l.length = andB l := by
  have h0 : l.getD 0 49 = 48 ∨ l.getD 0 49 = 49 := by
    rw [List.getD_eq_getElem?_getD, List.getElem?_eq_getElem hl]
    exact hb _ (List.getElem_mem hl)
  have h := andN_low l h0 l.length
  unfold andB
  by_cases q : l.any (· == 48) = true
  · rw [if_pos q, h]
    obtain ⟨c, hc, e⟩ := List.any_eq_true.1 q
    obtain ⟨j, hj, rfl⟩ := List.getElem_of_mem hc
    refine .inr ⟨j, hj, ?_⟩
    rw [List.getD_eq_getElem?_getD, List.getElem?_eq_getElem hj]
    simpa using e
  · rw [if_neg q]
    rcases andN_bit l h0 l.length with e | e
    · exfalso
      apply q
      rw [List.any_eq_true]
      rcases h.1 e with e | ⟨j, hj, e⟩
      · exact ⟨l[0], List.getElem_mem hl, by rw [List.getD_eq_getElem?_getD, List.getElem?_eq_getElem hl] at e; simpa using e⟩
      · exact ⟨l[j], List.getElem_mem hj, by rw [List.getD_eq_getElem?_getD, List.getElem?_eq_getElem hj] at e; simpa using e⟩
    · exact e
/-- Rows of one bit each. -/
def bitRows (l : List UInt8) : List (List Value) := l.map fun b => [.string ⟨#[b]⟩]
theorem bitRows_at {w : World} {B : Nat} {A : Option Addr} {l : List UInt8} (h : Rd w B A 1 (bitRows l)) {k : Nat} (hk : k < l.length) : ∃ g off, A = some ⟨g, off, none⟩ ∧ w.cell? ⟨g, off + k, none⟩ = some (.string ⟨#[l.getD k 49]⟩) := by
  obtain ⟨b, off, e, hb, hc⟩ := h (by unfold bitRows; rw [List.length_map]; omega)
  have hx : (bitRows l)[k]? = some [.string ⟨#[l.getD k 49]⟩] := by
    unfold bitRows
    rw [List.getElem?_map, List.getElem?_eq_getElem hk, List.getD_eq_getElem?_getD, List.getElem?_eq_getElem hk]
    rfl
  have := hc k _ 0 _ hx rfl
  rw [Nat.mul_one, Nat.add_zero] at this
  exact ⟨b, off, e, this⟩

set_option maxRecDepth 100000 in
set_option maxHeartbeats 16000000 in
theorem bitsAnd_one (l : List UInt8) (A : Option Addr) (c : Nat) (w : World) (hr : Rd w w.heap.size A 1 (bitRows l)) (hl : 0 < l.length) (hl4 : l.length ≤ 100) (hb : ∀ c ∈ l, c = 48 ∨ c = 49) :
    Calls Tryz.prog 30 #[.slice A l.length c] w fun e w' => e = .returned (.tuple #[.string ⟨#[andB l]⟩, .int .i64 0]) ∧ Below w.heap.size w w' := by
  have HALL := hide (andN_all hl hb)
  have HBIT := hide (fun k (hk : k < l.length) => show l.getD k 49 = 48 ∨ l.getD k 49 = 49 from by
    rw [List.getD_eq_getElem?_getD, List.getElem?_eq_getElem hk]
    exact hb _ (List.getElem_mem hk))
  obtain ⟨x, hx⟩ : ∃ x, x = l.getD 0 49 := ⟨_, rfl⟩
  have hxb : x = 48 ∨ x = 49 := by rw [hx]; exact HBIT.out 0 hl
  have HAB := hide (andN_bit l hxb)
  rw [← hx] at HALL
  have HR := hide hr
  have hz : (0 : Int) < (l.length : Int) := by omega
  have hne : ((l.length : Int) == 0) = false := by rw [beq_eq_false_iff_ne]; omega
  obtain ⟨ag, ao, rfl, h0⟩ := bitRows_at hr hl
  rw [← hx] at h0
  obtain ⟨r, hrr⟩ : ∃ r, r = andB l := ⟨_, rfl⟩
  rw [← hrr] at HALL ⊢
  obtain ⟨d, hd⟩ : ∃ d : ByteArray, d = ⟨#[x]⟩ := ⟨_, rfl⟩
  rw [← hd, Nat.add_zero] at h0
  have hds : d.size = 1 := by rw [hd]; rfl
  have hcap : d.size ≤ grownCap w d.size 0 5 := grownCap_ge _ _ _ _
  have hcv := run_bytes_of_string (P := Tryz.prog) w 9 77 5 d Tryz.underlying9 Tryz.underlying77 Tryz.underlying5
  have Y3 := hide (ByB.made w.drew d _ hcap)
  generalize grownCap w d.size 0 5 = cap at *
  have q3 : Below w.heap.size w (w.drew.alloc (.cells (bytesRow d cap) 5 ((bytesRow d cap).size, (bytesRow d cap).size + 1))) := (Below.refl _ _).drew.alloc (Nat.le_refl _) _
  have Q3 := hide q3
  have YL : Hid (d.data.toList = [x]) := hide (by rw [hd])
  rw [YL.out] at Y3
  replace Y3 := hide (show ByB (w.drew.alloc (.cells (bytesRow d cap) 5 ((bytesRow d cap).size, (bytesRow d cap).size + 1))) w.heap.size [x] from Y3.out)
  generalize hw3 : w.drew.alloc (.cells (bytesRow d cap) 5 ((bytesRow d cap).size, (bytesRow d cap).size + 1)) = w3 at *
  have hdi : (d.size : Int) = 1 := by omega
  clear hr hb hx hrr hd q3 hxb
  go_enter Tryz.func30, Tryz.ntmps30
  go_wp2_with fail
  go_loopw [17] (fun vi W => ∃ k : Nat, k ≤ l.length ∧ vi = .int .i64 k ∧ Hid (ByB W w.heap.size [andN l x k]) ∧ Hid (Below w.heap.size w W)) (fun vi _ => l.length - (intOf vi).toNat)
  case atStart => exact ⟨0, Nat.zero_le _, rfl, Y3, Q3⟩
  case round =>
    clear Y3 Q3
    obtain ⟨k, hk, rfl, Y, Q⟩ := hrel
    by_cases hlt : k < l.length
    · have hki : (k : Int) < (l.length : Int) := by omega
      obtain ⟨ag2, ao2, hA2, hk0⟩ := bitRows_at (HR.out.next Q.out Q.out.size) hlt
      simp only [Option.some.injEq, Addr.mk.injEq, and_true] at hA2
      obtain ⟨rfl, rfl⟩ := hA2
      have hbk := HBIT.out k hlt
      have hak := HAB.out k
      have HN := hide (show andN l x (k + 1) = mB (andN l x k) (l.getD k 49) from rfl)
      generalize l.getD k 49 = b at *
      have BR := hide (fun W => show Calls Tryz.prog 23 #[.string ⟨#[b]⟩] W fun e w' => e = .returned (.bool true) ∧ Below W.heap.size W w' from by
        have := bitsRight_any ⟨#[b]⟩ W (by unfold maxLen; show 1 ≤ _; omega)
        have e : bitRow (⟨#[b]⟩ : ByteArray).data.toList = true := bitRow_iff.2 ⟨by show 1 ≤ 4000; omega, fun c hc => by
          have : c = b := by simpa using hc
          rw [this]; exact hbk⟩
        rwa [e] at this)
      generalize hgk : andN l x k = a at *
      obtain ⟨bs, hbs⟩ : ∃ bs : ByteArray, bs = ⟨#[b]⟩ := ⟨_, rfl⟩
      rw [← hbs] at BR hk0
      have hbz : bs.size = 1 := by rw [hbs]; rfl
      have hb0 : ∀ h : 0 < bs.size, bs[0] = b := by subst hbs; exact fun _ => rfl
      have HB0 := hide hb0
      clear hgk hbs hb0
      go_wp2_with fail
      (with_reducible refine (BR.out _).mono ?_)
      rintro e1 w1 ⟨rfl, q1⟩
      have Y1 := hide (Y.out.below q1)
      have Q1 := hide (below_next Q.out Q.out.size q1)
      clear q1 Y Q BR hk0
      go_wp2_with fail
      go_loopw [33] (fun vj W => ∃ j : Nat, j ≤ 1 ∧ vj = .int .i64 j ∧ Hid (ByB W w.heap.size [if j = 0 then a else mB a b]) ∧ Hid (Below w.heap.size w W)) (fun vj _ => 1 - (intOf vj).toNat)
      case atStart => exact ⟨0, by omega, rfl, Y1, Q1⟩
      case round =>
        clear Y1 Q1
        obtain ⟨j, hj, rfl, Y, Q⟩ := hrel
        by_cases hj1 : j < 1
        · obtain rfl : j = 0 := by omega
          rw [if_pos rfl] at Y
          have hbi : (0 : Int) < (bs.size : Int) := by omega
          have hbx := HB0.out (by omega)
          have NY := hide ((show ByB (wr.drew.setCell ⟨w.heap.size, 0, none⟩ (.int .u8 ((mB a b).toNat : Int))) w.heap.size [mB a b] from (ByB.set Y.out.drew (j := 0) (by simp) (mB a b))))
          have NQ := hide (show Below w.heap.size w (wr.drew.setCell ⟨w.heap.size, 0, none⟩ (.int .u8 ((mB a b).toNat : Int))) from Q.out.drew.setCell (p := ⟨w.heap.size, 0, none⟩) (Nat.le_refl _) _)
          obtain ⟨yc, yf⟩ := Y.out.drew.cell (j := 0) (by simp)
          have hmin : ((mB a b).toNat : Int) = min (a.toNat : Int) (b.toNat : Int) := by
            rcases hak with rfl | rfl <;> rcases hbk with rfl | rfl <;> decide
          obtain ⟨mn, em, hmn⟩ := run_min8 (P := Tryz.prog) (a.toNat : Int) (b.toNat : Int)
          rw [← hmin] at em
          subst em
          have YC := hide (show wr.drew.cell? ⟨w.heap.size, 0, none⟩ = some (.int .u8 a.toNat) from yc)
          have HM := hide hmin
          clear yc hmin
          go_upto_region 12 with fail
          refine wp_region_L [0, 1, 2, 3, 4, 5, 6, 7, 8, 9, 10] [(5, fun W => W.cell? ⟨w.heap.size, 0, none⟩ = some (.int .u8 a.toNat))] (by kernel_rfl) ?_
          generalize wr.drew = wd at *
          refine wpAnyL_pure (i := 0) (v := .slice (some ⟨w.heap.size, 0, none⟩) 1 cap) rfl rfl (by kernel_rfl) (by kernel_rfl) (by kernel_rfl) (by kernel_rfl) (by kernel_rfl) (fun _ _ _ h => h) rfl (fun W => by go_simp) ?_
          go_simp
          refine wpAnyL_pure (i := 1) (v := .int .i64 0) rfl rfl (by kernel_rfl) (by kernel_rfl) (by kernel_rfl) (by kernel_rfl) (by kernel_rfl) (fun _ _ _ h => h) rfl (fun W => by go_simp) ?_
          go_simp
          refine wpAnyL_pure (i := 2) (v := .slice (some ⟨w.heap.size, 0, none⟩) 1 cap) rfl rfl (by kernel_rfl) (by kernel_rfl) (by kernel_rfl) (by kernel_rfl) (by kernel_rfl) (fun _ _ _ h => h) rfl (fun W => by go_simp) ?_
          go_simp
          refine wpAnyL_pure (i := 3) (v := .int .i64 0) rfl rfl (by kernel_rfl) (by kernel_rfl) (by kernel_rfl) (by kernel_rfl) (by kernel_rfl) (fun _ _ _ h => h) rfl (fun W => by go_simp) ?_
          go_simp
          refine wpAnyL_pure (i := 4) (v := .pointer (some ⟨w.heap.size, 0, none⟩)) rfl rfl (by kernel_rfl) (by kernel_rfl) (by kernel_rfl) (by kernel_rfl) (by kernel_rfl) (fun _ _ _ h => h) rfl (fun W => by go_simp) ?_
          go_simp
          refine wpAnyL_load (i := 5) (v := .int .u8 a.toNat) rfl rfl (by kernel_rfl) (by kernel_rfl) (by kernel_rfl) (by kernel_rfl) (by kernel_rfl) (fun _ _ _ h => h) rfl (fun W h => by go_simp) (YC.out) ?_
          go_simp
          refine wpAnyL_pure (i := 6) (v := .string bs) rfl rfl (by kernel_rfl) (by kernel_rfl) (by kernel_rfl) (by kernel_rfl) (by kernel_rfl) (fun _ _ _ h => h) rfl (fun W => by go_simp) ?_
          go_simp
          refine wpAnyL_pure (i := 7) (v := .int .i64 0) rfl rfl (by kernel_rfl) (by kernel_rfl) (by kernel_rfl) (by kernel_rfl) (by kernel_rfl) (fun _ _ _ h => h) rfl (fun W => by go_simp) ?_
          go_simp
          refine wpAnyL_pure (i := 8) (v := .int .u8 b.toNat) rfl rfl (by kernel_rfl) (by kernel_rfl) (by kernel_rfl) (by kernel_rfl) (by kernel_rfl) (fun _ _ _ h => h) rfl (fun W => by go_simp) ?_
          go_simp
          refine wpAnyL_pure (i := 9) (v := .int .u8 (mB a b).toNat) rfl rfl (by kernel_rfl) (by kernel_rfl) (by kernel_rfl) (by kernel_rfl) (by kernel_rfl) (fun _ _ _ h => h) rfl (fun W => by go_simp) ?_
          go_simp
          refine wpAnyL_pure (i := 10) (v := .pointer (some ⟨w.heap.size, 0, none⟩)) rfl rfl (by kernel_rfl) (by kernel_rfl) (by kernel_rfl) (by kernel_rfl) (by kernel_rfl) (fun _ _ _ h => h) rfl (fun W => by go_simp) ?_
          go_simp
          have yc := YC.out
          refine wpAnyL_one (i := 11) (by kernel_rfl) ?_
          refine wpOp_do rfl rfl ?_
          go_simp
          refine ⟨keepsL_all (by kernel_rfl) (by kernel_rfl), ?_⟩
          go_simp
          refine wpAnyL_done (by kernel_rfl) ?_ _
          go_wp2_with fail
          go_roundw
          case rel => exact ⟨1, by omega, by go_num, by rw [if_neg (by decide)]; exact NY, NQ⟩
          case measure => simp [intOf]
        · obtain rfl : j = 1 := by omega
          rw [if_neg (by decide), ← HN.out] at Y
          go_wp2_with fail
          go_roundw
          case rel => exact ⟨k + 1, by omega, by go_num, Y, Q⟩
          case measure => simp [intOf]; omega
    · obtain rfl : k = l.length := by omega
      have hcv2 : (convert 77 9 (.slice (some ⟨w.heap.size, 0, none⟩) 1 cap)).run Tryz.prog wr = .ok (.string ⟨#[r]⟩) wr :=
        run_bytes_str wr _ _ _ Tryz.underlying77 Tryz.underlying5 Tryz.underlying9 w.heap.size 1 cap [r] rfl (fun i hi => by
          have Y2 := Y.out
          rw [HALL.out] at Y2
          exact (Y2.cell hi).1)
      go_wp2_with fail
      go_ret2
      exact ⟨rfl, Q.out⟩
end Go.Proofs.YtkfedgjepiljiaaGreatDoor
