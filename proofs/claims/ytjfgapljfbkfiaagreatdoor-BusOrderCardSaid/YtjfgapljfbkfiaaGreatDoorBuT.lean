/- bits.And of rows of one bit each. -/
import Derived.Test.YtjfgapljfbkfiaaGreatDoorOrdL
import Derived.Test.YtjfgapljfbkfiaaGreatDoorMgRng
import Derived.Test.YtjfgapljfbkfiaaGreatDoorMgFrB
import Derived.Test.YtjfgapljfbkfiaaGreatDoorMgSgP
namespace Go.Proofs.YtjfgapljfbkfiaaGreatDoor
open Go.ChangeShapes Go.WideShapes Go.ChangeAt Go.RowKit
open FP (Fr)

def mB (a b : UInt8) : UInt8 := if a = 48 ∨ b = 48 then 48 else 49
/-- What the first k rows have, and b. -/
def andN (l : List UInt8) (b : UInt8) : Nat → UInt8
  | 0 => b
  | k + 1 => mB (andN l b k) (l.getD k 49)
theorem mB_bit (a b : UInt8) : mB a b = 48 ∨ mB a b = 49 := by unfold mB; split; exact .inl rfl; exact .inr rfl
theorem andN_bit (l : List UInt8) {b : UInt8} (hb : b = 48 ∨ b = 49) : ∀ k, andN l b k = 48 ∨ andN l b k = 49
  | 0 => hb
  | k + 1 => mB_bit _ _
theorem andN_low (l : List UInt8) {b : UInt8} (hb : b = 48 ∨ b = 49) : ∀ k, andN l b k = 48 ↔ b = 48 ∨ ∃ j, j < k ∧ l.getD j 49 = 48
  | 0 => ⟨fun h => .inl h, fun h => h.elim id (fun ⟨_, hj, _⟩ => absurd hj (by omega))⟩
  | k + 1 => by
    have ih := andN_low l hb k
    show mB (andN l b k) (l.getD k 49) = 48 ↔ _
    unfold mB
    constructor
    · intro h
      split at h
      · rename_i q
        rcases q with q | q
        · rcases ih.1 q with q | ⟨j, hj, q⟩
          · exact .inl q
          · exact .inr ⟨j, by omega, q⟩
        · exact .inr ⟨k, by omega, q⟩
      · exact absurd h (by decide)
    · intro h
      rw [if_pos]
      rcases h with h | ⟨j, hj, h⟩
      · exact .inl (ih.2 (.inl h))
      · by_cases e : j = k
        · subst e; exact .inr h
        · exact .inl (ih.2 (.inr ⟨j, by omega, h⟩))
def andB (l : List UInt8) : UInt8 := if l.any (· == 48) = true then 48 else 49
theorem andN_all {l : List UInt8} (hl : 0 < l.length) (hb : ∀ c ∈ l, c = 48 ∨ c = 49) : andN l (l.getD 0 49) l.length = andB l := by
  have h0 : l.getD 0 49 = 48 ∨ l.getD 0 49 = 49 := by
    rw [List.getD_eq_getElem?_getD, List.getElem?_eq_getElem hl]
    exact hb _ (List.getElem_mem hl)
  have h := andN_low l h0 l.length
  unfold andB
  by_cases q : l.any (· == 48) = true
  · rw [if_pos q, h]
    obtain ⟨c, hc, e⟩ := List.any_eq_true.1 q
    obtain ⟨j, hj, rfl⟩ := List.getElem_of_mem hc
    refine .inr ⟨j, hj, ?_⟩
    rw [List.getD_eq_getElem?_getD, List.getElem?_eq_getElem hj]
    simpa using e
  · rw [if_neg q]
    rcases andN_bit l h0 l.length with e | e
    · exfalso
      apply q
      rw [List.any_eq_true]
      rcases h.1 e with e | ⟨j, hj, e⟩
      · exact ⟨l[0], List.getElem_mem hl, by rw [List.getD_eq_getElem?_getD, List.getElem?_eq_getElem hl] at e; simpa using e⟩
      · exact ⟨l[j], List.getElem_mem hj, by rw [List.getD_eq_getElem?_getD, List.getElem?_eq_getElem hj] at e; simpa using e⟩
    · exact e
/-- Rows of one bit each. -/
def bitRows (l : List UInt8) : List (List Value) := l.map fun b => [.string ⟨#[b]⟩]
theorem bitRows_at {w : World} {B : Nat} {A : Option Addr} {l : List UInt8} (h : Rd w B A 1 (bitRows l)) {k : Nat} (hk : k < l.length) : ∃ g off, A = some ⟨g, off, none⟩ ∧ w.cell? ⟨g, off + k, none⟩ = some (.string ⟨#[l.getD k 49]⟩) := by
  obtain ⟨b, off, e, hb, hc⟩ := h (by unfold bitRows; rw [List.length_map]; omega)
  have hx : (bitRows l)[k]? = some [.string ⟨#[l.getD k 49]⟩] := by
    unfold bitRows
    rw [List.getElem?_map, List.getElem?_eq_getElem hk, List.getD_eq_getElem?_getD, List.getElem?_eq_getElem hk]
    rfl
  have := hc k _ 0 _ hx rfl
  rw [Nat.mul_one, Nat.add_zero] at this
  exact ⟨b, off, e, this⟩

set_option maxRecDepth 100000 in
set_option maxHeartbeats 16000000 in
theorem bitsAnd_one (l : List UInt8) (A : Option Addr) (c : Nat) (w : World) (hr : Rd w w.heap.size A 1 (bitRows l)) (hl : 0 < l.length) (hl4 : l.length ≤ 100) (hb : ∀ c ∈ l, c = 48 ∨ c = 49) :
    Calls Tryz.prog 44 #[.slice A l.length c] w fun e w' => e = .returned (.tuple #[.string ⟨#[andB l]⟩, .int .i64 0]) ∧ Below w.heap.size w w' := by
  have HALL := hide (andN_all hl hb)
  have HBIT := hide (fun k (hk : k < l.length) => show l.getD k 49 = 48 ∨ l.getD k 49 = 49 from by
    rw [List.getD_eq_getElem?_getD, List.getElem?_eq_getElem hk]
    exact hb _ (List.getElem_mem hk))
  obtain ⟨x, hx⟩ : ∃ x, x = l.getD 0 49 := ⟨_, rfl⟩
  have hxb : x = 48 ∨ x = 49 := by rw [hx]; exact HBIT.out 0 hl
  have HAB := hide (andN_bit l hxb)
  rw [← hx] at HALL
  have HR := hide hr
  have hz : (0 : Int) < (l.length : Int) := by omega
  have hne : ((l.length : Int) == 0) = false := by rw [beq_eq_false_iff_ne]; omega
  obtain ⟨ag, ao, rfl, h0⟩ := bitRows_at hr hl
  rw [← hx] at h0
  obtain ⟨r, hrr⟩ : ∃ r, r = andB l := ⟨_, rfl⟩
  rw [← hrr] at HALL ⊢
  obtain ⟨d, hd⟩ : ∃ d : ByteArray, d = ⟨#[x]⟩ := ⟨_, rfl⟩
  rw [← hd, Nat.add_zero] at h0
  have hds : d.size = 1 := by rw [hd]; rfl
  have hcap : d.size ≤ grownCap w d.size 0 5 := grownCap_ge _ _ _ _
  have hcv := run_bytes_of_string (P := Tryz.prog) w 9 92 5 d Tryz.underlying9 Tryz.underlying92 Tryz.underlying5
  have Y3 := hide (ByB.made w.drew d _ hcap)
  generalize grownCap w d.size 0 5 = cap at *
  have q3 : Below w.heap.size w (w.drew.alloc (.cells (bytesRow d cap) 5 ((bytesRow d cap).size, (bytesRow d cap).size + 1))) := (Below.refl _ _).drew.alloc (Nat.le_refl _) _
  have Q3 := hide q3
  have YL : Hid (d.data.toList = [x]) := hide (by rw [hd])
  rw [YL.out] at Y3
  replace Y3 := hide (show ByB (w.drew.alloc (.cells (bytesRow d cap) 5 ((bytesRow d cap).size, (bytesRow d cap).size + 1))) w.heap.size [x] from Y3.out)
  generalize hw3 : w.drew.alloc (.cells (bytesRow d cap) 5 ((bytesRow d cap).size, (bytesRow d cap).size + 1)) = w3 at *
  have hdi : (d.size : Int) = 1 := by omega
  clear hr hb hx hrr hd q3 hxb
  go_enter Tryz.func44, Tryz.ntmps44
  go_wp2_with fail
  go_loopw [17] (fun vi W => ∃ k : Nat, k ≤ l.length ∧ vi = .int .i64 k ∧ Hid (ByB W w.heap.size [andN l x k]) ∧ Hid (Below w.heap.size w W)) (fun vi _ => l.length - (intOf vi).toNat)
  case atStart => exact ⟨0, Nat.zero_le _, rfl, Y3, Q3⟩
  case round =>
    clear Y3 Q3
    obtain ⟨k, hk, rfl, Y, Q⟩ := hrel
    by_cases hlt : k < l.length
    · have hki : (k : Int) < (l.length : Int) := by omega
      obtain ⟨ag2, ao2, hA2, hk0⟩ := bitRows_at (HR.out.next Q.out Q.out.size) hlt
      simp only [Option.some.injEq, Addr.mk.injEq, and_true] at hA2
      obtain ⟨rfl, rfl⟩ := hA2
      have hbk := HBIT.out k hlt
      have hak := HAB.out k
      have HN := hide (show andN l x (k + 1) = mB (andN l x k) (l.getD k 49) from rfl)
      generalize l.getD k 49 = b at *
      have BR := hide (fun W => show Calls Tryz.prog 37 #[.string ⟨#[b]⟩] W fun e w' => e = .returned (.bool true) ∧ Below W.heap.size W w' from by
        have := bitsRight_any ⟨#[b]⟩ W (by unfold maxLen; show 1 ≤ _; omega)
        have e : bitRow (⟨#[b]⟩ : ByteArray).data.toList = true := bitRow_iff.2 ⟨by show 1 ≤ 4000; omega, fun c hc => by
          have : c = b := by simpa using hc
          rw [this]; exact hbk⟩
        rwa [e] at this)
      generalize hgk : andN l x k = a at *
      obtain ⟨bs, hbs⟩ : ∃ bs : ByteArray, bs = ⟨#[b]⟩ := ⟨_, rfl⟩
      rw [← hbs] at BR hk0
      have hbz : bs.size = 1 := by rw [hbs]; rfl
      have hb0 : ∀ h : 0 < bs.size, bs[0] = b := by subst hbs; exact fun _ => rfl
      have HB0 := hide hb0
      clear hgk hbs hb0
      go_wp2_with fail
      (with_reducible refine (BR.out _).mono ?_)
      rintro e1 w1 ⟨rfl, q1⟩
      have Y1 := hide (Y.out.below q1)
      have Q1 := hide (below_next Q.out Q.out.size q1)
      clear q1 Y Q BR hk0
      go_wp2_with fail
      go_loopw [33] (fun vj W => ∃ j : Nat, j ≤ 1 ∧ vj = .int .i64 j ∧ Hid (ByB W w.heap.size [if j = 0 then a else mB a b]) ∧ Hid (Below w.heap.size w W)) (fun vj _ => 1 - (intOf vj).toNat)
      case atStart => exact ⟨0, by omega, rfl, Y1, Q1⟩
      case round =>
        clear Y1 Q1
        obtain ⟨j, hj, rfl, Y, Q⟩ := hrel
        by_cases hj1 : j < 1
        · obtain rfl : j = 0 := by omega
          rw [if_pos rfl] at Y
          have hbi : (0 : Int) < (bs.size : Int) := by omega
          have hbx := HB0.out (by omega)
          have NY := hide ((show ByB (wr.drew.setCell ⟨w.heap.size, 0, none⟩ (.int .u8 ((mB a b).toNat : Int))) w.heap.size [mB a b] from (ByB.set Y.out.drew (j := 0) (by simp) (mB a b))))
          have NQ := hide (show Below w.heap.size w (wr.drew.setCell ⟨w.heap.size, 0, none⟩ (.int .u8 ((mB a b).toNat : Int))) from Q.out.drew.setCell (p := ⟨w.heap.size, 0, none⟩) (Nat.le_refl _) _)
          obtain ⟨yc, yf⟩ := Y.out.drew.cell (j := 0) (by simp)
          have hmin : ((mB a b).toNat : Int) = min (a.toNat : Int) (b.toNat : Int) := by
            rcases hak with rfl | rfl <;> rcases hbk with rfl | rfl <;> decide
          obtain ⟨mn, em, hmn⟩ := run_min8 (P := Tryz.prog) (a.toNat : Int) (b.toNat : Int)
          rw [← hmin] at em
          subst em
          have YC := hide (show wr.drew.cell? ⟨w.heap.size, 0, none⟩ = some (.int .u8 a.toNat) from yc)
          have HM := hide hmin
          clear yc hmin
          go_upto_region 12 with fail
          refine wp_region_L [0, 1, 2, 3, 4, 5, 6, 7, 8, 9, 10] [(5, fun W => W.cell? ⟨w.heap.size, 0, none⟩ = some (.int .u8 a.toNat))] (by kernel_rfl) ?_
          generalize wr.drew = wd at *
          refine wpAnyL_pure (i := 0) (v := .slice (some ⟨w.heap.size, 0, none⟩) 1 cap) rfl rfl (by kernel_rfl) (by kernel_rfl) (by kernel_rfl) (by kernel_rfl) (by kernel_rfl) (fun _ _ _ h => h) rfl (fun W => by go_simp) ?_
          go_simp
          refine wpAnyL_pure (i := 1) (v := .int .i64 0) rfl rfl (by kernel_rfl) (by kernel_rfl) (by kernel_rfl) (by kernel_rfl) (by kernel_rfl) (fun _ _ _ h => h) rfl (fun W => by go_simp) ?_
          go_simp
          refine wpAnyL_pure (i := 2) (v := .slice (some ⟨w.heap.size, 0, none⟩) 1 cap) rfl rfl (by kernel_rfl) (by kernel_rfl) (by kernel_rfl) (by kernel_rfl) (by kernel_rfl) (fun _ _ _ h => h) rfl (fun W => by go_simp) ?_
          go_simp
          refine wpAnyL_pure (i := 3) (v := .int .i64 0) rfl rfl (by kernel_rfl) (by kernel_rfl) (by kernel_rfl) (by kernel_rfl) (by kernel_rfl) (fun _ _ _ h => h) rfl (fun W => by go_simp) ?_
          go_simp
          refine wpAnyL_pure (i := 4) (v := .pointer (some ⟨w.heap.size, 0, none⟩)) rfl rfl (by kernel_rfl) (by kernel_rfl) (by kernel_rfl) (by kernel_rfl) (by kernel_rfl) (fun _ _ _ h => h) rfl (fun W => by go_simp) ?_
          go_simp
          refine wpAnyL_load (i := 5) (v := .int .u8 a.toNat) rfl rfl (by kernel_rfl) (by kernel_rfl) (by kernel_rfl) (by kernel_rfl) (by kernel_rfl) (fun _ _ _ h => h) rfl (fun W h => by go_simp) (YC.out) ?_
          go_simp
          refine wpAnyL_pure (i := 6) (v := .string bs) rfl rfl (by kernel_rfl) (by kernel_rfl) (by kernel_rfl) (by kernel_rfl) (by kernel_rfl) (fun _ _ _ h => h) rfl (fun W => by go_simp) ?_
          go_simp
          refine wpAnyL_pure (i := 7) (v := .int .i64 0) rfl rfl (by kernel_rfl) (by kernel_rfl) (by kernel_rfl) (by kernel_rfl) (by kernel_rfl) (fun _ _ _ h => h) rfl (fun W => by go_simp) ?_
          go_simp
          refine wpAnyL_pure (i := 8) (v := .int .u8 b.toNat) rfl rfl (by kernel_rfl) (by kernel_rfl) (by kernel_rfl) (by kernel_rfl) (by kernel_rfl) (fun _ _ _ h => h) rfl (fun W => by go_simp) ?_
          go_simp
          refine wpAnyL_pure (i := 9) (v := .int .u8 (mB a b).toNat) rfl rfl (by kernel_rfl) (by kernel_rfl) (by kernel_rfl) (by kernel_rfl) (by kernel_rfl) (fun _ _ _ h => h) rfl (fun W => by go_simp) ?_
          go_simp
          refine wpAnyL_pure (i := 10) (v := .pointer (some ⟨w.heap.size, 0, none⟩)) rfl rfl (by kernel_rfl) (by kernel_rfl) (by kernel_rfl) (by kernel_rfl) (by kernel_rfl) (fun _ _ _ h => h) rfl (fun W => by go_simp) ?_
          go_simp
          have yc := YC.out
          refine wpAnyL_one (i := 11) (by kernel_rfl) ?_
          refine wpOp_do rfl rfl ?_
          go_simp
          refine ⟨keepsL_all (by kernel_rfl) (by kernel_rfl), ?_⟩
          go_simp
          refine wpAnyL_done (by kernel_rfl) ?_ _
          go_wp2_with fail
          go_roundw
          case rel => exact ⟨1, by omega, by go_num, by rw [if_neg (by decide)]; exact NY, NQ⟩
          case measure => simp [intOf]
        · obtain rfl : j = 1 := by omega
          rw [if_neg (by decide), ← HN.out] at Y
          go_wp2_with fail
          go_roundw
          case rel => exact ⟨k + 1, by omega, by go_num, Y, Q⟩
          case measure => simp [intOf]; omega
    · obtain rfl : k = l.length := by omega
      have hcv2 : (convert 92 9 (.slice (some ⟨w.heap.size, 0, none⟩) 1 cap)).run Tryz.prog wr = .ok (.string ⟨#[r]⟩) wr :=
        run_bytes_str wr _ _ _ Tryz.underlying92 Tryz.underlying5 Tryz.underlying9 w.heap.size 1 cap [r] rfl (fun i hi => by
          have Y2 := Y.out
          rw [HALL.out] at Y2
          exact (Y2.cell hi).1)
      go_wp2_with fail
      go_ret2
      exact ⟨rfl, Q.out⟩
end Go.Proofs.YtjfgapljfbkfiaaGreatDoor
