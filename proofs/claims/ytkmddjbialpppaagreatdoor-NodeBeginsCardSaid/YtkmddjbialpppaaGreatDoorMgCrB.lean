import Derived.Test.YtkmddjbialpppaaGreatDoorMgGd
import Derived.Test.YtkmddjbialpppaaGreatDoorMgOrdL
import Derived.Test.YtkmddjbialpppaaGreatDoorMgFin
import Derived.Laws.BitsAllLaws
namespace Go.Proofs.YtkmddjbialpppaaGreatDoor
open Go.ChangeShapes Go.WideShapes Go.ChangeAt Go.RowKit
open FP (aY dG cV fP)
theorem crcStep_lo (r : Nat) (c : UInt8) (h : (r.testBit 14) = (c == 49)) : cV r c = 2 * r % 32768 := by
  unfold cV; rw [h]; simp
theorem crcStep_hi (r : Nat) (c : UInt8) (h : (r.testBit 14) = !(c == 49)) : cV r c = (2 * r % 32768) ^^^ 17817 := by
  unfold cV; rw [h]; cases c == 49 <;> simp
theorem testBit14 (r : Nat) (h : r < 32768) : r.testBit 14 = decide (r / 16384 = 1) := by
  rw [Nat.testBit_eq_decide_div_mod_eq]
  apply decide_eq_decide.2
  have : (2 : Nat) ^ 14 = 16384 := rfl
  rw [this]
  omega
theorem gC (W : World) (b j : Nat) (v : Value) : W.grownBy (W.setCell ⟨b, j, none⟩ v) (some b) :=
  ⟨rfl, rfl, rfl, by simp [World.setCell], fun k _ hne => by
    have hk : k ≠ b := fun e => hne (by rw [e])
    simp [World.setCell, Array.getElem?_modify, Ne.symm hk]⟩
theorem and15 (r : Nat) (h : r < 32768) : bits .and .u32 ((r : Int) * 2) 32767 = ((2 * r % 32768 : Nat) : Int) := by
  have h := u32_and_nat (2 * r) 32767 (by omega) (by omega)
  rw [show ((32767 : Nat) : Int) = 32767 from rfl] at h
  rw [show (r : Int) * 2 = ((2 * r : Nat) : Int) by omega, h, show (32767 : Nat) = 2 ^ 15 - 1 by decide, Nat.and_two_pow_sub_one_eq_mod]
theorem xor15 (x : Nat) (h : x < 32768) : bits .xor .u32 (x : Int) 17817 = ((x ^^^ 17817 : Nat) : Int) := by
  have h := u32_xor_nat x 17817 (by omega) (by omega)
  rw [show ((17817 : Nat) : Int) = 17817 from rfl] at h
  exact h
theorem top15 (r : Nat) (h : r < 32768) : bits .and .u32 ((r : Int) / 16384) 1 = if r.testBit 14 then 1 else 0 := by
  have e := u32_and_nat (r / 16384) 1 (by omega) (by omega)
  rw [show ((1 : Nat) : Int) = 1 from rfl, show ((r / 16384 : Nat) : Int) = (r : Int) / 16384 by omega] at e
  rw [e, Nat.and_one_is_mod, testBit14 r h]
  by_cases h1 : r / 16384 = 1
  · rw [decide_eq_true h1, if_pos rfl]; omega
  · rw [decide_eq_false h1, if_neg (by decide)]; omega
set_option maxRecDepth 100000 in
set_option maxHeartbeats 1000000 in
theorem crcStep_any (r : Nat) (c : UInt8) (w : World) (hr : r < 32768) :
    Calls Tryz.prog 246 #[.int .u32 r, .int .u8 c.toNat] w fun e w' => e = .returned (.int .u32 (cV r c : Nat)) ∧ w = w' := by
  have T := top15 r hr
  have A := aA (and15 r hr)
  have X := aA (xor15 (2 * r % 32768) (by omega))
  have ec : ((c.toNat : Int) == 49) = (c == 49) := by
    rw [Bool.eq_iff_iff, beq_iff_eq, beq_iff_eq]
    constructor
    · intro e; exact UInt8.toNat_inj.1 (by simpa using (by omega : c.toNat = 49))
    · rintro rfl; rfl
  have LO := aA (crcStep_lo r c)
  have HI := aA (crcStep_hi r c)
  generalize cV r c = res at *
  rcases ht : r.testBit 14 with _ | _ <;> rcases hc : (c == 49) with _ | _
  all_goals
    rw [ht] at T
    rw [hc] at ec
    simp only [if_true, if_false, Bool.false_eq_true] at T
    have HT := aA ht
    have HC := aA hc
    clear ht hc
    go_enter Tryz.func246, Tryz.ntmps246
    go_wp2
    go_ret
    refine ⟨ret_int ?_, rfl⟩
    first
      | (rw [LO.out (by simp [HT.out, HC.out])]; exact A.out)
      | (rw [HI.out (by simp [HT.out, HC.out]), ← X.out, ← A.out])
def EachP (b : Nat) (l : List UInt8) (w : World) (e : Ending) (w' : World) : Prop :=
  e = .returned (.tuple #[]) ∧ w'.heap[b]? = some (.cells #[.int .u32 (dG l : Nat)] 23 (0, 0)) ∧ w.grownBy w' (some b)
set_option maxRecDepth 100000 in
set_option maxHeartbeats 1000000 in
theorem sumStep_any (b r : Nat) (c : UInt8) (w : World) (hr : r < 32768) (h : w.heap[b]? = some (.cells #[.int .u32 r] 23 (0, 0))) :
    Calls Tryz.prog 245 #[.int .u8 c.toNat, .pointer (some ⟨b, 0, none⟩)] w fun e w' => e = .returned (.tuple #[]) ∧ w' = w.setCell ⟨b, 0, none⟩ (.int .u32 (cV r c : Nat)) := by
  have c0 : w.cell? ⟨b, 0, none⟩ = some (.int .u32 r) := by simp [World.cell?, h]
  have fz : w.frozen? ⟨b, 0, none⟩ = false := by simp [World.frozen?, h]
  clear h
  go_enter Tryz.func245, Tryz.ntmps245
  go_wp2_with fail
  refine (crcStep_any r c w hr).mono ?_
  rintro e1 w1 ⟨rfl, rfl⟩
  go_wp2
  go_end0
  exact ⟨rfl, rfl⟩
set_option maxRecDepth 100000 in
set_option maxHeartbeats 1000000 in
theorem each_any (s : ByteArray) (b : Nat) (w : World) (hs : s.size ≤ 4000) (h : w.heap[b]? = some (.cells #[.int .u32 0] 23 (0, 0))) :
    Calls Tryz.prog 244 #[.string s, .func (Fn.func 245) #[] #[.pointer (some ⟨b, 0, none⟩)]] w (EachP b s.data.toList w) := by
  have LS := aA (show s.data.toList.length = s.size from Array.length_toList)
  have AT := aA (fun j (hj : j < s.size) => show dG (s.data.toList.take (j + 1)) = cV (dG (s.data.toList.take j)) s[j] from by rw [List.take_succ_eq_append_getElem (by rw [LS.out]; exact hj), FP.crcOf_snoc]; rfl)
  have E := aA (show s.data.toList.take s.size = s.data.toList from List.take_of_length_le (by rw [LS.out]; exact Nat.le_refl _))
  have H := aA h
  clear h
  go_enter Tryz.func244, Tryz.ntmps244
  go_wp2_with fail
  go_loopw [7] (fun i W => ∃ k : Nat, k ≤ s.size ∧ i = .int .i64 k ∧ Hid (W.heap[b]? = some (.cells #[.int .u32 (dG (s.data.toList.take k) : Nat)] 23 (0, 0)) ∧ w.grownBy W (some b))) (fun i _ => s.size - (intOf i).toNat)
  case atStart => exact ⟨0, Nat.zero_le _, rfl, aA ⟨H.out, eV _ _⟩⟩
  case round =>
    clear H
    obtain ⟨k, hk, rfl, H⟩ := hrel
    by_cases hlt : k < s.size
    · have A := aA (AT.out k hlt)
      have L := aA (FP.crcOf_lt (s.data.toList.take k))
      go_wp2_with fail
      refine (sumStep_any b _ s[k] wr L.out H.out.1).mono ?_
      rintro e1 w1 ⟨rfl, rfl⟩
      have NX : Hid ((wr.setCell ⟨b, 0, none⟩ (.int .u32 (cV (dG (s.data.toList.take k)) s[k] : Nat))).heap[b]? = some (.cells #[.int .u32 (dG (s.data.toList.take (k + 1)) : Nat)] 23 (0, 0)) ∧ w.grownBy (wr.setCell ⟨b, 0, none⟩ (.int .u32 (cV (dG (s.data.toList.take k)) s[k] : Nat))) (some b)) := by
        rw [A.out]
        refine aA ⟨?_, cZ H.out.2 (gC _ _ _ _)⟩
        have := heap_setCell_same wr b 0 _ 23 (.int .u32 (cV (dG (s.data.toList.take k)) s[k] : Nat)) H.out.1
        simpa using this
      generalize wr.setCell ⟨b, 0, none⟩ (.int .u32 (cV (dG (s.data.toList.take k)) s[k] : Nat)) = w2 at *
      clear H A
      go_wp2
      go_roundw
      case rel => exact ⟨k + 1, by omega, by go_num, NX⟩
      case measure => simp [intOf]; omega
    · obtain rfl : k = s.size := by omega
      rw [E.out] at H
      go_wp2
      go_end0
      exact ⟨rfl, H.out⟩
set_option maxRecDepth 100000 in
set_option maxHeartbeats 1000000 in
theorem crcOf_any (s : ByteArray) (w : World) (hb : dU s.data.toList = true) (hs : s.size ≤ 4000) :
    Calls Tryz.prog 214 #[.string s] w fun e w' => e = .returned (.tuple #[.int .u32 (dG s.data.toList : Nat), .int .i64 0]) ∧ Below w.heap.size w w' := by
  have BR := aA (fun W => eF s W (by unfold maxLen; omega))
  rw [hb] at BR
  clear hb
  go_enter Tryz.func214, Tryz.ntmps214
  go_wp2_with fail
  refine (BR.out _).mono ?_
  rintro e1 w1 ⟨rfl, q1⟩
  have Q1 := aA q1
  have H0 := aA (World.alloc_heap_new w1 (.cells #[.int .u32 0] 23))
  clear q1
  go_wp2_with fail
  refine (each_any s w1.heap.size _ hs H0.out).mono ?_
  rintro e2 w2 ⟨rfl, h2, g2⟩
  have Q2 := aA (Below.grown (Q1.out.alloc Q1.out.size (.cells #[.int .u32 0] 23)) g2 (by have := Q1.out.size; simp; omega) (fun k hk => by have := Q1.out.size; simp only [Option.some.injEq] at hk; omega))
  have c2 : w2.cell? ⟨w1.heap.size, 0, none⟩ = some (.int .u32 (dG s.data.toList : Nat)) := by simp [World.cell?, h2]
  clear h2 g2
  go_wp2_with fail
  go_ret2
  exact ⟨rfl, Q2.out⟩
set_option maxRecDepth 100000 in
set_option maxHeartbeats 1000000 in
theorem crcFrame_any (s : ByteArray) (w : World) (hb : dU s.data.toList = true) (hs : s.size ≤ 3985) :
    Calls Tryz.prog 177 #[.string s] w fun e w' => e = .returned (.tuple #[.string ⟨(fP s.data.toList).toArray⟩, .int .i64 0]) ∧ Below w.heap.size w w' := by
  have CO := aA (fun W => crcOf_any s W hb (by omega))
  have L := FP.crcOf_lt s.data.toList
  have SF : fP s.data.toList = s.data.toList ++ aY (dG s.data.toList) 15 := rfl
  generalize fP s.data.toList = sf at *
  generalize dG s.data.toList = r at *
  have R := aA SF
  have h39 : decide ((3985 : Int) < s.size) = false := decide_eq_false (by omega)
  clear hb SF
  have BO := aA (fun W => jY r 15 W (by omega) (by omega))
  have hB : (⟨(aY r 15).toArray⟩ : ByteArray).size = 15 := by simp [ByteArray.size, FP.bitsOf_length]
  have HB := aA (show (⟨sf.toArray⟩ : ByteArray) = s ++ ⟨(aY r 15).toArray⟩ by rw [R.out]; simp [ByteArray.ext_iff])
  rw [HB.out]
  clear HB R
  generalize (⟨(aY r 15).toArray⟩ : ByteArray) = bs at *
  go_enter Tryz.func177, Tryz.ntmps177
  go_wp2_with fail
  refine (CO.out _).mono ?_
  rintro e1 w1 ⟨rfl, q1⟩
  go_wp2_with fail
  refine (BO.out _).mono ?_
  rintro e2 w2 ⟨rfl, q2⟩
  have Q2 := aA (aC q1 q1.size q2)
  clear q1 q2
  go_wp2_with fail
  go_ret2
  exact ⟨rfl, Q2.out⟩
set_option maxRecDepth 100000 in
set_option maxHeartbeats 1000000 in
theorem crcCheck_any (s : ByteArray) (w : World) (hb : dU s.data.toList = true) (hs : s.size ≤ 4000) :
    Calls Tryz.prog 175 #[.string s] w fun e w' => e = .returned (.bool (decide (15 ≤ s.size) && decide (dG s.data.toList = 0))) ∧ Below w.heap.size w w' := by
  have CO := aA (fun W => crcOf_any s W hb (by omega))
  generalize dG s.data.toList = r at *
  clear hb
  by_cases h15 : 15 ≤ s.size
  · have g1 : decide (15 ≤ s.size) = true := decide_eq_true h15
    rw [g1]
    have h15' : (15 : Int) ≤ s.size := by omega
    by_cases hr : r = 0
    · subst hr
      go_enter Tryz.func175, Tryz.ntmps175
      go_wp2_with fail
      refine (CO.out _).mono ?_
      rintro e1 w1 ⟨rfl, q1⟩
      go_wp2_with fail
      go_ret
      exact ⟨rfl, q1⟩
    · have g2 : decide (r = 0) = false := decide_eq_false hr
      have g3 : ((r : Int) == 0) = false := by rw [beq_eq_false_iff_ne]; omega
      rw [g2]
      clear hr
      go_enter Tryz.func175, Tryz.ntmps175
      go_wp2_with fail
      refine (CO.out _).mono ?_
      rintro e1 w1 ⟨rfl, q1⟩
      go_wp2_with fail
      go_ret
      exact ⟨rfl, q1⟩
  · have g1 : decide (15 ≤ s.size) = false := decide_eq_false h15
    rw [g1]
    have h15' : ¬ (15 : Int) ≤ s.size := by omega
    go_enter Tryz.func175, Tryz.ntmps175
    go_wp2_with fail
    refine (CO.out _).mono ?_
    rintro e1 w1 ⟨rfl, q1⟩
    go_wp2_with fail
    go_ret
    exact ⟨rfl, q1⟩
end Go.Proofs.YtkmddjbialpppaaGreatDoor
namespace Go.Proofs.YtkmddjbialpppaaGreatDoor
open Go.ChangeShapes Go.WideShapes Go.ChangeAt Go.RowKit
open FP (SS SInv ssN eK cJ dJ oth)
def stN (last : UInt8) (n : Nat) (c : UInt8) : Nat := if n = 5 then (if c = last then 5 else 1) else if c = last then n + 1 else 1
def stK (last : UInt8) (n : Nat) (c : UInt8) : Nat := if n = 5 then (if c = last then 3 else 2) else 1
def StP (b : Nat) (last : UInt8) (n : Nat) (c : UInt8) (w : World) (e : Ending) (w' : World) : Prop :=
  e = .returned (.int .i64 (stK last n c : Nat)) ∧ w'.heap[b]? = some (.cells #[.int .u8 c.toNat, .int .i64 (stN last n c : Nat)] 325 (0, 0)) ∧ w.grownBy w' (some b)
theorem two_st {W : World} {b : Nat} {x y : Value} {t : TypeId} (h : W.heap[b]? = some (.cells #[x, y] t (0, 0))) : W.cell? ⟨b, 0, none⟩ = some x ∧ W.cell? ⟨b, 1, none⟩ = some y ∧ ∀ j, W.frozen? ⟨b, j, none⟩ = false :=
  ⟨by simp [World.cell?, h], by simp [World.cell?, h], fun j => by simp [World.frozen?, h]⟩
set_option maxRecDepth 100000 in
set_option maxHeartbeats 1000000 in
theorem step_any (b : Nat) (last : UInt8) (n : Nat) (c : UInt8) (hn : n ≤ 5) (w : World) (h : w.heap[b]? = some (.cells #[.int .u8 last.toNat, .int .i64 n] 325 (0, 0))) :
    Calls Tryz.prog 222 #[.pointer (some ⟨b, 0, none⟩), .int .u8 c.toNat] w (StP b last n c w) := by
  have H := aA h
  obtain ⟨c0, c1, fz⟩ := two_st h
  clear h
  by_cases h5 : n = 5
  · subst h5
    by_cases hc : c = last
    · subst hc
      go_enter Tryz.func222, Tryz.ntmps222
      have K : stK c 5 c = 3 := by simp [stK]
      go_wp2
      go_ret
      exact ⟨by rw [K]; rfl, by simpa [stN] using H.out, eV _ _⟩
    · have e1 : ((c.toNat : Int) == (last.toNat : Int)) = false := by
        rw [beq_eq_false_iff_ne]; intro e; exact hc (UInt8.toNat_inj.1 (by omega))
      have K : stK last 5 c = 2 := by simp [stK, hc]
      have N : stN last 5 c = 1 := by simp [stN, hc]
      go_enter Tryz.func222, Tryz.ntmps222
      go_wp2
      go_ret
      refine ⟨by rw [K]; rfl, ?_, cZ (gC _ _ _ _) (gC _ _ _ _)⟩
      have h1 := heap_setCell_same w b 0 _ 325 (.int .u8 c.toNat) H.out
      have h2 := heap_setCell_same _ b 1 _ 325 (.int .i64 1) h1
      rw [N]
      simpa using h2
  · have e5 : ((n : Int) == 5) = false := by rw [beq_eq_false_iff_ne]; omega
    have hn4 : n ≤ 4 := by omega
    by_cases hc : c = last
    · subst hc
      have K : stK c n c = 1 := by simp [stK, h5]
      have N : stN c n c = n + 1 := by simp [stN, h5]
      have HK := aA K
      have HN := aA N
      clear K N h5
      go_enter Tryz.func222, Tryz.ntmps222
      go_wp2
      go_ret
      refine ⟨by rw [HK.out]; rfl, ?_, gC _ _ _ _⟩
      have h2 := heap_setCell_same w b 1 _ 325 (.int .i64 ((n : Int) + 1)) H.out
      rw [HN.out]
      simpa using h2
    · have e1 : ((c.toNat : Int) == (last.toNat : Int)) = false := by
        rw [beq_eq_false_iff_ne]; intro e; exact hc (UInt8.toNat_inj.1 (by omega))
      have K : stK last n c = 1 := by simp [stK, h5]
      have N : stN last n c = 1 := by simp [stN, h5, hc]
      have HK := aA K
      have HN := aA N
      clear K N h5 hc
      go_enter Tryz.func222, Tryz.ntmps222
      go_wp2
      go_ret
      refine ⟨by rw [HK.out]; rfl, ?_, cZ (gC _ _ _ _) (gC _ _ _ _)⟩
      have h1 := heap_setCell_same w b 0 _ 325 (.int .u8 c.toNat) H.out
      have h2 := heap_setCell_same _ b 1 _ 325 (.int .i64 1) h1
      rw [HN.out]
      simpa using h2
def cP (l : List UInt8) : List (List Value) := l.map fun c => [.int .u8 c.toNat]
theorem dH (l : List UInt8) : (cP l).length = l.length := by simp [cP]
theorem byRow_rows (l : List UInt8) : ∀ r ∈ cP l, r.length = 1 := by
  intro r hr
  obtain ⟨j, _, rfl⟩ := List.mem_map.1 hr
  rfl
theorem j7 (l : List UInt8) (c : UInt8) : cP (l ++ [c]) = cP l ++ [[.int .u8 c.toNat]] := by simp [cP]
theorem byRow_get {l : List UInt8} {j : Nat} (h : j < l.length) : (cP l)[j]? = some [.int .u8 l[j].toNat] := by simp [cP, h]
theorem slByte : SlT Tryz.prog 140 5 1 1 := SlT.mk (z := .int .u8 0) Tryz.underlying140 (by kernel_rfl) rfl (by decide)
theorem byOwn_cell {W : World} {B c g : Nat} {l : List UInt8} (h : Own W B 5 1 (some ⟨g, 0, none⟩) c (cP l)) {j : Nat} (hj : j < l.length) : W.cell? ⟨g, j, none⟩ = some (.int .u8 l[j].toNat) := by
  have := own_at h (byRow_rows l) (byRow_get hj) (j := 0) rfl
  simpa using this
structure StM (w0 : World) (b : Nat) (last : UInt8) (n : Nat) (l : List UInt8) (w : World) : Prop where
  q : Below b w0 w
  st : w.heap[b + 1]? = some (.cells #[.int .u8 last.toNat, .int .i64 n] 325 (0, 0))
  ptr : w.heap[b + 2]? = some (.cells #[.pointer (some ⟨b + 1, 0, none⟩)] 323 (0, 0))
  row : ∃ A c, w.heap[b]? = some (.cells #[.slice A l.length c] 140 (0, 0)) ∧ Own w (b + 3) 5 1 A c (cP l)
def PutP (w0 : World) (b : Nat) (last : UInt8) (n : Nat) (l : List UInt8) (e : Ending) (w' : World) : Prop := e = .returned (.tuple #[]) ∧ StM w0 b last n l w'
set_option maxRecDepth 100000 in
set_option maxHeartbeats 1000000 in
theorem put_anyQ (w0 : World) (b : Nat) (last : UInt8) (n : Nat) (l : List UInt8) (c : UInt8) (hn : n ≤ 5) (hl : l.length ≤ 100000) (w : World) (h : StM w0 b last n l w) (p2 : Nat) (hp2 : p2 = b + 2) :
    Calls Tryz.prog 221 #[.int .u8 c.toNat, .pointer (some ⟨p2, 0, none⟩), .pointer (some ⟨b, 0, none⟩)] w (PutP w0 b c (stN last n c) (l ++ [c])) := by
  subst hp2
  obtain ⟨q, st, ptr, A, k, row, own⟩ := h
  have Q := aA q
  have ST := aA st
  have PT := aA ptr
  have RW := aA row
  have OW := aA own
  have p0 : w.cell? ⟨b + 2, 0, none⟩ = some (.pointer (some ⟨b + 1, 0, none⟩)) := by simp [World.cell?, ptr]
  clear q st ptr row own
  go_enter Tryz.func221, Tryz.ntmps221
  go_wp2_with fail
  refine (step_any (b + 1) last n c hn w ST.out).mono ?_
  rintro e1 w1 ⟨rfl, st1, g1⟩
  have ST1 := aA st1
  have PT1 := aA (bX PT.out g1 (by simp))
  have RW1 := aA (bX RW.out g1 (by simp))
  have OW1 := aA (show Own w1 (b + 3) 5 1 A k (cP l) from World.ownsRow.kept OW.out g1 (.inr fun he => by
    have := (World.ownsRow.lt OW.out _ he).1
    omega))
  have Q1 := aA (Q.out.grown g1 (by have := aH PT.out; omega) (fun k hk => by simp only [Option.some.injEq] at hk; omega))
  have z1 : b + 2 < w1.heap.size := aH PT1.out
  have r0 : w1.cell? ⟨b, 0, none⟩ = some (.slice A l.length k) := by have := RW1.out; simp [World.cell?, this]
  have rf : w1.frozen? ⟨b, 0, none⟩ = false := by have := RW1.out; simp [World.frozen?, this]
  clear st1 g1 p0 Q ST PT RW OW
  have OA := aA (OW1.out.alloc (.cells #[.int .u8 c.toNat] 5))
  have R6 := aA (fun t => eY (cs := [.int .u8 c.toNat]) (World.alloc_heap_new w1 (.cells #[.int .u8 c.toNat] t)))
  have E1 := aA (show ((cP l).length + [([.int .u8 c.toNat] : List Value)].length) * 1 ≤ 140737488355328 by rw [dH]; simp; omega)
  have E2 := aA (show (cP l).length + [([.int .u8 c.toNat] : List Value)].length ≤ maxLen by rw [dH]; simp [maxLen]; omega)
  have E3 := aA (show l.length = (cP l).length by rw [dH])
  go_wp2_with (at_builtin; refine cU _ rfl _ _ 140 rfl slByte (b + 3) _ _ _ (cP l) (by rfl) (by exact OA.out) _ _ _ [[.int .u8 c.toNat]] (by rfl) (by simpa using R6.out _) (by simp) (by simp [Value.oneCell']) (by exact E1.out) (by exact E2.out) (by simp; omega) (by exact E3.out) (by rfl) ?_)
  intro A6 c6 W6 o6 g6
  have Q6 := aA (iN (Q1.out.alloc (by omega) (.cells #[.int .u8 c.toNat] 5)) g6 OA.out (show b ≤ b + 3 by omega) (by simp; omega))
  have hb : (Value.slice A l.length k).ownBlock ≠ some b ∧ (Value.slice A l.length k).ownBlock ≠ some (b + 1) ∧ (Value.slice A l.length k).ownBlock ≠ some (b + 2) := by
    have key : ∀ x, (Value.slice A l.length k).ownBlock = some x → b + 3 ≤ x := fun x hx => by
      have hx' : (Value.slice A (cP l).length k).ownBlock = some x := by rw [← hx]; cases A <;> rfl
      exact (World.ownsRow.lt OA.out x hx').1
    exact ⟨fun h => absurd (key _ h) (by omega), fun h => absurd (key _ h) (by omega), fun h => absurd (key _ h) (by omega)⟩
  have up : ∀ {x o}, w1.heap[x]? = some o → (w1.alloc (.cells #[.int .u8 c.toNat] 5)).heap[x]? = some o := fun h => aB h ((Below.refl _ _).alloc (Nat.le_refl _) _)
  have ST6 := aA (bX (up ST1.out) g6 hb.2.1)
  have PT6 := aA (bX (up PT1.out) g6 hb.2.2)
  have RW6 := aA (bX (up RW1.out) g6 hb.1)
  have OW6 := aA o6
  have rf6 : W6.frozen? ⟨b, 0, none⟩ = false := by have := RW6.out; simp [World.frozen?, this]
  have r6 : W6.cell? ⟨b, 0, none⟩ = some (.slice A l.length k) := by have := RW6.out; simp [World.cell?, this]
  clear o6 g6 hb up OA R6 E1 E2 E3 r0 rf ST1 PT1 RW1 OW1 Q1
  go_wp2
  go_end0
  refine ⟨rfl, ?_, ?_, ?_, A6, c6, ?_, ?_⟩
  · exact Q6.out.setCell (Nat.le_refl _) _
  · rw [heap_setCell_other _ _ _ _ (by simp)]; exact ST6.out
  · rw [heap_setCell_other _ _ _ _ (by simp)]; exact PT6.out
  · have := heap_setCell_same W6 b 0 _ 140 (.slice A6 (l.length + 1) c6) RW6.out
    simpa using this
  · rw [j7]; exact own_set OW6.out (by omega) _
theorem stN_lt {s : SS} (h : s.n < 5) (c : UInt8) : stN s.last s.n c = ssN s c := by
  unfold stN ssN
  rw [if_neg (by omega)]
theorem oth_ne {c : UInt8} (h : c = 48 ∨ c = 49) : oth c ≠ c := by rcases h with rfl | rfl <;> decide
theorem stN_oth {c : UInt8} (h : c = 48 ∨ c = 49) : stN c 5 (oth c) = 1 := by
  unfold stN
  rw [if_pos rfl, if_neg (oth_ne h)]
set_option maxRecDepth 100000 in
theorem other_any (c : UInt8) (hc : c = 48 ∨ c = 49) (w : World) : Calls Tryz.prog 223 #[.int .u8 c.toNat] w fun e w' => e = .returned (.int .u8 (oth c).toNat) ∧ w = w' := by
  rcases hc with rfl | rfl
  all_goals
    go_enter Tryz.func223, Tryz.ntmps223
    go_wp2
    go_ret
    exact ⟨rfl, rfl⟩
theorem stM0 (w : World) : StM w w.heap.size 0 0 [] (((w.alloc (.cells #[.slice none 0 0] 140)).alloc (.cells #[.int .u8 0, .int .i64 0] 325)).alloc (.cells #[.pointer (some ⟨w.heap.size + 1, 0, none⟩)] 323)) := by
  have h1 := World.alloc_heap_new w (.cells #[.slice none 0 0] 140)
  have h2 := World.alloc_heap_new (w.alloc (.cells #[.slice none 0 0] 140)) (.cells #[.int .u8 0, .int .i64 0] 325)
  have h3 := World.alloc_heap_new ((w.alloc (.cells #[.slice none 0 0] 140)).alloc (.cells #[.int .u8 0, .int .i64 0] 325)) (.cells #[.pointer (some ⟨w.heap.size + 1, 0, none⟩)] 323)
  have h1' := aB (aB h1 ((Below.refl _ _).alloc (Nat.le_refl _) (.cells #[.int .u8 0, .int .i64 0] 325))) ((Below.refl _ _).alloc (Nat.le_refl _) (.cells #[.pointer (some ⟨w.heap.size + 1, 0, none⟩)] 323))
  have h2' := aB h2 ((Below.refl _ _).alloc (Nat.le_refl _) (.cells #[.pointer (some ⟨w.heap.size + 1, 0, none⟩)] 323))
  refine ⟨(((Below.refl _ _).alloc (Nat.le_refl _) _).alloc (by simp) _).alloc (by simp; omega) _, ?_, ?_, none, 0, h1', Own.nil⟩
  · simpa using h2'
  · simpa using h3
set_option maxRecDepth 100000 in
set_option maxHeartbeats 2000000 in
theorem stuff_any (s : ByteArray) (w : World) (hb : dU s.data.toList = true) (h0 : 0 < s.size) (hs : s.size ≤ 1000) :
    Calls Tryz.prog 179 #[.string s] w fun e w' => e = .returned (.tuple #[.string ⟨(dJ s.data.toList).toArray⟩, .int .i64 0]) ∧ Below w.heap.size w w' := by
  have BR := aA (fun W => eF s W (by unfold maxLen; omega))
  rw [hb] at BR
  have LS := aA (show s.data.toList.length = s.size from Array.length_toList)
  have HB := aA ((eJ.1 hb).2)
  have AT := aA (fun j (hj : j < s.size) => show s.data.toList.take (j + 1) = s.data.toList.take j ++ [s[j]] from by rw [List.take_succ_eq_append_getElem (by rw [LS.out]; exact hj)]; rfl)
  have BT := aA (fun j (hj : j < s.size) => show s[j] = 48 ∨ s[j] = 49 from HB.out _ (List.getElem_mem (l := s.data.toList) (by rw [LS.out]; exact hj)))
  have INV := aA (fun j (hj : j ≤ s.size) => show SInv (cJ (s.data.toList.take j)) j from by
    have := FP.stuff_inv (s.data.toList.take j) (fun c hc => HB.out c (List.mem_of_mem_take hc))
    rwa [List.length_take, LS.out, Nat.min_eq_left hj] at this)
  have E := aA (show s.data.toList.take s.size = s.data.toList from List.take_of_length_le (by rw [LS.out]; exact Nat.le_refl _))
  clear hb
  go_enter Tryz.func179, Tryz.ntmps179
  go_wp2_with fail
  refine (BR.out _).mono ?_
  rintro e1 w1 ⟨rfl, q1⟩
  have M0 := aA (stM0 w1)
  go_wp2_with fail
  generalize hp2 : w1.heap.size + 1 + 1 = p2 at *
  have HP := aA (show p2 = w1.heap.size + 2 by omega)
  clear hp2
  go_loopw [16] (fun i W => ∃ k : Nat, k ≤ s.size ∧ i = .int .i64 k ∧ Hid (StM w1 w1.heap.size (cJ (s.data.toList.take k)).last (cJ (s.data.toList.take k)).n (cJ (s.data.toList.take k)).out W)) (fun i _ => s.size - (intOf i).toNat)
  case atStart => exact ⟨0, Nat.zero_le _, rfl, M0⟩
  case round =>
    clear M0
    obtain ⟨k, hk, rfl, M⟩ := hrel
    have I := aA (INV.out k hk)
    by_cases hlt : k < s.size
    · have A1 := AT.out k hlt
      have B1 := BT.out k hlt
      have SN := aA (FP.stuffS_snoc (s.data.toList.take k) s[k])
      rw [← A1] at SN
      clear A1
      have L := aA (show (cJ (s.data.toList.take k)).out.length ≤ 2000 by have := I.out.len; omega)
      generalize cJ (s.data.toList.take k) = ss at *
      have N4 := aA I.out.n5
      have SL := aA (stN_lt N4.out s[k])
      clear I
      go_wp2_with fail
      refine (put_anyQ w1 w1.heap.size ss.last ss.n ss.out s[k] (by have := N4.out; omega) (by have := L.out; omega) wr M.out p2 HP.out).mono ?_
      rintro e2 w2 ⟨rfl, M2⟩
      have M2' := aA M2
      have c1 : w2.cell? ⟨p2, 0, none⟩ = some (.pointer (some ⟨w1.heap.size + 1, 0, none⟩)) := by have := M2.ptr; rw [HP.out]; simp [World.cell?, this]
      have c2 : w2.cell? ⟨w1.heap.size + 1, 1, none⟩ = some (.int .i64 (stN ss.last ss.n s[k] : Nat)) := by have := M2.st; simp [World.cell?, this]
      rw [SL.out] at c2 M2'
      clear M2 SL
      by_cases h5 : ssN ss s[k] = 5
      · rw [h5] at c2 M2'
        have T := aA (FP.ssStep_five h5)
        have SO := aA (stN_oth B1)
        clear h5 M
        go_wp2_with (go_at_call 223; refine (other_any _ B1 _).mono ?_; rintro e3 w3 ⟨rfl, rfl⟩)
        refine (put_anyQ w1 w1.heap.size s[k] 5 (ss.out ++ [s[k]]) (oth s[k]) (by omega) (by have := L.out; rw [List.length_append, List.length_singleton]; omega) w2 M2'.out p2 HP.out).mono ?_
        rintro e4 w4 ⟨rfl, M4⟩
        rw [SO.out] at M4
        have M5 : Hid (StM w1 w1.heap.size (cJ (s.data.toList.take (k + 1))).last (cJ (s.data.toList.take (k + 1))).n (cJ (s.data.toList.take (k + 1))).out w4) := by
          obtain ⟨t1, t2, t3, _⟩ := T.out
          rw [SN.out, t1, t2, t3]
          exact aA M4
        clear M4 c1 c2 M2' T SN
        go_wp2
        go_roundw
        case rel => exact ⟨k + 1, by omega, by go_num, M5⟩
        case measure => simp [intOf]; omega
      · have e5 : ((ssN ss s[k] : Int) == 5) = false := by rw [beq_eq_false_iff_ne]; omega
        have T := FP.ssStep_less h5
        have M5 : Hid (StM w1 w1.heap.size (cJ (s.data.toList.take (k + 1))).last (cJ (s.data.toList.take (k + 1))).n (cJ (s.data.toList.take (k + 1))).out w2) := by
          obtain ⟨t1, t2, t3, _⟩ := T
          rw [SN.out, t1, t2, t3]
          exact M2'
        clear T h5 SN M M2'
        go_wp2
        go_roundw
        case rel => exact ⟨k + 1, by omega, by go_num, M5⟩
        case measure => simp [intOf]; omega
    · obtain rfl : k = s.size := by omega
      rw [E.out] at M I
      have SL := aA (show dJ s.data.toList = (cJ s.data.toList).out from rfl)
      have L := aA (show (cJ s.data.toList).out.length ≤ 2000 ∧ s.size ≤ (cJ s.data.toList).out.length by have := I.out.len; omega)
      generalize (cJ s.data.toList).out = l at *
      generalize (cJ s.data.toList).last = la at *
      generalize (cJ s.data.toList).n = n at *
      clear I
      obtain ⟨A, c, row, own⟩ := M.out.row
      obtain ⟨g, rfl, hg1, hg2⟩ := own.ofLen (by rw [dH]; have := L.out; omega)
      have r0 : wr.cell? ⟨w1.heap.size, 0, none⟩ = some (.slice (some ⟨g, 0, none⟩) l.length c) := by simp [World.cell?, row]
      have LE := L.out.1
      have hle : (l.length : Int) ≤ 4000 := by omega
      have hconv := eE (P := Tryz.prog) wr 140 9 5 Tryz.underlying140 Tryz.underlying5 Tryz.underlying9 g l.length c l rfl (fun i h => byOwn_cell own h)
      have Q := aA (q1.trans (M.out.q.mono q1.size))
      clear row own M
      go_wp2
      go_ret2
      exact ⟨by rw [SL.out]; rfl, Q.out⟩
end Go.Proofs.YtkmddjbialpppaaGreatDoor
