import Derived.Test.YtkmddjbialpppaaGreatDoorMgFlB
import Derived.Test.YtkmddjbialpppaaGreatDoorMgSnB
import Derived.Test.YtkmddjbialpppaaGreatDoorMgFin
namespace Go.Proofs.YtkmddjbialpppaaGreatDoor
open Go.ChangeShapes Go.WideShapes Go.ChangeAt Go.RowKit
open ND
set_option maxRecDepth 100000 in
theorem smWithin_any (n a b : Int) (w : World) : Calls Tryz.prog 94 #[.int .i64 n, .int .i64 a, .int .i64 b] w fun e w' => e = .returned (.bool (cK n a b)) ∧ w = w' := by
  obtain ⟨r, hr⟩ : ∃ r, r = cK n a b := ⟨_, rfl⟩
  have HR := aA (show r = true ↔ a ≤ n ∧ n ≤ b from by rw [hr]; unfold cK; simp)
  rw [← hr]
  clear hr
  go_enter Tryz.func94, Tryz.ntmps94
  go_wp2_with fail
  all_goals go_ret
  all_goals refine ⟨aV ?_, rfl⟩
  all_goals (first | exact cA HR.out (by omega) | exact bI HR.out (by omega) | exact dV HR.out (by omega))
theorem sm_cells {W : World} {B : Nat} {n : Sm} {t : TypeId} {fz : Nat × Nat} (h : W.heap[B]? = some (.cells (bW n).toArray t fz)) :
    W.cell? ⟨B, 0, none⟩ = some (.int .i64 n.st) ∧ W.cell? ⟨B, 1, none⟩ = some (.bool n.wants) ∧ W.cell? ⟨B, 2, none⟩ = some (.int .i64 n.left) ∧ W.cell? ⟨B, 3, none⟩ = some (.int .i64 n.times) ∧ W.cell? ⟨B, 4, none⟩ = some (.int .i64 n.fast) ∧ W.cell? ⟨B, 5, none⟩ = some (.int .i64 n.many) ∧ W.cell? ⟨B, 6, none⟩ = some (.int .i64 n.slow) := by
  simp [World.cell?, h, bW]
set_option maxRecDepth 100000 in
set_option maxHeartbeats 16000000 in
theorem fL (n : Sm) (w : World) : Calls Tryz.prog 49 #[.agg (bW n).toArray] w fun e w' => e = .returned (.bool (smB n)) ∧ Below w.heap.size w w' := by
  obtain ⟨r, hr⟩ : ∃ r, r = smB n := ⟨_, rfl⟩
  rw [← hr]
  unfold smB at hr
  have HR := aA hr
  clear hr
  obtain ⟨w0, hw0⟩ : ∃ w0, w0 = w.alloc (.cells (bW n).toArray 51) := ⟨_, rfl⟩
  have B := aA (World.alloc_heap_new w (.cells (bW n).toArray 51))
  have Q : Hid (Below w.heap.size w w0) := by rw [hw0]; exact aA ((Below.refl _ _).alloc (Nat.le_refl _) _)
  rw [← hw0] at B
  have WI := aA smWithin_any
  obtain ⟨st, wants, left, times, fast, many, slow⟩ := n
  obtain ⟨c0, c1, c2, c3, c4, c5, c6⟩ := sm_cells B.out
  dsimp only at c0 c1 c2 c3 c4 c5 c6 HR
  have zb := aH B.out
  clear B zb
  obtain ⟨m, em, hm⟩ := run_max (P := Tryz.prog) fast slow
  have HR' := HR.out
  rw [← em] at HR'
  replace HR := aA HR'
  clear em HR'
  go_enter Tryz.func49, Tryz.ntmps49
  go_upto_region 1 with fail
  change Code.wp _ _ _ _ (w.alloc (.cells (bW ⟨st, wants, left, times, fast, many, slow⟩).toArray 51))
  rw [← hw0]
  clear hw0
  go_wp2_with fail
  (with_reducible refine (WI.out fast 1 1000000 _).mono ?_)
  rintro e1 w1 ⟨rfl, rfl⟩
  rcases h1 : cK fast 1 1000000 with _ | _
  ·
    have E := aA (show r = false by rw [HR.out, h1]; rfl)
    clear HR
    go_wp2_with fail
    go_ret
    exact ⟨by rw [E.out]; rfl, Q.out⟩
  have HR' := HR.out
  rw [h1, Bool.true_and] at HR'
  replace HR := aA HR'
  clear HR'
  clear h1
  go_wp2_with fail
  (with_reducible refine (WI.out slow 1 1000000 _).mono ?_)
  rintro e1 w1 ⟨rfl, rfl⟩
  rcases h1 : cK slow 1 1000000 with _ | _
  ·
    have E := aA (show r = false by rw [HR.out, h1]; rfl)
    clear HR
    go_wp2_with fail
    go_ret
    exact ⟨by rw [E.out]; rfl, Q.out⟩
  have HR' := HR.out
  rw [h1, Bool.true_and] at HR'
  replace HR := aA HR'
  clear HR'
  clear h1
  go_wp2_with fail
  (with_reducible refine (WI.out many 0 1000 _).mono ?_)
  rintro e1 w1 ⟨rfl, rfl⟩
  rcases h1 : cK many 0 1000 with _ | _
  ·
    have E := aA (show r = false by rw [HR.out, h1]; rfl)
    clear HR
    go_wp2_with fail
    go_ret
    exact ⟨by rw [E.out]; rfl, Q.out⟩
  have HR' := HR.out
  rw [h1, Bool.true_and] at HR'
  replace HR := aA HR'
  clear HR'
  clear h1
  go_wp2_with fail
  (with_reducible refine (WI.out st 0 2 _).mono ?_)
  rintro e1 w1 ⟨rfl, rfl⟩
  rcases h1 : cK st 0 2 with _ | _
  ·
    have E := aA (show r = false by rw [HR.out, h1]; rfl)
    clear HR
    go_wp2_with fail
    go_ret
    exact ⟨by rw [E.out]; rfl, Q.out⟩
  have HR' := HR.out
  rw [h1, Bool.true_and] at HR'
  replace HR := aA HR'
  clear HR'
  clear h1
  go_wp2_with fail
  (with_reducible refine (WI.out times 0 1000000 _).mono ?_)
  rintro e1 w1 ⟨rfl, rfl⟩
  rcases h1 : cK times 0 1000000 with _ | _
  ·
    have E := aA (show r = false by rw [HR.out, h1]; rfl)
    clear HR
    go_wp2_with fail
    go_ret
    exact ⟨by rw [E.out]; rfl, Q.out⟩
  have HR' := HR.out
  rw [h1, Bool.true_and] at HR'
  replace HR := aA HR'
  clear HR'
  clear h1
  rcases e0 : (st == 0) with _ | _
  ·
    have n0 : (st != 0) = true := by simp [bne, e0]
    cases wants with
    | false =>
      clear WI hm
      have E := aA (show r = false by rw [HR.out]; simp [bne, e0])
      clear HR
      go_wp2_with fail
      go_ret
      exact ⟨by rw [E.out]; rfl, Q.out⟩
    | true =>
      rcases e2 : (st == 2) with _ | _
      ·
        clear WI hm
        have E := aA (show r = (left == 0) by rw [HR.out]; simp [bne, e0, e2])
        clear HR
        go_wp2_with fail
        go_ret
        exact ⟨by rw [E.out]; rfl, Q.out⟩
      ·
        have E := aA (show r = cK left 1 m by rw [HR.out]; simp [bne, e0, e2])
        clear HR
        go_wp2_with fail
        (with_reducible refine (WI.out _ _ _ _).mono ?_)
        rintro e1 w1 ⟨rfl, rfl⟩
        go_wp2_with fail
        go_ret
        exact ⟨by rw [E.out]; rfl, Q.out⟩
  ·
    have n0 : (st != 0) = false := by simp [bne, e0]
    have e2 : (st == 2) = false := by have h : st = 0 := by simpa using e0
                                      rw [h]; rfl
    clear WI hm
    rcases t0 : (times == 0) with _ | _
    ·
      have n1 : (times != 0) = true := by simp [bne, t0]
      have E := aA (show r = false by rw [HR.out]; simp [bne, e0, t0])
      clear HR
      go_wp2_with fail
      go_ret
      exact ⟨by rw [E.out]; rfl, Q.out⟩
    ·
      have n1 : (times != 0) = false := by simp [bne, t0]
      cases wants with
      | true =>
        have E := aA (show r = false by rw [HR.out]; simp [bne, e0, t0])
        clear HR
        go_wp2_with fail
        go_ret
        exact ⟨by rw [E.out]; rfl, Q.out⟩
      | false =>
        have E := aA (show r = (left == 0) by rw [HR.out]; simp [bne, e0, t0, e2])
        clear HR
        go_wp2_with fail
        go_ret
        exact ⟨by rw [E.out]; rfl, Q.out⟩
set_option maxRecDepth 100000 in
set_option maxHeartbeats 16000000 in
theorem smNew_ok (a b c : Int) (w : World) (h : smB ⟨0, false, 0, 0, a, b, c⟩ = true) : Calls Tryz.prog 31 #[.int .i64 a, .int .i64 b, .int .i64 c] w fun e w' => e = .returned (.tuple #[.agg (bW ⟨0, false, 0, 0, a, b, c⟩).toArray, .int .i64 0]) ∧ Below w.heap.size w w' := by
  have RT := aA (fun W => show Calls Tryz.prog 49 #[.agg #[.int .i64 0, .bool false, .int .i64 0, .int .i64 0, .int .i64 a, .int .i64 b, .int .i64 c]] W fun e w' => e = .returned (.bool true) ∧ Below W.heap.size W w' from by
    have h1 := fL ⟨0, false, 0, 0, a, b, c⟩ W
    rw [h] at h1
    exact h1)
  clear h
  go_enter Tryz.func31, Tryz.ntmps31
  go_wp2_with fail
  have R := World.alloc_heap_new w (.cells #[.int .i64 0, .bool false, .int .i64 0, .int .i64 0, .int .i64 0, .int .i64 0, .int .i64 0] 51)
  have B := World.alloc_heap_new (w.alloc (.cells #[.int .i64 0, .bool false, .int .i64 0, .int .i64 0, .int .i64 0, .int .i64 0, .int .i64 0] 51)) (.cells #[.int .i64 0, .bool false, .int .i64 0, .int .i64 0, .int .i64 a, .int .i64 b, .int .i64 c] 51)
  have q0 : Below w.heap.size w ((w.alloc (.cells #[.int .i64 0, .bool false, .int .i64 0, .int .i64 0, .int .i64 0, .int .i64 0, .int .i64 0] 51)).alloc (.cells #[.int .i64 0, .bool false, .int .i64 0, .int .i64 0, .int .i64 a, .int .i64 b, .int .i64 c] 51)) := ((Below.refl _ _).alloc (Nat.le_refl _) _).alloc (by simp) _
  replace R := aB R ((Below.refl _ _).alloc (Nat.le_refl _) (.cells #[.int .i64 0, .bool false, .int .i64 0, .int .i64 0, .int .i64 a, .int .i64 b, .int .i64 c] 51))
  simp only [World.size_alloc] at B
  obtain ⟨w0, hw0⟩ : ∃ w0, w0 = (w.alloc (.cells #[.int .i64 0, .bool false, .int .i64 0, .int .i64 0, .int .i64 0, .int .i64 0, .int .i64 0] 51)).alloc (.cells #[.int .i64 0, .bool false, .int .i64 0, .int .i64 0, .int .i64 a, .int .i64 b, .int .i64 c] 51) := ⟨_, rfl⟩
  rw [← hw0] at R B q0 ⊢
  clear hw0
  (with_reducible refine (RT.out _).mono ?_)
  rintro e1 w1 ⟨rfl, q1⟩
  have R1 := aA (show w1.heap[w.heap.size]? = some (.cells (bW ⟨0, false, 0, 0, 0, 0, 0⟩).toArray 51 (0, 0)) from aB R q1)
  have B1 := aA (show w1.heap[w.heap.size + 1]? = some (.cells (bW ⟨0, false, 0, 0, a, b, c⟩).toArray 51 (0, 0)) from aB B q1)
  have Q1 := aA (aC q0 q0.size q1)
  clear R B q0 q1 RT
  have T1 := aA (show w1.there w.heap.size 0 7 from aK (cs := bW ⟨0, false, 0, 0, 0, 0, 0⟩) R1.out)
  go_wp2_with (first | (refine wpList_load_row rfl 51 (.tmp 8) (by rfl) (w.heap.size + 1) (by rfl) 51 (bW ⟨0, false, 0, 0, a, b, c⟩).toArray (0, 0) _ (by exact B1.out) Tryz.underlying51 (by rfl) (by kernel_rfl) ?_) | (refine aF (by rfl) 51 (.tmp 6) (.tmp 17) (by rfl) w.heap.size 0 (bW ⟨0, false, 0, 0, a, b, c⟩) (by rfl) (by rfl) (by exact T1.out) (by kernel_rfl) (by simp [Value.oneCell', bW]) ?_))
  intro w2 e2
  have R2 := aA (show w2.heap[w.heap.size]? = some (.cells (bW ⟨0, false, 0, 0, a, b, c⟩).toArray 51 (0, 0)) by rw [e2.out]; exact aJ (bW ⟨0, false, 0, 0, a, b, c⟩) (xs := bW ⟨0, false, 0, 0, 0, 0, 0⟩) R1.out rfl)
  have Q2 := aA (show Below w.heap.size w w2 by rw [e2.out]; exact Q1.out.trans (aE _ _ _ (by have := Q1.out.size; omega)))
  clear e2 T1 R1 B1 Q1
  go_wp2_with fail
  refine bodyPost_ret (aP (by rfl) _ w2 w.heap.size 51 (bW ⟨0, false, 0, 0, a, b, c⟩).toArray (0, 0) _ (.int .i64 0) (by rfl) (by rfl) R2.out Tryz.underlying51 (by rfl) (by kernel_rfl)) rfl ⟨rfl, Q2.out⟩
namespace ND
structure Pn.Rt (p : Pn) : Prop where
  lim : 1 ≤ p.lim ∧ p.lim ≤ 1000000
  own : bits .andNot .u16 p.own p.mem = 0
  seen : ∀ k, k < 16 → 0 ≤ p.seen k ∧ p.seen k ≤ p.lim
def kC (v : Int) : ByteArray := ⟨#[UInt8.ofNat (v % 256).toNat, UInt8.ofNat (v / 256 % 256).toNat]⟩
end ND
set_option maxRecDepth 100000 in
set_option maxHeartbeats 16000000 in
theorem gG (n : Pn) (w : World) (h : n.Rt) : Calls Tryz.prog 47 #[.agg (bO n).toArray] w fun e w' => e = .returned (.bool true) ∧ Below w.heap.size w w' := by
  obtain ⟨w0, hw0⟩ : ∃ w0, w0 = w.alloc (.cells (bO n).toArray 47) := ⟨_, rfl⟩
  have B := aA (World.alloc_heap_new w (.cells (bO n).toArray 47))
  have Q : Hid (Below w.heap.size w w0) := by rw [hw0]; exact aA ((Below.refl _ _).alloc (Nat.le_refl _) _)
  rw [← hw0] at B
  obtain ⟨c0, c1, c18, cs⟩ := eC B.out
  have CS := aA cs
  have zb := aH B.out
  obtain ⟨⟨hl1, hl2⟩, ho, hs⟩ := h
  have HS := aA hs
  clear B cs hs
  go_enter Tryz.func47, Tryz.ntmps47
  go_upto_region 1 with fail
  change Code.wp _ _ _ _ (w.alloc (.cells (bO n).toArray 47))
  rw [← hw0]
  clear hw0
  go_wp2_with fail
  go_loopw [20] (fun vi W => ∃ k : Nat, k ≤ 16 ∧ vi = .int .i64 k ∧ Hid (Below w0.heap.size w0 W)) (fun vi _ => 16 - (intOf vi).toNat)
  case atStart => exact ⟨0, Nat.zero_le _, rfl, aA (Below.refl _ _)⟩
  case round =>
    obtain ⟨k, hk, rfl, hq⟩ := hrel
    by_cases hlt : k < 16
    · have d18 := fun s : InW wr => s.cell (by have := hq.out.size; omega) (aT hq.out zb c18)
      have dk := fun s : InW wr => s.cell (by have := hq.out.size; omega) (aT hq.out zb (CS.out k hlt))
      obtain ⟨hs1, hs2⟩ := HS.out k hlt
      generalize n.seen k = v at *
      have hv1 : decide (v < 0) = false := decide_eq_false (by omega)
      have hv2 : decide (n.lim < v) = false := decide_eq_false (by omega)
      have hki : (k : Int) < 16 := by omega
      go_wp2_with fail
      refine bF (by kernel_rfl) (by kernel_rfl) ?_
      repeat (go_big_quiet_step (fail))
      refine wpQuiet_nil ?_
      rintro _ ⟨s, rfl⟩
      have Q2 := aA (aC hq.out hq.out.size s.h)
      go_wp2_with fail
      go_roundw
      case rel => exact ⟨k + 1, by omega, by go_num, Q2⟩
      case measure => simp [intOf]; omega
    · obtain rfl : k = 16 := by omega
      go_wp2_with fail
      go_ret
      exact ⟨rfl, aC Q.out Q.out.size hq.out⟩
set_option maxRecDepth 100000 in
set_option maxHeartbeats 16000000 in
theorem pnTell_ok (n : Pn) (w : World) (h : n.Rt) : Calls Tryz.prog 54 #[.agg (bO n).toArray] w fun e w' => e = .returned (.tuple #[.string (kC n.own), .int .i64 0]) ∧ Below w.heap.size w w' := by
  obtain ⟨w0, hw0⟩ : ∃ w0, w0 = w.alloc (.cells (bO n).toArray 47) := ⟨_, rfl⟩
  have B := aA (World.alloc_heap_new w (.cells (bO n).toArray 47))
  have Q : Hid (Below w.heap.size w w0) := by rw [hw0]; exact aA ((Below.refl _ _).alloc (Nat.le_refl _) _)
  rw [← hw0] at B
  have RT := aA (gG n w0 h)
  clear h
  go_enter Tryz.func54, Tryz.ntmps54
  go_upto_region 1 with fail
  change Code.wp _ _ _ _ (w.alloc (.cells (bO n).toArray 47))
  rw [← hw0]
  clear hw0
  go_wp2_with (refine wpList_load_row rfl 47 (.tmp 1) (by rfl) w.heap.size (by rfl) 47 (bO n).toArray (0, 0) _ (by exact B.out) Tryz.underlying47 (by rfl) (by kernel_rfl) ?_)
  (with_reducible refine (RT.out).mono ?_)
  rintro e1 w1 ⟨rfl, q1⟩
  replace B := aA (aB B.out q1)
  replace Q := aA (aC Q.out Q.out.size q1)
  clear RT q1
  obtain ⟨c0, c1, c18, cs⟩ := eC B.out
  clear cs
  have hcv : (convert 140 9 (.slice (some ⟨w1.heap.size, 0, none⟩) 2 2)).run Tryz.prog (w1.alloc (.cells #[.int .u8 (n.own % 256), .int .u8 (n.own / 256 % 256)] 5)) = .ok (.string (kC n.own)) (w1.alloc (.cells #[.int .u8 (n.own % 256), .int .u8 (n.own / 256 % 256)] 5)) := by
    have h1 : ((UInt8.ofNat (n.own % 256).toNat).toNat : Int) = n.own % 256 := by simp; omega
    have h2 : ((UInt8.ofNat (n.own / 256 % 256).toNat).toNat : Int) = n.own / 256 % 256 := by simp; omega
    rw [← h1, ← h2]
    exact eE _ _ _ _ Tryz.underlying140 Tryz.underlying5 Tryz.underlying9 w1.heap.size 2 2 [UInt8.ofNat (n.own % 256).toNat, UInt8.ofNat (n.own / 256 % 256).toNat] rfl (fun i hi => by
      rcases i with _ | _ | i
      · exact (by simp only [World.cell?, World.alloc_heap_new]; rfl)
      · exact (by simp only [World.cell?, World.alloc_heap_new]; rfl)
      · exact absurd hi (by simp))
  have q2 : Below w1.heap.size w1 (w1.alloc (.cells #[.int .u8 (n.own % 256), .int .u8 (n.own / 256 % 256)] 5)) := (Below.refl _ _).alloc (Nat.le_refl _) _
  have Q2 := aA (aC Q.out Q.out.size q2)
  clear q2
  go_wp2_with fail
  go_ret2
  exact ⟨rfl, Q2.out⟩
set_option maxRecDepth 100000 in
theorem dW (n a b : Int) (w : World) : Calls Tryz.prog 90 #[.int .i64 n, .int .i64 a, .int .i64 b] w fun e w' => e = .returned (.bool (cK n a b)) ∧ w = w' := by
  obtain ⟨r, hr⟩ : ∃ r, r = cK n a b := ⟨_, rfl⟩
  have HR := aA (show r = true ↔ a ≤ n ∧ n ≤ b from by rw [hr]; unfold cK; simp)
  rw [← hr]
  clear hr
  go_enter Tryz.func90, Tryz.ntmps90
  go_wp2_with fail
  all_goals go_ret
  all_goals refine ⟨aV ?_, rfl⟩
  all_goals (first | exact cA HR.out (by omega) | exact bI HR.out (by omega) | exact dV HR.out (by omega))
set_option maxRecDepth 100000 in
theorem nmAwake_any (n : Int) (w : World) : Calls Tryz.prog 93 #[.int .i64 n] w fun e w' => e = .returned (.bool (awkB n)) ∧ w = w' := by
  unfold awkB
  by_cases h2 : n = 2
  · subst h2
    go_enter Tryz.func93, Tryz.ntmps93
    go_wp2_with fail
    go_ret
    exact ⟨rfl, rfl⟩
  have e2 : (n == 2) = false := by rw [beq_eq_false_iff_ne]; exact h2
  clear h2
  by_cases h3 : n = 3
  · subst h3
    go_enter Tryz.func93, Tryz.ntmps93
    go_wp2_with fail
    go_ret
    exact ⟨rfl, rfl⟩
  have e3 : (n == 3) = false := by rw [beq_eq_false_iff_ne]; exact h3
  clear h3
  by_cases h4 : n = 4
  · subst h4
    go_enter Tryz.func93, Tryz.ntmps93
    go_wp2_with fail
    go_ret
    exact ⟨rfl, rfl⟩
  have e4 : (n == 4) = false := by rw [beq_eq_false_iff_ne]; exact h4
  clear h4
  rw [e2, e3, e4]
  go_enter Tryz.func93, Tryz.ntmps93
  go_wp2_with fail
  go_ret
  exact ⟨rfl, rfl⟩
set_option maxRecDepth 100000 in
theorem nmSends_any (n : Int) (w : World) : Calls Tryz.prog 92 #[.int .i64 n] w fun e w' => e = .returned (.bool (sdsB n)) ∧ w = w' := by
  unfold sdsB
  by_cases h2 : n = 2
  · subst h2
    go_enter Tryz.func92, Tryz.ntmps92
    go_wp2_with fail
    go_ret
    exact ⟨rfl, rfl⟩
  have e2 : (n == 2) = false := by rw [beq_eq_false_iff_ne]; exact h2
  clear h2
  by_cases h3 : n = 3
  · subst h3
    go_enter Tryz.func92, Tryz.ntmps92
    go_wp2_with fail
    go_ret
    exact ⟨rfl, rfl⟩
  have e3 : (n == 3) = false := by rw [beq_eq_false_iff_ne]; exact h3
  clear h3
  rw [e2, e3]
  go_enter Tryz.func92, Tryz.ntmps92
  go_wp2_with fail
  go_ret
  exact ⟨rfl, rfl⟩
set_option maxRecDepth 100000 in
theorem nmIs_any (v : Int) (on : Bool) (a b : Int) (w : World) : Calls Tryz.prog 91 #[.int .i64 v, .bool on, .int .i64 a, .int .i64 b] w fun e w' => e = .returned (.bool (isB v on a b)) ∧ w = w' := by
  have WI := aA dW
  cases on with
  | false =>
    go_enter Tryz.func91, Tryz.ntmps91
    go_wp2_with fail
    go_ret
    exact ⟨rfl, rfl⟩
  | true =>
    go_enter Tryz.func91, Tryz.ntmps91
    go_wp2_with fail
    (with_reducible refine (WI.out _ _ _ _).mono ?_)
    rintro e1 w1 ⟨rfl, rfl⟩
    go_wp2_with fail
    go_ret
    exact ⟨rfl, rfl⟩
theorem fR {W : World} {B : Nat} {n : Nm} {t : TypeId} {fz : Nat × Nat} (h : W.heap[B]? = some (.cells (bR n).toArray t fz)) :
    W.cell? ⟨B, 0, none⟩ = some (.int .i64 n.st) ∧ W.cell? ⟨B, 1, none⟩ = some (.bool n.wants) ∧ W.cell? ⟨B, 2, none⟩ = some (.int .i64 n.again) ∧ W.cell? ⟨B, 3, none⟩ = some (.int .i64 n.next) ∧ W.cell? ⟨B, 4, none⟩ = some (.int .i64 n.quiet) ∧ W.cell? ⟨B, 5, none⟩ = some (.int .i64 n.left) ∧ W.cell? ⟨B, 6, none⟩ = some (.int .i64 n.rep) ∧ W.cell? ⟨B, 7, none⟩ = some (.int .i64 n.cyc) ∧ W.cell? ⟨B, 8, none⟩ = some (.int .i64 n.hrd) ∧ W.cell? ⟨B, 9, none⟩ = some (.int .i64 n.wt) := by
  simp [World.cell?, h, bR]
set_option maxRecDepth 100000 in
set_option maxHeartbeats 64000000 in
theorem kF (n : Nm) (w : World) (h : nmB n = true) : Calls Tryz.prog 48 #[.agg (bR n).toArray] w fun e w' => e = .returned (.bool true) ∧ Below w.heap.size w w' := by
  obtain ⟨w0, hw0⟩ : ∃ w0, w0 = w.alloc (.cells (bR n).toArray 49) := ⟨_, rfl⟩
  have B := aA (World.alloc_heap_new w (.cells (bR n).toArray 49))
  have Q : Hid (Below w.heap.size w w0) := by rw [hw0]; exact aA ((Below.refl _ _).alloc (Nat.le_refl _) _)
  rw [← hw0] at B
  obtain ⟨st, wants, again, next, quiet, left, rep, cyc, hrd, wt⟩ := n
  obtain ⟨c0, c1, c2, c3, c4, c5, c6, c7, c8, c9⟩ := fR B.out
  dsimp only at c0 c1 c2 c3 c4 c5 c6 c7 c8 c9
  have zb := aH B.out
  clear B
  unfold nmB at h
  simp only [Bool.and_eq_true] at h
  obtain ⟨g0, g1, g2, g3, g4, k0, k1, k2, k3, hl⟩ := h
  have W0 := aA (fun W => show Calls Tryz.prog 90 #[.int .i64 rep, .int .i64 0, .int .i64 1000] W fun e w' => e = .returned (.bool true) ∧ W = w' from by
    have h := dW rep 0 1000 W
    rwa [g0] at h)
  have W1 := aA (fun W => show Calls Tryz.prog 90 #[.int .i64 cyc, .int .i64 1, .int .i64 1000] W fun e w' => e = .returned (.bool true) ∧ W = w' from by
    have h := dW cyc 1 1000 W
    rwa [g1] at h)
  have W2 := aA (fun W => show Calls Tryz.prog 90 #[.int .i64 hrd, .int .i64 1, .int .i64 1000] W fun e w' => e = .returned (.bool true) ∧ W = w' from by
    have h := dW hrd 1 1000 W
    rwa [g2] at h)
  have W3 := aA (fun W => show Calls Tryz.prog 90 #[.int .i64 wt, .int .i64 1, .int .i64 1000] W fun e w' => e = .returned (.bool true) ∧ W = w' from by
    have h := dW wt 1 1000 W
    rwa [g3] at h)
  have W4 := aA (fun W => show Calls Tryz.prog 90 #[.int .i64 st, .int .i64 0, .int .i64 4] W fun e w' => e = .returned (.bool true) ∧ W = w' from by
    have h := dW st 0 4 W
    rwa [g4] at h)
  have h1 := k0
  have IS0 := aA (fun W => show Calls Tryz.prog 91 #[.int .i64 again, .bool (st == 2), .int .i64 1, .int .i64 rep] W fun e w' => e = .returned (.bool true) ∧ W = w' from by
    have h := nmIs_any again (st == 2) 1 rep W
    rwa [h1] at h)
  clear h1 k0
  have h1 := k1
  have IS1 := aA (fun W => show Calls Tryz.prog 91 #[.int .i64 next, .bool (sdsB st), .int .i64 0, .int .i64 cyc] W fun e w' => e = .returned (.bool true) ∧ W = w' from by
    have h := nmIs_any next (sdsB st) 0 cyc W
    rwa [h1] at h)
  clear h1 k1
  have h1 := k2
  have IS2 := aA (fun W => show Calls Tryz.prog 91 #[.int .i64 quiet, .bool (awkB st), .int .i64 1, .int .i64 hrd] W fun e w' => e = .returned (.bool true) ∧ W = w' from by
    have h := nmIs_any quiet (awkB st) 1 hrd W
    rwa [h1] at h)
  clear h1 k2
  have h1 := k3
  have IS3 := aA (fun W => show Calls Tryz.prog 91 #[.int .i64 left, .bool (st == 1), .int .i64 1, .int .i64 wt] W fun e w' => e = .returned (.bool true) ∧ W = w' from by
    have h := nmIs_any left (st == 1) 1 wt W
    rwa [h1] at h)
  clear h1 k3
  have HL := aA hl
  have SN := aA nmSends_any
  have AK := aA nmAwake_any
  clear g0 g1 g2 g3 g4 hl
  go_enter Tryz.func48, Tryz.ntmps48
  go_upto_region 1 with fail
  change Code.wp _ _ _ _ (w.alloc (.cells (bR ⟨st, wants, again, next, quiet, left, rep, cyc, hrd, wt⟩).toArray 49))
  rw [← hw0]
  clear hw0
  go_wp2_with fail
  (with_reducible refine (W0.out _).mono ?_)
  rintro e1 w1 ⟨rfl, rfl⟩
  clear W0
  go_wp2_with fail
  (with_reducible refine (W1.out _).mono ?_)
  rintro e1 w1 ⟨rfl, rfl⟩
  clear W1
  go_wp2_with fail
  (with_reducible refine (W2.out _).mono ?_)
  rintro e1 w1 ⟨rfl, rfl⟩
  clear W2
  go_wp2_with fail
  (with_reducible refine (W3.out _).mono ?_)
  rintro e1 w1 ⟨rfl, rfl⟩
  clear W3
  go_wp2_with fail
  (with_reducible refine (W4.out _).mono ?_)
  rintro e1 w1 ⟨rfl, rfl⟩
  clear W4
  replace c0 := fun s : InW w0 => s.cell zb c0
  replace c1 := fun s : InW w0 => s.cell zb c1
  replace c2 := fun s : InW w0 => s.cell zb c2
  replace c3 := fun s : InW w0 => s.cell zb c3
  replace c4 := fun s : InW w0 => s.cell zb c4
  replace c5 := fun s : InW w0 => s.cell zb c5
  replace c6 := fun s : InW w0 => s.cell zb c6
  replace c7 := fun s : InW w0 => s.cell zb c7
  replace c8 := fun s : InW w0 => s.cell zb c8
  replace c9 := fun s : InW w0 => s.cell zb c9
  go_wp2_with fail
  refine bF (by kernel_rfl) (by kernel_rfl) ?_
  repeat (go_big_quiet_step (first | (go_at_call 91; first | (with_reducible exact gB (IS0.out _)) | (with_reducible exact gB (IS1.out _)) | (with_reducible exact gB (IS2.out _)) | (with_reducible exact gB (IS3.out _))) | (go_at_call 92; with_reducible exact gB (SN.out _ _)) | (go_at_call 93; with_reducible exact gB (AK.out _ _))))
  refine wpQuiet_nil ?_
  rintro _ ⟨s, rfl⟩
  have Q2 := aA (Q.out.trans (s.h.mono Q.out.size))
  have d0 := c0 s
  have d1 := c1 s
  clear c0 c1 c2 c3 c4 c5 c6 c7 c8 c9
  clear SN AK IS0 IS1 IS2 IS3
  rcases h2 : (st == 2) with _ | _
  ·
    have HL2 := HL.out
    rw [h2, Bool.false_or] at HL2
    cases wants with
    | false =>
      have h3 : (st == 3) = false := by cases hh : (st == 3) <;> simp [hh] at HL2 ⊢
      clear HL HL2
      go_wp2_with fail
      go_ret
      exact ⟨rfl, Q2.out⟩
    | true =>
      have h3 : (st == 3) = true := by cases hh : (st == 3) <;> simp [hh] at HL2 ⊢
      clear HL HL2
      go_wp2_with fail
      go_ret
      exact ⟨rfl, Q2.out⟩
  ·
    clear HL
    go_wp2_with fail
    go_ret
    exact ⟨rfl, Q2.out⟩
set_option maxRecDepth 100000 in
theorem kE (n : Int) (w : World) : Calls Tryz.prog 71 #[.int .i64 n] w fun e w' => e = .returned (.bool (mdB n)) ∧ w = w' := by
  unfold mdB
  by_cases h1 : n = 1
  · subst h1
    go_enter Tryz.func71, Tryz.ntmps71
    go_wp2_with fail
    go_ret
    exact ⟨rfl, rfl⟩
  have e1 : (n == 1) = false := by rw [beq_eq_false_iff_ne]; exact h1
  clear h1
  by_cases h2 : n = 2
  · subst h2
    go_enter Tryz.func71, Tryz.ntmps71
    go_wp2_with fail
    go_ret
    exact ⟨rfl, rfl⟩
  have e2 : (n == 2) = false := by rw [beq_eq_false_iff_ne]; exact h2
  clear h2
  by_cases h3 : n = 3
  · subst h3
    go_enter Tryz.func71, Tryz.ntmps71
    go_wp2_with fail
    go_ret
    exact ⟨rfl, rfl⟩
  have e3 : (n == 3) = false := by rw [beq_eq_false_iff_ne]; exact h3
  clear h3
  rw [e1, e2, e3]
  go_enter Tryz.func71, Tryz.ntmps71
  go_wp2_with fail
  go_ret
  exact ⟨rfl, rfl⟩
theorem dI {W : World} {B : Nat} {n : Tv} {t : TypeId} {fz : Nat × Nat} (h : W.heap[B]? = some (.cells (bD n).toArray t fz)) :
    W.cell? ⟨B, 0, none⟩ = some (.bool n.sel) ∧ W.cell? ⟨B, 1, none⟩ = some (.int .u32 n.id) ∧ W.cell? ⟨B, 2, none⟩ = some (.int .u32 n.mask) ∧ W.cell? ⟨B, 3, none⟩ = some (.bool n.ext) ∧ W.cell? ⟨B, 4, none⟩ = some (.int .i64 n.dlc) ∧ W.cell? ⟨B, 5, none⟩ = some (.string n.data) ∧ W.cell? ⟨B, 6, none⟩ = some (.int .i64 n.lim) ∧ W.cell? ⟨B, 7, none⟩ = some (.int .i64 n.mode) ∧ W.cell? ⟨B, 8, none⟩ = some (.int .i64 n.errs) ∧ W.cell? ⟨B, 9, none⟩ = some (.bool n.bus) ∧ W.cell? ⟨B, 10, none⟩ = some (.bool n.frm) ∧ W.cell? ⟨B, 11, none⟩ = some (.bool n.loc) ∧ W.cell? ⟨B, 12, none⟩ = some (.bool n.ovr) := by
  simp [World.cell?, h, bD]
set_option maxRecDepth 100000 in
set_option maxHeartbeats 16000000 in
theorem tvWoken_any (n : Tv) (w : World) : Calls Tryz.prog 89 #[.agg (bD n).toArray] w fun e w' => e = .returned (.bool n.woken) ∧ Below w.heap.size w w' := by
  obtain ⟨w0, hw0⟩ : ∃ w0, w0 = w.alloc (.cells (bD n).toArray 27) := ⟨_, rfl⟩
  have B := aA (World.alloc_heap_new w (.cells (bD n).toArray 27))
  have Q : Hid (Below w.heap.size w w0) := by rw [hw0]; exact aA ((Below.refl _ _).alloc (Nat.le_refl _) _)
  rw [← hw0] at B
  unfold Tv.woken
  obtain ⟨sel, id, mask, ext, dlc, data, lim, mode, errs, bus, frm, loc, ovr⟩ := n
  obtain ⟨_, _, _, _, _, _, _, _, _, c9, c10, c11, c12⟩ := dI B.out
  dsimp only at c9 c10 c11 c12 ⊢
  clear B
  go_enter Tryz.func89, Tryz.ntmps89
  go_upto_region 1 with fail
  change Code.wp _ _ _ _ (w.alloc (.cells (bD ⟨sel, id, mask, ext, dlc, data, lim, mode, errs, bus, frm, loc, ovr⟩).toArray 27))
  rw [← hw0]
  clear hw0
  cases bus <;> cases frm <;> cases loc <;> cases ovr
  all_goals go_wp2_with fail
  all_goals go_ret
  all_goals exact ⟨rfl, Q.out⟩
namespace ND
def tvP (t : Tv) : Prop := (t.id / (if t.ext then 536870912 else 2048) = 0 ∧ t.mask / (if t.ext then 536870912 else 2048) = 0 ∧ (0 ≤ t.dlc ∧ t.dlc ≤ 8) ∧ (t.data.size : Int) = t.dlc ∧ (1 ≤ t.lim ∧ t.lim ≤ 255) ∧ (0 ≤ t.errs ∧ t.errs ≤ t.lim)) ∧ mdB t.mode = true ∧ (t.sel = true ∨ (t.errs = 0 ∧ t.frm = false ∧ t.ovr = false)) ∧ (t.mode ≠ 1 ∨ (t.errs = 0 ∧ t.woken = false))
instance (t : Tv) : Decidable (tvP t) := by unfold tvP; infer_instance
def tvB (t : Tv) : Bool := decide (tvP t)
end ND
set_option maxRecDepth 100000 in
set_option maxHeartbeats 16000000 in
theorem gR (n : Tv) (w : World) : Calls Tryz.prog 46 #[.agg (bD n).toArray] w fun e w' => e = .returned (.bool (tvB n)) ∧ Below w.heap.size w w' := by
  obtain ⟨w0, hw0⟩ : ∃ w0, w0 = w.alloc (.cells (bD n).toArray 27) := ⟨_, rfl⟩
  have B := aA (World.alloc_heap_new w (.cells (bD n).toArray 27))
  have Q : Hid (Below w.heap.size w w0) := by rw [hw0]; exact aA ((Below.refl _ _).alloc (Nat.le_refl _) _)
  rw [← hw0] at B
  obtain ⟨r, hr⟩ : ∃ r, r = tvB n := ⟨_, rfl⟩
  rw [← hr]
  have HR := aA (show r = true ↔ tvP n by rw [hr]; unfold tvB; rw [decide_eq_true_iff])
  have WK := tvWoken_any n
  obtain ⟨wk, hwk⟩ : ∃ wk, wk = n.woken := ⟨_, rfl⟩
  have MD := kE n.mode
  obtain ⟨md, hmd⟩ : ∃ md, md = mdB n.mode := ⟨_, rfl⟩
  clear hr
  unfold tvP at HR
  rw [← hwk] at WK HR
  rw [← hmd] at MD HR
  clear hwk hmd
  replace MD := aA MD
  obtain ⟨sel, id, mask, ext, dlc, data, lim, mode, errs, bus, frm, loc, ovr⟩ := n
  obtain ⟨c0, c1, c2, c3, c4, c5, c6, c7, c8, c9, c10, c11, c12⟩ := dI B.out
  dsimp only at c0 c1 c2 c3 c4 c5 c6 c7 c8 c9 c10 c11 c12 MD HR
  unfold bD at WK
  dsimp only at WK
  replace WK := aA WK
  cases ext
  all_goals
    first | rw [if_pos rfl] at HR | rw [if_neg Bool.false_ne_true] at HR
    go_enter Tryz.func46, Tryz.ntmps46
    go_upto_region 1 with fail
    change Code.wp _ _ _ _ (w.alloc (.cells (bD _).toArray 27))
    rw [← hw0]
    clear hw0
    go_wp2_with fail
    all_goals (try (go_ret; exact ⟨aV (bI HR.out (by omega)), Q.out⟩))
    (with_reducible refine (MD.out _).mono ?_)
    rintro e1 w1 ⟨rfl, rfl⟩
    clear MD
    cases md
    · clear WK
      go_wp2_with fail
      go_ret
      exact ⟨aV (bI HR.out (fun h => Bool.noConfusion h.2.1)), Q.out⟩
    by_cases hb : ¬ (0 ≤ errs ∧ errs ≤ lim)
    · go_wp2_with fail
      all_goals go_ret
      all_goals exact ⟨aV (bI HR.out (by omega)), Q.out⟩
    obtain ⟨hb1, hb2⟩ : 0 ≤ errs ∧ errs ≤ lim := by omega
    clear hb
    cases sel
    · cases frm
      · cases ovr
        · by_cases he : errs = 0
          · subst he
            by_cases hm : mode = 1
            · subst hm
              go_wp2_with fail
              (with_reducible refine (WK.out _).mono ?_)
              rintro e1 w1 ⟨rfl, q1⟩
              have Q1 := aA (aC Q.out Q.out.size q1)
              clear WK
              cases wk
              · go_wp2_with fail
                go_ret
                exact ⟨aV (cA HR.out ⟨by omega, (by first | (simp; done) | omega | (simp; omega)), (by first | (simp; done) | omega | (simp; omega) | (simp [hm]; done) | (simp [hm]; omega)), (by first | (simp; done) | omega | (simp; omega) | (simp [hm]; done) | (simp [hm]; omega))⟩), Q1.out⟩
              · go_wp2_with fail
                go_ret
                exact ⟨aV (bI HR.out (by first | omega | (simp; done) | (simp; omega))), Q1.out⟩
            ·
              go_wp2_with fail
              go_ret
              exact ⟨aV (cA HR.out ⟨by omega, (by first | (simp; done) | omega | (simp; omega)), (by first | (simp; done) | omega | (simp; omega) | (simp [hm]; done) | (simp [hm]; omega)), (by first | (simp; done) | omega | (simp; omega) | (simp [hm]; done) | (simp [hm]; omega))⟩), Q.out⟩
          ·
            go_wp2_with fail
            all_goals go_ret
            all_goals exact ⟨aV (bI HR.out (by first | omega | (simp; done) | (simp; omega))), Q.out⟩
        ·
          go_wp2_with fail
          all_goals go_ret
          all_goals exact ⟨aV (bI HR.out (by first | omega | (simp; done) | (simp; omega))), Q.out⟩
      ·
        go_wp2_with fail
        all_goals go_ret
        all_goals exact ⟨aV (bI HR.out (by first | omega | (simp; done) | (simp; omega))), Q.out⟩
    ·
      by_cases hm : mode = 1
      · subst hm
        by_cases he : errs = 0
        · subst he
          go_wp2_with fail
          (with_reducible refine (WK.out _).mono ?_)
          rintro e1 w1 ⟨rfl, q1⟩
          have Q1 := aA (aC Q.out Q.out.size q1)
          clear WK
          cases wk
          · go_wp2_with fail
            go_ret
            exact ⟨aV (cA HR.out ⟨by omega, (by first | (simp; done) | omega | (simp; omega)), (by first | (simp; done) | omega | (simp; omega) | (simp [hm]; done) | (simp [hm]; omega)), (by first | (simp; done) | omega | (simp; omega) | (simp [hm]; done) | (simp [hm]; omega))⟩), Q1.out⟩
          · go_wp2_with fail
            go_ret
            exact ⟨aV (bI HR.out (by first | omega | (simp; done) | (simp; omega))), Q1.out⟩
        ·
          go_wp2_with fail
          all_goals go_ret
          all_goals exact ⟨aV (bI HR.out (by first | omega | (simp; done) | (simp; omega))), Q.out⟩
      ·
        go_wp2_with fail
        go_ret
        exact ⟨aV (cA HR.out ⟨by omega, (by first | (simp; done) | omega | (simp; omega)), (by first | (simp; done) | omega | (simp; omega) | (simp [hm]; done) | (simp [hm]; omega)), (by first | (simp; done) | omega | (simp; omega) | (simp [hm]; done) | (simp [hm]; omega))⟩), Q.out⟩
end Go.Proofs.YtkmddjbialpppaaGreatDoor
