/- The walk of ctl.Right, of a controller that may be. -/
import Derived.Test.YtjfgapljfbkfiaaDoorCsC
import Derived.Deep.CutBlock
namespace Go.Proofs.YtjfgapljfbkfiaaDoor
open Go.ChangeShapes Go.WideShapes Go.ChangeAt Go.RowKit
open FP (Fr)
set_option maxRecDepth 100000 in
set_option maxHeartbeats 16000000 in
theorem ctlRight_ok (c : Cl) (w : World) (h : c.Ok) : Calls Tryd.prog 13 #[.agg c.cs.toArray] w fun e w' => e = .returned (.bool true) ∧ Below w.heap.size w w' := by
  have CN := hide (fun W => (show cntB c.tc c.rc (c.st == 8) c.rs = true by rw [← h.offs]; exact h.cnt) ▸ cntRight_any c.tc c.rc (c.st == 8) c.rs W)
  have OFF := hide h.offs
  have HAS := hide h.has
  have HASN := hide h.hasn
  have INN := hide (fun (e : c.st = 2) W => ctlIn_ok c W (h.inn e) h.has)
  have OUT := hide (fun (e : c.st ≠ 2) W => ctlOut_ok c W (h.out e))
  have ST := hide (show 0 ≤ c.st ∧ c.st ≤ 8 ∧ 0 ≤ c.n ∧ c.n ≤ topN c.st ∧ (c.st = 5 → 1 ≤ c.n) from ⟨h.s0, h.s8, h.n0, h.n9, h.n5⟩)
  clear h
  obtain ⟨w0, hw0⟩ : ∃ w0, w0 = w.alloc (.cells c.cs.toArray 34) := ⟨_, rfl⟩
  have B0 := hide (World.alloc_heap_new w (.cells c.cs.toArray 34))
  have Q0 : Hid (Below w.heap.size w w0) := by rw [hw0]; exact hide ((Below.refl _ _).alloc (Nat.le_refl _) _)
  rw [← hw0] at B0
  obtain ⟨-, ⟨c4, c5, -⟩, -⟩ := cl_cells B0.out
  go_enter Tryd.func13, Tryd.ntmps13
  go_upto_region 2 with fail
  change Code.wp _ _ _ _ (w.alloc (.cells c.cs.toArray 34))
  rw [← hw0]
  clear hw0
  go_upto_block 0 with fail
  go_cut [3, 4] from 5 (fun a b W => ∃ least top : Int, a = .int .i64 least ∧ b = .int .i64 top ∧ Hid (least ≤ c.n ∧ c.n ≤ top) ∧ W = w0)
  case first =>
    obtain ⟨s0, s8, n0, n9, n5⟩ := ST.out
    clear B0 Q0 c5 ST INN OUT CN OFF HAS HASN
    obtain ⟨s, hs⟩ : ∃ s, s = c.st := ⟨_, rfl⟩
    rw [← hs] at c4 s0 s8 n9 n5 ⊢
    clear hs
    obtain rfl | rfl | rfl | rfl | rfl | rfl | rfl | rfl | rfl : s = 0 ∨ s = 1 ∨ s = 2 ∨ s = 3 ∨ s = 4 ∨ s = 5 ∨ s = 6 ∨ s = 7 ∨ s = 8 := by omega
    · have F := hide (show (0 : Int) ≤ c.n ∧ c.n ≤ 10 from ⟨n0, n9⟩)
      clear c4 n0 n9 n5
      go_wp2_with fail
      go_meet
      exact ⟨_, _, rfl, rfl, F, rfl⟩
    · have F := hide (show (0 : Int) ≤ c.n ∧ c.n ≤ 0 from ⟨n0, n9⟩)
      clear c4 n0 n9 n5
      go_wp2_with fail
      go_meet
      exact ⟨_, _, rfl, rfl, F, rfl⟩
    · have F := hide (show (0 : Int) ≤ c.n ∧ c.n ≤ 0 from ⟨n0, n9⟩)
      clear c4 n0 n9 n5
      go_wp2_with fail
      go_meet
      exact ⟨_, _, rfl, rfl, F, rfl⟩
    · have F := hide (show (0 : Int) ≤ c.n ∧ c.n ≤ 5 from ⟨n0, n9⟩)
      clear c4 n0 n9 n5
      go_wp2_with fail
      go_meet
      exact ⟨_, _, rfl, rfl, F, rfl⟩
    · have F := hide (show (0 : Int) ≤ c.n ∧ c.n ≤ 1000000000 from ⟨n0, n9⟩)
      clear c4 n0 n9 n5
      go_wp2_with fail
      go_meet
      exact ⟨_, _, rfl, rfl, F, rfl⟩
    · have F := hide (show (1 : Int) ≤ c.n ∧ c.n ≤ 7 from ⟨n5 rfl, n9⟩)
      clear c4 n0 n9 n5
      go_wp2_with fail
      go_meet
      exact ⟨_, _, rfl, rfl, F, rfl⟩
    · have F := hide (show (0 : Int) ≤ c.n ∧ c.n ≤ 2 from ⟨n0, n9⟩)
      clear c4 n0 n9 n5
      go_wp2_with fail
      go_meet
      exact ⟨_, _, rfl, rfl, F, rfl⟩
    · have F := hide (show (0 : Int) ≤ c.n ∧ c.n ≤ 7 from ⟨n0, n9⟩)
      clear c4 n0 n9 n5
      go_wp2_with fail
      go_meet
      exact ⟨_, _, rfl, rfl, F, rfl⟩
    · have F := hide (show (0 : Int) ≤ c.n ∧ c.n ≤ 10 from ⟨n0, n9⟩)
      clear c4 n0 n9 n5
      go_wp2_with fail
      go_meet
      exact ⟨_, _, rfl, rfl, F, rfl⟩
  case rest =>
  obtain ⟨least, top, rfl, rfl, hn, rfl⟩ := hcut
  have k1 : decide (c.n < least) = false := decide_eq_false (by have := hn.out; omega)
  have k2 : decide (top < c.n) = false := decide_eq_false (by have := hn.out; omega)
  obtain ⟨⟨c0, c1, c2, c3⟩, -, -⟩ := cl_cells B0.out
  rw [OFF.out] at c2
  clear c4 c5
  go_wp2_with fail
  (with_reducible refine (CN.out _).mono ?_)
  rintro e1 w1 ⟨rfl, q1⟩
  have B1 := hide (heap_below B0.out q1)
  have Q1 := hide (below_next Q0.out Q0.out.size q1)
  clear q1 B0 Q0 CN c0 c1 c2 c3
  obtain ⟨⟨c0, c1, c2, c3⟩, ⟨c4, c5, c6, c7, c8⟩, ⟨c9, c10, c11, c12, c13⟩, -⟩ := cl_cells B1.out
  rw [OFF.out] at c2
  clear c0 c1 c3 c6 c7
  rcases Bool.eq_false_or_eq_true c.has with hh | hh
  · have FR := hide (fun W => (HAS.out hh) ▸ frRight_any c.f W (right_id (HAS.out hh)))
    have HH := hide hh
    rw [hh] at c8
    clear hh HAS HASN
    go_wp2_with fail
    (with_reducible refine (FR.out _).mono ?_)
    rintro e2 w2 ⟨rfl, q2⟩
    have B2 := hide (heap_below B1.out q2)
    have Q2 := hide (below_next Q1.out Q1.out.size q2)
    clear q2 B1 Q1 FR c2 c4 c5 c8 c9 c10 c11 c12 c13 k1 k2
    obtain ⟨-, ⟨c4, c5, c6, c7, c8⟩, -⟩ := cl_cells B2.out
    rw [HH.out] at c8
    clear c5 c6 c7
    by_cases e2 : c.st = 2
    · have I2 := hide (INN.out e2)
      rw [e2] at c4
      go_wp2_with (refine wpList_load_row rfl 34 (.tmp 1) (by rfl) w.heap.size (by rfl) 34 c.cs.toArray (0, 0) _ (by exact B2.out) Tryd.underlying34 (by rfl) (by kernel_rfl) ?_)
      (with_reducible refine (I2.out _).mono ?_)
      rintro e3 w3 ⟨rfl, q3⟩
      have Q3 := hide (below_next Q2.out Q2.out.size q3)
      go_wp2_with fail
      go_ret
      exact ⟨rfl, Q3.out⟩
    · have I2 := hide (OUT.out e2)
      have e2' : (c.st == 2) = false := by simpa using e2
      clear e2
      go_wp2_with (refine wpList_load_row rfl 34 (.tmp 1) (by rfl) w.heap.size (by rfl) 34 c.cs.toArray (0, 0) _ (by exact B2.out) Tryd.underlying34 (by rfl) (by kernel_rfl) ?_)
      (with_reducible refine (I2.out _).mono ?_)
      rintro e3 w3 ⟨rfl, q3⟩
      have Q3 := hide (below_next Q2.out Q2.out.size q3)
      go_wp2_with fail
      go_ret
      exact ⟨rfl, Q3.out⟩
  · have hf := HASN.out hh
    rw [hh] at c8
    rw [hf] at c9 c10 c11 c12 c13
    have d9 : w1.cell? ⟨w.heap.size, 9, none⟩ = some (.int .u32 0) := c9
    have d10 : w1.cell? ⟨w.heap.size, 10, none⟩ = some (.bool false) := c10
    have d11 : w1.cell? ⟨w.heap.size, 11, none⟩ = some (.bool false) := c11
    have d12 : w1.cell? ⟨w.heap.size, 12, none⟩ = some (.int .i64 0) := c12
    have d13 : w1.cell? ⟨w.heap.size, 13, none⟩ = some (.string ⟨#[]⟩) := c13
    clear hh HAS HASN hf c9 c10 c11 c12 c13
    by_cases e2 : c.st = 2
    · have I2 := hide (INN.out e2)
      rw [e2] at c4 c2
      go_wp2_with (refine wpList_load_row rfl 34 (.tmp 1) (by rfl) w.heap.size (by rfl) 34 c.cs.toArray (0, 0) _ (by exact B1.out) Tryd.underlying34 (by rfl) (by kernel_rfl) ?_)
      (with_reducible refine (I2.out _).mono ?_)
      rintro e3 w3 ⟨rfl, q3⟩
      have Q3 := hide (below_next Q1.out Q1.out.size q3)
      go_wp2_with fail
      go_ret
      exact ⟨rfl, Q3.out⟩
    · have I2 := hide (OUT.out e2)
      have e2' : (c.st == 2) = false := by simpa using e2
      clear e2
      go_wp2_with (refine wpList_load_row rfl 34 (.tmp 1) (by rfl) w.heap.size (by rfl) 34 c.cs.toArray (0, 0) _ (by exact B1.out) Tryd.underlying34 (by rfl) (by kernel_rfl) ?_)
      (with_reducible refine (I2.out _).mono ?_)
      rintro e3 w3 ⟨rfl, q3⟩
      have Q3 := hide (below_next Q1.out Q1.out.size q3)
      go_wp2_with fail
      go_ret
      exact ⟨rfl, Q3.out⟩
end Go.Proofs.YtjfgapljfbkfiaaDoor
