/- Walks of ctl.drive, Drive, of a controller that joins or is idle. -/
import Derived.Test.YtkkkhbgjnfkpaaaDoorCtB
import Derived.Test.YtkkkhbgjnfkpaaaDoorGd
namespace Go.Proofs.YtkkkhbgjnfkpaaaDoor
open Go.ChangeShapes Go.WideShapes Go.ChangeAt Go.RowKit
open FP (Fr)

set_option maxRecDepth 100000 in
set_option maxHeartbeats 4000000 in
theorem ctlDrv_q (c : Cl) (w : World) (hst : c.st = 0 ∨ c.st = 1) : Calls Tryd.prog 23 #[.agg c.cs.toArray] w fun e w' => e = .returned (.int .u8 (if c.st = 1 ∧ c.has = true then 48 else 49)) ∧ Below w.heap.size w w' := by
  obtain ⟨w0, hw0⟩ : ∃ w0, w0 = w.alloc (.cells c.cs.toArray 31) := ⟨_, rfl⟩
  have B0 := hide (World.alloc_heap_new w (.cells c.cs.toArray 31))
  have Q0 : Hid (Below w.heap.size w w0) := by rw [hw0]; exact hide ((Below.refl _ _).alloc (Nat.le_refl _) _)
  rw [← hw0] at B0
  obtain ⟨_, ⟨c4, _, _, _, c8⟩, _⟩ := cl_cells B0.out
  obtain ⟨r, hr⟩ : ∃ r : Int, r = if c.st = 1 ∧ c.has = true then 48 else 49 := ⟨_, rfl⟩
  rw [← hr]
  rcases hst with h | h
  · have HR := hide (show r = 49 by rw [hr, if_neg (by omega)])
    rw [h] at c4
    clear h hr B0
    go_enter Tryd.func23, Tryd.ntmps23
    go_upto_region 1 with fail
    change Code.wp _ _ _ _ (w.alloc (.cells c.cs.toArray 31))
    rw [← hw0]
    clear hw0
    go_wp2_with fail
    go_ret
    exact ⟨by rw [HR.out]; rfl, Q0.out⟩
  · rcases Bool.eq_false_or_eq_true c.has with hh | hh
    · have HR := hide (show r = 48 by rw [hr, if_pos ⟨h, hh⟩])
      rw [h] at c4
      rw [hh] at c8
      clear h hr B0 hh
      go_enter Tryd.func23, Tryd.ntmps23
      go_upto_region 1 with fail
      change Code.wp _ _ _ _ (w.alloc (.cells c.cs.toArray 31))
      rw [← hw0]
      clear hw0
      go_wp2_with fail
      go_ret
      exact ⟨by rw [HR.out]; rfl, Q0.out⟩
    · have HR := hide (show r = 49 by rw [hr, if_neg (by rw [hh]; simp)])
      rw [h] at c4
      rw [hh] at c8
      clear h hr B0 hh
      go_enter Tryd.func23, Tryd.ntmps23
      go_upto_region 1 with fail
      change Code.wp _ _ _ _ (w.alloc (.cells c.cs.toArray 31))
      rw [← hw0]
      clear hw0
      go_wp2_with fail
      go_ret
      exact ⟨by rw [HR.out]; rfl, Q0.out⟩

set_option maxRecDepth 100000 in
set_option maxHeartbeats 4000000 in
theorem ctlDrive_q (c : Cl) (w : World) (hq : c.Q) : Calls Tryd.prog 10 #[.agg c.cs.toArray] w fun e w' => e = .returned (.tuple #[.int .u8 (if c.st = 1 ∧ c.has = true then 48 else 49), .int .i64 0]) ∧ Below w.heap.size w w' := by
  have DR := hide (fun W => ctlDrv_q c W (by rcases hq.st with h | h; exact .inl h.1; exact .inr h.1))
  obtain ⟨r, hr⟩ : ∃ r : Int, r = if c.st = 1 ∧ c.has = true then 48 else 49 := ⟨_, rfl⟩
  rw [← hr] at DR ⊢
  clear hr
  obtain ⟨w0, hw0⟩ : ∃ w0, w0 = w.alloc (.cells c.cs.toArray 31) := ⟨_, rfl⟩
  have B0 := hide (World.alloc_heap_new w (.cells c.cs.toArray 31))
  have Q0 : Hid (Below w.heap.size w w0) := by rw [hw0]; exact hide ((Below.refl _ _).alloc (Nat.le_refl _) _)
  rw [← hw0] at B0
  have RT := hide (ctlRight_q c w0 hq)
  clear hq
  go_enter Tryd.func10, Tryd.ntmps10
  go_upto_region 1 with fail
  change Code.wp _ _ _ _ (w.alloc (.cells c.cs.toArray 31))
  rw [← hw0]
  clear hw0
  go_wp2_with (refine wpList_load_row rfl 31 (.tmp 1) (by rfl) w.heap.size (by rfl) 31 c.cs.toArray (0, 0) _ (by exact B0.out) Tryd.underlying31 (by rfl) (by kernel_rfl) ?_)
  (with_reducible refine (RT.out).mono ?_)
  rintro e1 w1 ⟨rfl, q1⟩
  have B1 := hide (heap_below B0.out q1)
  have Q1 := hide (below_next Q0.out Q0.out.size q1)
  have D1 := hide (DR.out w1)
  clear q1 B0 Q0 RT DR
  go_wp2_with (refine wpList_load_row rfl 31 (.tmp 1) (by rfl) w.heap.size (by rfl) 31 c.cs.toArray (0, 0) _ (by exact B1.out) Tryd.underlying31 (by rfl) (by kernel_rfl) ?_)
  (with_reducible refine (D1.out).mono ?_)
  rintro e2 w2 ⟨rfl, q2⟩
  have Q2 := hide (below_next Q1.out Q1.out.size q2)
  go_wp2_with fail
  go_ret2
  exact ⟨rfl, Q2.out⟩
end Go.Proofs.YtkkkhbgjnfkpaaaDoor
