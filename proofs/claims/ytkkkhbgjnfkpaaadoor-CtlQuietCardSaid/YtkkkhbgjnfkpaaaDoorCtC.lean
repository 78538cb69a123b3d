/- Walks of ctl.New, Submit, of a controller that joins or is idle. -/
import Derived.Test.YtkkkhbgjnfkpaaaDoorCtB
import Derived.Test.YtkkkhbgjnfkpaaaDoorRes
import Derived.Test.YtkkkhbgjnfkpaaaDoorGd
namespace Go.Proofs.YtkkkhbgjnfkpaaaDoor
open Go.ChangeShapes Go.WideShapes Go.ChangeAt Go.RowKit
open FP (Fr)

/-- With a frame to send. -/
def Cl.give (c : Cl) (f : Fr) : Cl := { c with has := true, f := f }
theorem Cl.Q.give {c : Cl} (h : c.Q) {f : Fr} (hf : FP.rightB f = true) : (c.give f).Q := ⟨h.cnt, h.offs, fun _ => hf, (fun e => by cases e), h.out, h.st⟩
theorem zCl_q : zCl.Q := ⟨rfl, rfl, (fun e => by cases e), fun _ => rfl, ⟨rfl, rfl, rfl, rfl, rfl, rfl, rfl, rfl, rfl⟩, .inl ⟨rfl, by decide, by decide⟩⟩

theorem there_sub {W : World} {b n : Nat} (h : W.there b 0 n) (k m : Nat) (hk : k + m ≤ n) : W.there b k m := fun j hj => by
  have := h (k + j) (by omega)
  rwa [Nat.zero_add] at this

set_option maxRecDepth 100000 in
theorem ctlNew_any (w : World) : Calls Tryd.prog 7 #[] w fun e w' => e = .returned (.agg zCl.cs.toArray) ∧ Below w.heap.size w w' := by
  have R0 := hide (World.alloc_heap_new w (.cells zCl.cs.toArray 31))
  have TR := hide (show (w.alloc (.cells zCl.cs.toArray 31)).there w.heap.size 0 23 from there_heap (cs := zCl.cs) R0.out)
  have q0 : Below w.heap.size w (w.alloc (.cells zCl.cs.toArray 31)) := (Below.refl _ _).alloc (Nat.le_refl _) _
  go_enter Tryd.func7, Tryd.ntmps7
  go_wp2_with (refine wpList_store_hid (by rfl) 31 (.tmp 0) (.tmp 1) (by rfl) w.heap.size 0 zCl.cs (by rfl) (by rfl) (by exact TR.out) (by kernel_rfl) (by simp [Value.oneCell', Cl.cs]) ?_)
  intro w6 e6
  have R6 := hide (show w6.heap[w.heap.size]? = some (.cells zCl.cs.toArray 31 (0, 0)) by rw [e6.out]; exact whole_heap zCl.cs (xs := zCl.cs) R0.out rfl)
  have Q6 := hide (show Below w.heap.size w w6 by rw [e6.out]; exact q0.trans (below_setCells (g := w.heap.size) _ 0 _ (Nat.le_refl _)))
  go_wp2_with fail
  refine bodyPost_ret (results_cell_row (p := 0) (ty := 31) (by rfl) _ w6 w.heap.size 31 zCl.cs.toArray (0, 0) _ (by rfl) R6.out Tryd.underlying31 (by rfl) (by kernel_rfl)) rfl ⟨rfl, Q6.out⟩

set_option maxRecDepth 100000 in
set_option maxHeartbeats 8000000 in
theorem ctlSubmit_q (c : Cl) (f : Fr) (w : World) (hq : c.Q) (hh : c.has = false) (hid : f.id < 4294967296) : Calls Tryd.prog 8 #[.agg c.cs.toArray, .agg (frc f).toArray] w fun e w' =>
    (FP.rightB f = true ∧ e = .returned (.tuple #[.agg (c.give f).cs.toArray, .int .i64 0]) ∨ FP.rightB f = false ∧ e = .returned (.tuple #[.agg zCl.cs.toArray, .int .i64 1])) ∧ Below w.heap.size w w' := by
  obtain ⟨w0, hw0⟩ : ∃ w0, w0 = ((w.alloc (.cells c.cs.toArray 31)).alloc (.cells (frc f).toArray 24)).alloc (.cells zCl.cs.toArray 31) := ⟨_, rfl⟩
  have step : ∀ (W : World) (o : Obj), Below W.heap.size W (W.alloc o) := fun W o => (Below.refl _ _).alloc (Nat.le_refl _) _
  have B0 := hide (heap_below (heap_below (World.alloc_heap_new w (.cells c.cs.toArray 31)) (step _ (.cells (frc f).toArray 24))) (step _ (.cells zCl.cs.toArray 31)))
  have G0 := hide (heap_below (World.alloc_heap_new (w.alloc (.cells c.cs.toArray 31)) (.cells (frc f).toArray 24)) (step _ (.cells zCl.cs.toArray 31)))
  have R0 := hide (World.alloc_heap_new ((w.alloc (.cells c.cs.toArray 31)).alloc (.cells (frc f).toArray 24)) (.cells zCl.cs.toArray 31))
  have Q0 : Hid (Below w.heap.size w w0) := by rw [hw0]; exact hide (((step _ _).alloc (by simp) _).alloc (by simp; omega) _)
  rw [← hw0] at B0 G0 R0
  simp only [World.size_alloc] at G0 R0
  have RT := hide (ctlRight_q c w0 hq)
  have FRR := hide (fun W => show Calls Tryd.prog 22 #[.agg (frc f).toArray] W _ from frRight_any f W hid)
  obtain ⟨b, hb⟩ : ∃ b, b = FP.rightB f := ⟨_, rfl⟩
  rw [← hb] at FRR ⊢
  clear hb step
  go_enter Tryd.func8, Tryd.ntmps8
  go_upto_region 1 with fail
  change Code.wp _ _ _ _ (((w.alloc (.cells c.cs.toArray 31)).alloc (.cells (frc f).toArray 24)).alloc (.cells zCl.cs.toArray 31))
  rw [← hw0]
  clear hw0
  go_wp2_with (refine wpList_load_row rfl 31 (.tmp 2) (by rfl) w.heap.size (by rfl) 31 c.cs.toArray (0, 0) _ (by exact B0.out) Tryd.underlying31 (by rfl) (by kernel_rfl) ?_)
  (with_reducible refine (RT.out).mono ?_)
  rintro e1 w1 ⟨rfl, q1⟩
  have B1 := hide (heap_below B0.out q1)
  have G1 := hide (heap_below G0.out q1)
  have R1 := hide (heap_below R0.out q1)
  have Q1 := hide (below_next Q0.out Q0.out.size q1)
  have FR1 := hide (FRR.out w1)
  clear q1 B0 G0 R0 Q0 RT FRR
  go_wp2_with (refine wpList_load_rowG (by kernel_rfl) 24 (.tmp 3) (by rfl) (w.heap.size + 1) (by rfl) 24 (frc f).toArray (0, 0) _ (by exact G1.out) Tryd.underlying24 (by rfl) (by kernel_rfl) ?_)
  (with_reducible refine (FR1.out).mono ?_)
  rintro e2 w2 ⟨rfl, q2⟩
  have B2 := hide (heap_below B1.out q2)
  have G2 := hide (heap_below G1.out q2)
  have R2 := hide (heap_below R1.out q2)
  have Q2 := hide (below_next Q1.out Q1.out.size q2)
  clear q2 B1 G1 R1 Q1 FR1
  have TR := hide (show w2.there (w.heap.size + 1 + 1) 0 23 from there_heap (cs := zCl.cs) R2.out)
  cases b with
  | false =>
    go_wp2_with (refine wpList_store_hid (by rfl) 31 (.tmp 4) (.tmp 15) (by rfl) (w.heap.size + 1 + 1) 0 zCl.cs (by rfl) (by rfl) (by exact TR.out) (by kernel_rfl) (by simp [Value.oneCell', Cl.cs]) ?_)
    intro w3 e3
    have R3 := hide (show w3.heap[w.heap.size + 1 + 1]? = some (.cells zCl.cs.toArray 31 (0, 0)) by rw [e3.out]; exact whole_heap zCl.cs (xs := zCl.cs) R2.out rfl)
    have Q3 := hide (show Below w.heap.size w w3 by rw [e3.out]; exact Q2.out.trans (below_setCells (g := w.heap.size + 1 + 1) _ 0 _ (by omega)))
    clear e3 TR B2 G2 R2 Q2
    go_wp2_with fail
    refine bodyPost_ret (results_cell_tmp (by rfl) _ w3 (w.heap.size + 1 + 1) 31 zCl.cs.toArray (0, 0) _ (.int .i64 1) (by rfl) (by rfl) R3.out Tryd.underlying31 (by rfl) (by kernel_rfl)) rfl ⟨by first | exact rfl | exact .inr ⟨rfl, rfl⟩, Q3.out⟩
  | true =>
    obtain ⟨_, ⟨_, _, _, _, c8⟩, _⟩ := cl_cells B2.out
    rw [hh] at c8
    go_wp2_with fail
    refine wp_region_L [0, 1] [(0, fun W => W.heap[w.heap.size + 1]? = some (.cells (frc f).toArray 24 (0, 0)))] (by kernel_rfl) ?_
    replace B2 := hide (show w2.drew.heap[_]? = _ from B2.out)
    replace G2 := hide (show w2.drew.heap[_]? = _ from G2.out)
    replace R2 := hide (show w2.drew.heap[_]? = _ from R2.out)
    replace Q2 := hide (show Below w.heap.size w w2.drew from Q2.out.drew)
    clear TR c8
    generalize w2.drew = w3 at *
    refine wpAnyL_load (i := 0) (v := .agg (frc f).toArray) rfl rfl (by kernel_rfl) (by kernel_rfl) (by kernel_rfl) (by kernel_rfl) (by kernel_rfl) (fun _ _ _ h => h) rfl (fun W h => exec_heap W (w.heap.size + 1) 24 _ _ h Tryd.underlying24 rfl (by kernel_rfl) _ _ (.tmp 3) (by rfl) (by rfl)) (G2.out) ?_
    go_simp
    refine wpAnyL_pure (i := 1) (v := .pointer (some ⟨w.heap.size, 8, none⟩)) rfl rfl (by kernel_rfl) (by kernel_rfl) (by kernel_rfl) (by kernel_rfl) (by kernel_rfl) (fun _ _ _ h => h) rfl (fun W => by go_simp) ?_
    go_simp
    obtain ⟨_, ⟨_, _, _, _, c8⟩, _⟩ := cl_cells B2.out
    have f8 := cl_froz B2.out 8
    refine wpAnyL_one (i := 2) (by kernel_rfl) ?_
    refine wpOp_do rfl rfl ?_
    go_simp
    have B3 := hide (heap_setCell_same w3 w.heap.size 8 _ _ (.bool true) B2.out)
    have R3 := hide (show (w3.setCell ⟨w.heap.size, 8, none⟩ (.bool true)).heap[w.heap.size + 1 + 1]? = _ from (heap_setCell_other _ _ _ _ (by simp; omega)).trans R2.out)
    have G3 := hide (show (w3.setCell ⟨w.heap.size, 8, none⟩ (.bool true)).heap[w.heap.size + 1]? = _ from (heap_setCell_other _ _ _ _ (by simp)).trans G2.out)
    have Q3 := hide (Q2.out.setCell (p := ⟨w.heap.size, 8, none⟩) (Nat.le_refl _) (.bool true))
    clear B2 R2 Q2 G2 c8 f8
    generalize w3.setCell ⟨w.heap.size, 8, none⟩ (.bool true) = w4 at *
    refine ⟨keepsL_mk (by kernel_rfl) (.cons G3.out .nil), ?_⟩
    go_simp
    refine wpAnyL_one (i := 3) (by kernel_rfl) ?_
    refine wpOp_do rfl rfl ?_
    go_simp
    refine ⟨keepsL_all (by kernel_rfl) (by kernel_rfl), ?_⟩
    go_simp
    have B4 := hide (show w4.heap[w.heap.size]? = some (.cells (c.cs.set 8 (.bool true)).toArray 31 (0, 0)) by simpa using B3.out)
    have TB := hide (there_sub (there_heap B4.out) 9 5 (by simp [Cl.cs]))
    clear B3
    refine wpAnyL_one (i := 4) (by kernel_rfl) ?_
    refine wpOp_do rfl rfl ?_
    refine wp_store_as 24 (.tmp 22) (.tmp 20) rfl w.heap.size 9 (frc f) (by rfl) (by rfl) (by exact TB.out) (by kernel_rfl) (by simp [Value.oneCell', frc]) ?_
    intro w5 e5
    have B5 := hide (show w5.heap[w.heap.size]? = some (.cells (c.give f).cs.toArray 31 (0, 0)) by rw [e5]; exact set_heap (frc f) (c.cs.set 8 (.bool true)) 9 w4 B4.out)
    have R5 := hide (show w5.heap[w.heap.size + 1 + 1]? = some (.cells zCl.cs.toArray 31 (0, 0)) by rw [e5]; exact other_heap (by omega) _ _ _ R3.out)
    have Q5 := hide (show Below w.heap.size w w5 by rw [e5]; exact Q3.out.trans (below_setCells _ _ _ (Nat.le_refl _)))
    clear e5 TB B4 R3 Q3 G3
    refine ⟨keepsL_all (by kernel_rfl) (by kernel_rfl), ?_⟩
    go_simp
    refine wpAnyL_done (by kernel_rfl) ?_ _
    generalize hd : c.give f = d at *
    have HD := hide hd
    clear hd
    have TR := hide (show w5.there (w.heap.size + 1 + 1) 0 23 from there_heap (cs := zCl.cs) R5.out)
    go_wp2_with (first | (refine wpList_load_row rfl 31 (.tmp 2) (by rfl) w.heap.size (by rfl) 31 d.cs.toArray (0, 0) _ (by exact B5.out) Tryd.underlying31 (by rfl) (by kernel_rfl) ?_) | (refine wpList_store_hid (by rfl) 31 (.tmp 4) (.tmp 23) (by rfl) (w.heap.size + 1 + 1) 0 d.cs (by rfl) (by rfl) (by exact TR.out) (by kernel_rfl) (by simp [Value.oneCell', Cl.cs]) ?_))
    intro w6 e6
    have R6 := hide (show w6.heap[w.heap.size + 1 + 1]? = some (.cells d.cs.toArray 31 (0, 0)) by rw [e6.out]; exact whole_heap d.cs (xs := zCl.cs) R5.out rfl)
    have Q6 := hide (show Below w.heap.size w w6 by rw [e6.out]; exact Q5.out.trans (below_setCells (g := w.heap.size + 1 + 1) _ 0 _ (by omega)))
    clear e6 TR B5 R5 Q5
    go_wp2_with fail
    refine bodyPost_ret (results_cell_tmp (by rfl) _ w6 (w.heap.size + 1 + 1) 31 d.cs.toArray (0, 0) _ (.int .i64 0) (by rfl) (by rfl) R6.out Tryd.underlying31 (by rfl) (by kernel_rfl)) rfl ⟨by rw [← HD.out], Q6.out⟩

end Go.Proofs.YtkkkhbgjnfkpaaaDoor
