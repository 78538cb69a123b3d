/- Walks of ctl.Submit and Cancel of any controller that may be. -/
import Derived.Test.YtpfbobcilphncaaDoorCsD
import Derived.Test.YtpfbobcilphncaaDoorCsQ
import Derived.Test.YtpfbobcilphncaaDoorMgCtC
import Derived.Test.YtpfbobcilphncaaDoorMgIfP
import Derived.Test.YtpfbobcilphncaaDoorCsOP
import Derived.Test.YtpfbobcilphncaaDoorMgRdF
import Derived.Test.YtpfbobcilphncaaDoorMgRdR
import Derived.Test.YtpfbobcilphncaaDoorOrdL
import Derived.Test.YtpfbobcilphncaaDoorMgCtH
import Derived.Test.YtpfbobcilphncaaDoorCsCP
namespace Go.Proofs.YtpfbobcilphncaaDoor
open Go.ChangeShapes Go.WideShapes Go.ChangeAt Go.RowKit
open FP (Fr)

/-- With nothing to send. -/
def Cl.drop1 (c : Cl) : Cl := { c with has := false, f := zFr }
def Cl.subC (c : Cl) (f : Fr) : Cl := if FP.rightB f = false then zCl else if c.has = true then zCl else c.give f
def Cl.subE (c : Cl) (f : Fr) : Int := if FP.rightB f = false then 1 else if c.has = true then 20 else 0
def Cl.canC (c : Cl) : Cl := if c.has = false then zCl else if c.sends = true then zCl else c.drop1
def Cl.canE (c : Cl) : Int := if c.has = false then 21 else if c.sends = true then 20 else 0
theorem Cl.Ok.give {c : Cl} (h : c.Ok) (hn : c.has = false) {f : Fr} (hf : FP.rightB f = true) : (c.give f).Ok :=
  ⟨h.cnt, h.offs, fun _ => hf, (fun e => by cases e), h.s0, h.s8, h.n0, h.n9, h.n5, fun e => h.out e, fun e => by
    obtain ⟨a1, a2, a3, a4, a5, a6, a7, a8, a9, b1, b2, b3, b4, b5, b6, b7⟩ := h.inn e
    exact ⟨a1, a2, a3, a4, a5, a6, a7, a8, a9, b1, b2, b3, b4, b5, b6, fun s => absurd (b7 s).1 (by rw [hn]; decide)⟩⟩
theorem Cl.Ok.drop1 {c : Cl} (h : c.Ok) (hs : c.sends = false) : c.drop1.Ok :=
  ⟨h.cnt, h.offs, (fun e => by cases e), fun _ => rfl, h.s0, h.s8, h.n0, h.n9, h.n5, fun e => h.out e, fun e => by
    obtain ⟨a1, a2, a3, a4, a5, a6, a7, a8, a9, b1, b2, b3, b4, b5, b6, b7⟩ := h.inn e
    exact ⟨a1, a2, a3, a4, a5, a6, a7, a8, a9, b1, b2, b3, b4, b5, b6, fun s => absurd (hs.symm.trans s) (by decide)⟩⟩

set_option maxRecDepth 100000 in
set_option maxHeartbeats 8000000 in
theorem ctlSubmit_ok (c : Cl) (f : Fr) (w : World) (hq : c.Ok) (hid : f.id < 4294967296) : Calls Tryd.prog 15 #[.agg c.cs.toArray, .agg (frc f).toArray] w fun e w' =>
    e = .returned (.tuple #[.agg (c.subC f).cs.toArray, .int .i64 (c.subE f)]) ∧ Below w.heap.size w w' := by
  obtain ⟨w0, hw0⟩ : ∃ w0, w0 = ((w.alloc (.cells c.cs.toArray 33)).alloc (.cells (frc f).toArray 24)).alloc (.cells zCl.cs.toArray 33) := ⟨_, rfl⟩
  have step : ∀ (W : World) (o : Obj), Below W.heap.size W (W.alloc o) := fun W o => (Below.refl _ _).alloc (Nat.le_refl _) _
  have B0 := hide (heap_below (heap_below (World.alloc_heap_new w (.cells c.cs.toArray 33)) (step _ (.cells (frc f).toArray 24))) (step _ (.cells zCl.cs.toArray 33)))
  have G0 := hide (heap_below (World.alloc_heap_new (w.alloc (.cells c.cs.toArray 33)) (.cells (frc f).toArray 24)) (step _ (.cells zCl.cs.toArray 33)))
  have R0 := hide (World.alloc_heap_new ((w.alloc (.cells c.cs.toArray 33)).alloc (.cells (frc f).toArray 24)) (.cells zCl.cs.toArray 33))
  have Q0 : Hid (Below w.heap.size w w0) := by rw [hw0]; exact hide (((step _ _).alloc (by simp) _).alloc (by simp; omega) _)
  rw [← hw0] at B0 G0 R0
  simp only [World.size_alloc] at G0 R0
  have RT := hide (ctlRight_ok c w0 hq)
  have FRR := hide (fun W => show Calls Tryd.prog 28 #[.agg (frc f).toArray] W _ from frRight_any f W hid)
  obtain ⟨b, hb⟩ : ∃ b, b = FP.rightB f := ⟨_, rfl⟩
  rw [← hb] at FRR
  obtain ⟨z, hz⟩ : ∃ z, z = c.subC f := ⟨_, rfl⟩
  obtain ⟨ze, hze⟩ : ∃ ze, ze = c.subE f := ⟨_, rfl⟩
  rw [← hz, ← hze]
  have HZ := hide (show z = if b = false then zCl else if c.has = true then zCl else c.give f by rw [hz, hb]; rfl)
  have HE := hide (show ze = if b = false then 1 else if c.has = true then 20 else 0 by rw [hze, hb]; rfl)
  clear hb step hz hze hq
  go_enter Tryd.func15, Tryd.ntmps15
  go_upto_region 1 with fail
  change Code.wp _ _ _ _ (((w.alloc (.cells c.cs.toArray 33)).alloc (.cells (frc f).toArray 24)).alloc (.cells zCl.cs.toArray 33))
  rw [← hw0]
  clear hw0
  go_wp2_with (refine wpList_load_row rfl 33 (.tmp 2) (by rfl) w.heap.size (by rfl) 33 c.cs.toArray (0, 0) _ (by exact B0.out) Tryd.underlying33 (by rfl) (by kernel_rfl) ?_)
  (with_reducible refine (RT.out).mono ?_)
  rintro e1 w1 ⟨rfl, q1⟩
  have B1 := hide (heap_below B0.out q1)
  have G1 := hide (heap_below G0.out q1)
  have R1 := hide (heap_below R0.out q1)
  have Q1 := hide (below_next Q0.out Q0.out.size q1)
  have FR1 := hide (FRR.out w1)
  clear q1 B0 G0 R0 Q0 RT FRR
  go_wp2_with (refine wpList_load_rowG (by kernel_rfl) 24 (.tmp 3) (by rfl) (w.heap.size + 1) (by rfl) 24 (frc f).toArray (0, 0) _ (by exact G1.out) Tryd.underlying24 (by rfl) (by kernel_rfl) ?_)
  (with_reducible refine (FR1.out).mono ?_)
  rintro e2 w2 ⟨rfl, q2⟩
  have B2 := hide (heap_below B1.out q2)
  have G2 := hide (heap_below G1.out q2)
  have R2 := hide (heap_below R1.out q2)
  have Q2 := hide (below_next Q1.out Q1.out.size q2)
  clear q2 B1 G1 R1 Q1 FR1
  have TR := hide (show w2.there (w.heap.size + 1 + 1) 0 23 from there_heap (cs := zCl.cs) R2.out)
  cases b with
  | false =>
    go_wp2_with (refine wpList_store_hid (by rfl) 33 (.tmp 4) (.tmp 15) (by rfl) (w.heap.size + 1 + 1) 0 zCl.cs (by rfl) (by rfl) (by exact TR.out) (by kernel_rfl) (by simp [Value.oneCell', Cl.cs]) ?_)
    intro w3 e3
    have R3 := hide (show w3.heap[w.heap.size + 1 + 1]? = some (.cells zCl.cs.toArray 33 (0, 0)) by rw [e3.out]; exact whole_heap zCl.cs (xs := zCl.cs) R2.out rfl)
    have Q3 := hide (show Below w.heap.size w w3 by rw [e3.out]; exact Q2.out.trans (below_setCells (g := w.heap.size + 1 + 1) _ 0 _ (by omega)))
    clear e3 TR B2 G2 R2 Q2
    go_wp2_with fail
    refine bodyPost_ret (results_cell_tmp (by rfl) _ w3 (w.heap.size + 1 + 1) 33 zCl.cs.toArray (0, 0) _ (.int .i64 1) (by rfl) (by rfl) R3.out Tryd.underlying33 (by rfl) (by kernel_rfl)) rfl ⟨by rw [HZ.out, HE.out]; rfl, Q3.out⟩
  | true =>
    obtain ⟨_, ⟨_, _, _, _, c8⟩, _⟩ := cl_cells B2.out
    rcases Bool.eq_false_or_eq_true c.has with hh | hh
    · rw [hh] at c8
      have HZ2 := hide (show z = zCl by rw [HZ.out, hh]; rfl)
      have HE2 := hide (show ze = 20 by rw [HE.out, hh]; rfl)
      clear hh HZ HE
      go_wp2_with (refine wpList_store_hid (by rfl) 33 (.tmp 4) (.tmp 19) (by rfl) (w.heap.size + 1 + 1) 0 zCl.cs (by rfl) (by rfl) (by exact TR.out) (by kernel_rfl) (by simp [Value.oneCell', Cl.cs]) ?_)
      intro w3 e3
      have R3 := hide (show w3.heap[w.heap.size + 1 + 1]? = some (.cells zCl.cs.toArray 33 (0, 0)) by rw [e3.out]; exact whole_heap zCl.cs (xs := zCl.cs) R2.out rfl)
      have Q3 := hide (show Below w.heap.size w w3 by rw [e3.out]; exact Q2.out.trans (below_setCells (g := w.heap.size + 1 + 1) _ 0 _ (by omega)))
      clear e3 TR B2 G2 R2 Q2 c8
      go_wp2_with fail
      refine bodyPost_ret (results_cell_tmp (by rfl) _ w3 (w.heap.size + 1 + 1) 33 zCl.cs.toArray (0, 0) _ (.int .i64 20) (by rfl) (by rfl) R3.out Tryd.underlying33 (by rfl) (by kernel_rfl)) rfl ⟨by rw [HZ2.out, HE2.out], Q3.out⟩
    rw [hh] at c8
    have HZ2 := hide (show z = c.give f by rw [HZ.out, hh]; rfl)
    have HE2 := hide (show ze = 0 by rw [HE.out, hh]; rfl)
    clear hh HZ HE
    go_wp2_with fail
    refine wp_region_L [0, 1] [(0, fun W => W.heap[w.heap.size + 1]? = some (.cells (frc f).toArray 24 (0, 0)))] (by kernel_rfl) ?_
    replace B2 := hide (show w2.drew.heap[_]? = _ from B2.out)
    replace G2 := hide (show w2.drew.heap[_]? = _ from G2.out)
    replace R2 := hide (show w2.drew.heap[_]? = _ from R2.out)
    replace Q2 := hide (show Below w.heap.size w w2.drew from Q2.out.drew)
    clear TR c8
    generalize w2.drew = w3 at *
    refine wpAnyL_load (i := 0) (v := .agg (frc f).toArray) rfl rfl (by kernel_rfl) (by kernel_rfl) (by kernel_rfl) (by kernel_rfl) (by kernel_rfl) (fun _ _ _ h => h) rfl (fun W h => exec_heap W (w.heap.size + 1) 24 _ _ h Tryd.underlying24 rfl (by kernel_rfl) _ _ (.tmp 3) (by rfl) (by rfl)) (G2.out) ?_
    go_simp
    refine wpAnyL_pure (i := 1) (v := .pointer (some ⟨w.heap.size, 8, none⟩)) rfl rfl (by kernel_rfl) (by kernel_rfl) (by kernel_rfl) (by kernel_rfl) (by kernel_rfl) (fun _ _ _ h => h) rfl (fun W => by go_simp) ?_
    go_simp
    obtain ⟨_, ⟨_, _, _, _, c8⟩, _⟩ := cl_cells B2.out
    have f8 := cl_froz B2.out 8
    refine wpAnyL_one (i := 2) (by kernel_rfl) ?_
    refine wpOp_do rfl rfl ?_
    go_simp
    have B3 := hide (heap_setCell_same w3 w.heap.size 8 _ _ (.bool true) B2.out)
    have R3 := hide (show (w3.setCell ⟨w.heap.size, 8, none⟩ (.bool true)).heap[w.heap.size + 1 + 1]? = _ from (heap_setCell_other _ _ _ _ (by simp; omega)).trans R2.out)
    have G3 := hide (show (w3.setCell ⟨w.heap.size, 8, none⟩ (.bool true)).heap[w.heap.size + 1]? = _ from (heap_setCell_other _ _ _ _ (by simp)).trans G2.out)
    have Q3 := hide (Q2.out.setCell (p := ⟨w.heap.size, 8, none⟩) (Nat.le_refl _) (.bool true))
    clear B2 R2 Q2 G2 c8 f8
    generalize w3.setCell ⟨w.heap.size, 8, none⟩ (.bool true) = w4 at *
    refine ⟨keepsL_mk (by kernel_rfl) (.cons G3.out .nil), ?_⟩
    go_simp
    refine wpAnyL_one (i := 3) (by kernel_rfl) ?_
    refine wpOp_do rfl rfl ?_
    go_simp
    refine ⟨keepsL_all (by kernel_rfl) (by kernel_rfl), ?_⟩
    go_simp
    have B4 := hide (show w4.heap[w.heap.size]? = some (.cells (c.cs.set 8 (.bool true)).toArray 33 (0, 0)) by simpa using B3.out)
    have TB := hide (there_sub (there_heap B4.out) 9 5 (by simp [Cl.cs]))
    clear B3
    refine wpAnyL_one (i := 4) (by kernel_rfl) ?_
    refine wpOp_do rfl rfl ?_
    refine wp_store_as 24 (.tmp 22) (.tmp 20) rfl w.heap.size 9 (frc f) (by rfl) (by rfl) (by exact TB.out) (by kernel_rfl) (by simp [Value.oneCell', frc]) ?_
    intro w5 e5
    have B5 := hide (show w5.heap[w.heap.size]? = some (.cells (c.give f).cs.toArray 33 (0, 0)) by rw [e5]; exact set_heap (frc f) (c.cs.set 8 (.bool true)) 9 w4 B4.out)
    have R5 := hide (show w5.heap[w.heap.size + 1 + 1]? = some (.cells zCl.cs.toArray 33 (0, 0)) by rw [e5]; exact other_heap (by omega) _ _ _ R3.out)
    have Q5 := hide (show Below w.heap.size w w5 by rw [e5]; exact Q3.out.trans (below_setCells _ _ _ (Nat.le_refl _)))
    clear e5 TB B4 R3 Q3 G3
    refine ⟨keepsL_all (by kernel_rfl) (by kernel_rfl), ?_⟩
    go_simp
    refine wpAnyL_done (by kernel_rfl) ?_ _
    generalize hd : c.give f = d at *
    have HD := hide hd
    clear hd
    have TR := hide (show w5.there (w.heap.size + 1 + 1) 0 23 from there_heap (cs := zCl.cs) R5.out)
    go_wp2_with (first | (refine wpList_load_row rfl 33 (.tmp 2) (by rfl) w.heap.size (by rfl) 33 d.cs.toArray (0, 0) _ (by exact B5.out) Tryd.underlying33 (by rfl) (by kernel_rfl) ?_) | (refine wpList_store_hid (by rfl) 33 (.tmp 4) (.tmp 23) (by rfl) (w.heap.size + 1 + 1) 0 d.cs (by rfl) (by rfl) (by exact TR.out) (by kernel_rfl) (by simp [Value.oneCell', Cl.cs]) ?_))
    intro w6 e6
    have R6 := hide (show w6.heap[w.heap.size + 1 + 1]? = some (.cells d.cs.toArray 33 (0, 0)) by rw [e6.out]; exact whole_heap d.cs (xs := zCl.cs) R5.out rfl)
    have Q6 := hide (show Below w.heap.size w w6 by rw [e6.out]; exact Q5.out.trans (below_setCells (g := w.heap.size + 1 + 1) _ 0 _ (by omega)))
    clear e6 TR B5 R5 Q5
    go_wp2_with fail
    refine bodyPost_ret (results_cell_tmp (by rfl) _ w6 (w.heap.size + 1 + 1) 33 d.cs.toArray (0, 0) _ (.int .i64 0) (by rfl) (by rfl) R6.out Tryd.underlying33 (by rfl) (by kernel_rfl)) rfl ⟨by rw [HZ2.out, HE2.out], Q6.out⟩


set_option maxRecDepth 100000 in
set_option maxHeartbeats 8000000 in
theorem ctlCancel_ok (c : Cl) (w : World) (hq : c.Ok) : Calls Tryd.prog 19 #[.agg c.cs.toArray] w fun e w' => e = .returned (.tuple #[.agg c.canC.cs.toArray, .int .i64 c.canE]) ∧ Below w.heap.size w w' := by
  obtain ⟨w0, hw0⟩ : ∃ w0, w0 = (w.alloc (.cells c.cs.toArray 33)).alloc (.cells zCl.cs.toArray 33) := ⟨_, rfl⟩
  have step : ∀ (W : World) (o : Obj), Below W.heap.size W (W.alloc o) := fun W o => (Below.refl _ _).alloc (Nat.le_refl _) _
  have B0 := hide (heap_below (World.alloc_heap_new w (.cells c.cs.toArray 33)) (step _ (.cells zCl.cs.toArray 33)))
  have R0 := hide (World.alloc_heap_new (w.alloc (.cells c.cs.toArray 33)) (.cells zCl.cs.toArray 33))
  have Q0 : Hid (Below w.heap.size w w0) := by rw [hw0]; exact hide ((step _ _).alloc (by simp) _)
  rw [← hw0] at B0 R0
  simp only [World.size_alloc] at R0
  have RT := hide (ctlRight_ok c w0 hq)
  obtain ⟨z, hz⟩ : ∃ z, z = c.canC := ⟨_, rfl⟩
  obtain ⟨ze, hze⟩ : ∃ ze, ze = c.canE := ⟨_, rfl⟩
  rw [← hz, ← hze]
  have HZ := hide (show z = if c.has = false then zCl else if c.sends = true then zCl else c.drop1 by rw [hz]; rfl)
  have HE := hide (show ze = if c.has = false then 21 else if c.sends = true then 20 else 0 by rw [hze]; rfl)
  clear step hz hze hq
  go_enter Tryd.func19, Tryd.ntmps19
  go_upto_region 1 with fail
  change Code.wp _ _ _ _ ((w.alloc (.cells c.cs.toArray 33)).alloc (.cells zCl.cs.toArray 33))
  rw [← hw0]
  clear hw0
  go_wp2_with (refine wpList_load_row rfl 33 (.tmp 1) (by rfl) w.heap.size (by rfl) 33 c.cs.toArray (0, 0) _ (by exact B0.out) Tryd.underlying33 (by rfl) (by kernel_rfl) ?_)
  (with_reducible refine (RT.out).mono ?_)
  rintro e1 w1 ⟨rfl, q1⟩
  have B1 := hide (heap_below B0.out q1)
  have R1 := hide (heap_below R0.out q1)
  have Q1 := hide (below_next Q0.out Q0.out.size q1)
  clear q1 B0 R0 Q0 RT
  have TR := hide (show w1.there (w.heap.size + 1) 0 23 from there_heap (cs := zCl.cs) R1.out)
  obtain ⟨_, ⟨_, _, _, _, c8⟩, _, d14, _⟩ := cl_cells B1.out
  rcases Bool.eq_false_or_eq_true c.has with hh | hh
  · rw [hh] at c8
    rcases Bool.eq_false_or_eq_true c.sends with hs | hs
    · rw [hs] at d14
      have HZ2 := hide (show z = zCl by rw [HZ.out, hh, hs]; rfl)
      have HE2 := hide (show ze = 20 by rw [HE.out, hh, hs]; rfl)
      clear hh hs HZ HE
      go_wp2_with (refine wpList_store_hid (by rfl) 33 (.tmp 2) (.tmp 17) (by rfl) (w.heap.size + 1) 0 zCl.cs (by rfl) (by rfl) (by exact TR.out) (by kernel_rfl) (by simp [Value.oneCell', Cl.cs]) ?_)
      intro w3 e3
      have R3 := hide (show w3.heap[w.heap.size + 1]? = some (.cells zCl.cs.toArray 33 (0, 0)) by rw [e3.out]; exact whole_heap zCl.cs (xs := zCl.cs) R1.out rfl)
      have Q3 := hide (show Below w.heap.size w w3 by rw [e3.out]; exact Q1.out.trans (below_setCells _ _ _ (by omega)))
      clear e3 TR B1 R1 Q1 c8 d14
      go_wp2_with fail
      refine bodyPost_ret (results_cell_tmp (by rfl) _ w3 (w.heap.size + 1) 33 zCl.cs.toArray (0, 0) _ (.int .i64 20) (by rfl) (by rfl) R3.out Tryd.underlying33 (by rfl) (by kernel_rfl)) rfl ⟨by rw [HZ2.out, HE2.out], Q3.out⟩
    · rw [hs] at d14
      have HZ2 := hide (show z = c.drop1 by rw [HZ.out, hh, hs]; rfl)
      have HE2 := hide (show ze = 0 by rw [HE.out, hh, hs]; rfl)
      have f8 := cl_froz B1.out 8
      have B2 := hide (heap_setCell_same w1 w.heap.size 8 _ _ (.bool false) B1.out)
      have B3 := hide (show (w1.setCell ⟨w.heap.size, 8, none⟩ (.bool false)).heap[w.heap.size]? = some (.cells (c.cs.set 8 (.bool false)).toArray 33 (0, 0)) by simpa using B2.out)
      have R3 := hide (show (w1.setCell ⟨w.heap.size, 8, none⟩ (.bool false)).heap[w.heap.size + 1]? = _ from (heap_setCell_other _ _ _ _ (by simp)).trans R1.out)
      have Q3 := hide (Q1.out.setCell (p := ⟨w.heap.size, 8, none⟩) (Nat.le_refl _) (.bool false))
      have TB := hide (there_sub (there_heap B3.out) 9 5 (by simp [Cl.cs]))
      clear hh hs HZ HE B2 R1 Q1 B1 TR
      go_wp2_with (refine wpList_store_hid (by rfl) 24 (.tmp 20) (.tmp 18) (by rfl) w.heap.size 9 (frc zFr) (by rfl) (by rfl) (by exact TB.out) (by kernel_rfl) (by simp [Value.oneCell', frc]) ?_)
      intro w5 e5
      have B5 := hide (show w5.heap[w.heap.size]? = some (.cells c.drop1.cs.toArray 33 (0, 0)) by rw [e5.out]; exact set_heap (frc zFr) (c.cs.set 8 (.bool false)) 9 _ B3.out)
      have R5 := hide (show w5.heap[w.heap.size + 1]? = some (.cells zCl.cs.toArray 33 (0, 0)) by rw [e5.out]; exact other_heap (by omega) _ _ _ R3.out)
      have Q5 := hide (show Below w.heap.size w w5 by rw [e5.out]; exact Q3.out.trans (below_setCells _ _ _ (Nat.le_refl _)))
      clear e5 TB B3 R3 Q3 c8 d14 f8
      generalize c.drop1 = d at *
      have TR := hide (show w5.there (w.heap.size + 1) 0 23 from there_heap (cs := zCl.cs) R5.out)
      go_wp2_with (first | (refine wpList_load_row rfl 33 (.tmp 1) (by rfl) w.heap.size (by rfl) 33 d.cs.toArray (0, 0) _ (by exact B5.out) Tryd.underlying33 (by rfl) (by kernel_rfl) ?_) | (refine wpList_store_hid (by rfl) 33 (.tmp 2) (.tmp 21) (by rfl) (w.heap.size + 1) 0 d.cs (by rfl) (by rfl) (by exact TR.out) (by kernel_rfl) (by simp [Value.oneCell', Cl.cs]) ?_))
      intro w6 e6
      have R6 := hide (show w6.heap[w.heap.size + 1]? = some (.cells d.cs.toArray 33 (0, 0)) by rw [e6.out]; exact whole_heap d.cs (xs := zCl.cs) R5.out rfl)
      have Q6 := hide (show Below w.heap.size w w6 by rw [e6.out]; exact Q5.out.trans (below_setCells _ _ _ (by omega)))
      clear e6 TR B5 R5 Q5
      go_wp2_with fail
      refine bodyPost_ret (results_cell_tmp (by rfl) _ w6 (w.heap.size + 1) 33 d.cs.toArray (0, 0) _ (.int .i64 0) (by rfl) (by rfl) R6.out Tryd.underlying33 (by rfl) (by kernel_rfl)) rfl ⟨by rw [HZ2.out, HE2.out], Q6.out⟩
  · rw [hh] at c8
    have HZ2 := hide (show z = zCl by rw [HZ.out, hh]; rfl)
    have HE2 := hide (show ze = 21 by rw [HE.out, hh]; rfl)
    clear hh HZ HE
    go_wp2_with (refine wpList_store_hid (by rfl) 33 (.tmp 2) (.tmp 13) (by rfl) (w.heap.size + 1) 0 zCl.cs (by rfl) (by rfl) (by exact TR.out) (by kernel_rfl) (by simp [Value.oneCell', Cl.cs]) ?_)
    intro w3 e3
    have R3 := hide (show w3.heap[w.heap.size + 1]? = some (.cells zCl.cs.toArray 33 (0, 0)) by rw [e3.out]; exact whole_heap zCl.cs (xs := zCl.cs) R1.out rfl)
    have Q3 := hide (show Below w.heap.size w w3 by rw [e3.out]; exact Q1.out.trans (below_setCells _ _ _ (by omega)))
    clear e3 TR B1 R1 Q1 c8 d14
    go_wp2_with fail
    refine bodyPost_ret (results_cell_tmp (by rfl) _ w3 (w.heap.size + 1) 33 zCl.cs.toArray (0, 0) _ (.int .i64 21) (by rfl) (by rfl) R3.out Tryd.underlying33 (by rfl) (by kernel_rfl)) rfl ⟨by rw [HZ2.out, HE2.out], Q3.out⟩

set_option maxRecDepth 100000 in
set_option maxHeartbeats 4000000 in
theorem refCnt06_any (tc rc : Int) (off : Bool) (rs : Int) (w : World) : Calls Tryd.prog 21 #[.agg #[.int .i64 tc, .int .i64 rc, .bool off, .int .i64 rs]] w fun e w' => e = .returned (.bool (cntB tc rc off rs)) ∧ Below w.heap.size w w' := by
  obtain ⟨r, hr⟩ : ∃ r, r = cntB tc rc off rs := ⟨_, rfl⟩
  rw [← hr]
  unfold cntB at hr
  have q0 : Below w.heap.size w (w.alloc (.cells #[.int .i64 tc, .int .i64 rc, .bool off, .int .i64 rs] 29)) := (Below.refl _ _).alloc (Nat.le_refl _) _
  obtain ⟨c0, c1, c2, c3⟩ := four_cells (World.alloc_heap_new w (.cells #[.int .i64 tc, .int .i64 rc, .bool off, .int .i64 rs] 29))
  have Q0 := hide q0
  clear q0
  generalize hw0 : w.alloc (.cells #[.int .i64 tc, .int .i64 rc, .bool off, .int .i64 rs] 29) = w0 at *
  cases off with
  | true =>
    have HR := hide (show r = true ↔ (tc = 0 ∧ rc = 0 ∧ 1 ≤ rs ∧ rs ≤ 128) by rw [hr]; simp)
    clear hr
    go_enter Tryd.func21, Tryd.ntmps21
    go_upto_region 1 with fail
    clear hw0
    go_wp2_with fail
    all_goals go_ret
    all_goals refine ⟨ret_bool ?_, Q0.out⟩
    all_goals (first | exact r_true HR.out (by omega) | exact r_false HR.out (by omega) | exact r_dec HR.out (by omega))
  | false =>
    have HR := hide (show r = true ↔ (0 ≤ tc ∧ tc ≤ 255 ∧ 0 ≤ rc ∧ rc ≤ 255 ∧ rs = 0) by rw [hr]; simp)
    clear hr
    go_enter Tryd.func21, Tryd.ntmps21
    go_upto_region 1 with fail
    clear hw0
    go_wp2_with fail
    all_goals go_ret
    all_goals refine ⟨ret_bool ?_, Q0.out⟩
    all_goals (first | exact r_true HR.out (by omega) | exact r_false HR.out (by omega) | exact r_dec HR.out (by omega))
end Go.Proofs.YtpfbobcilphncaaDoor

/- Plain: what stuffing makes of a row, bit by bit, and back. -/
namespace Go.Proofs.YtpfbobcilphncaaDoor.FP

/-- Bits without an error of stuffing, and what is known behind them. -/
structure Rst (x : List UInt8) (r : RS) : Prop where
  n5 : r.n ≤ 5
  bit : r.n = 0 ∨ r.last = 48 ∨ r.last = 49
  low : r.n < 5 → (stuffS r.got).out = x ∧ (stuffS r.got).last = r.last ∧ (stuffS r.got).n = r.n
  five : r.n = 5 → (stuffS r.got).out = x ++ [oth r.last] ∧ (stuffS r.got).last = oth r.last ∧ (stuffS r.got).n = 1
theorem Rst.nil : Rst [] rs0 := ⟨by decide, .inl rfl, fun _ => ⟨rfl, rfl, rfl⟩, fun h => absurd h (by decide)⟩
theorem oth_unlike {a b : UInt8} (ha : a = 48 ∨ a = 49) (hb : b = 48 ∨ b = 49) (h : b ≠ a) : oth a = b := by
  rcases ha with rfl | rfl <;> rcases hb with rfl | rfl <;> first | exact absurd rfl h | decide
theorem Rst.step {x : List UInt8} {r : RS} (h : Rst x r) {b : UInt8} (hb : b = 48 ∨ b = 49) (he : uK r.last r.n b ≠ 3) : Rst (x ++ [b]) (rsStep r b) := by
  by_cases hn : r.n = 5
  · have hne : b ≠ r.last := by
      intro e
      unfold uK at he
      rw [if_pos hn, if_pos e] at he
      exact he rfl
    have hl : r.last = 48 ∨ r.last = 49 := by
      rcases h.bit with h | h | h
      · omega
      · exact .inl h
      · exact .inr h
    have ho := oth_unlike hl hb hne
    have e : rsStep r b = ⟨b, 1, r.got⟩ := by
      unfold rsStep uN uK
      rw [if_pos hn, if_neg hne, if_pos hn, if_neg hne]
      rfl
    rw [e]
    obtain ⟨h1, h2, h3⟩ := h.five hn
    rw [ho] at h1 h2
    exact ⟨(by decide : 1 ≤ 5), .inr hb, fun _ => ⟨h1, h2, h3⟩, fun e => absurd e (by decide : ¬ (1 : Nat) = 5)⟩
  · have hlt : r.n < 5 := by have := h.n5; omega
    obtain ⟨u1, u2⟩ := uN_less (last := r.last) hlt b
    have e : rsStep r b = ⟨b, if b = r.last then r.n + 1 else 1, r.got ++ [b]⟩ := by
      unfold rsStep
      rw [u1, u2, if_pos rfl]
    obtain ⟨h1, h2, h3⟩ := h.low hlt
    have hs : ssN (stuffS r.got) b = if b = r.last then r.n + 1 else 1 := by unfold ssN; rw [h2, h3]
    rw [e]
    by_cases h5 : (if b = r.last then r.n + 1 else 1) = 5
    · obtain ⟨s1, s2, s3, _⟩ := ssStep_five (s := stuffS r.got) (c := b) (by rw [hs]; exact h5)
      refine ⟨by show (if b = r.last then r.n + 1 else 1) ≤ 5; omega, .inr hb, fun q => absurd q (by show ¬ (if b = r.last then r.n + 1 else 1) < 5; omega), fun _ => ?_⟩
      show (stuffS (r.got ++ [b])).out = x ++ [b] ++ [oth b] ∧ (stuffS (r.got ++ [b])).last = oth b ∧ (stuffS (r.got ++ [b])).n = 1
      rw [stuffS_snoc, s3, h1]
      exact ⟨rfl, s1, s2⟩
    · obtain ⟨s1, s2, s3, _⟩ := ssStep_less (s := stuffS r.got) (c := b) (by rw [hs]; exact h5)
      refine ⟨by show (if b = r.last then r.n + 1 else 1) ≤ 5; split <;> omega, .inr hb, fun _ => ?_, fun q => absurd q h5⟩
      show (stuffS (r.got ++ [b])).out = x ++ [b] ∧ (stuffS (r.got ++ [b])).last = b ∧ (stuffS (r.got ++ [b])).n = (if b = r.last then r.n + 1 else 1)
      rw [stuffS_snoc, s3, h1]
      exact ⟨rfl, s1, by rw [s2, hs]⟩
theorem Rst.body {x : List UInt8} {r : RS} (h : Rst x r) (hn : r.n < 5) : x = stuffF r.got := (h.low hn).1.symm
theorem Rst.one : Rst [48] ⟨48, 1, [48]⟩ := Rst.step Rst.nil (.inl rfl) (by decide)

/-- What is known behind a row that was stuffed. -/
theorem rs_of_stuff_rev : ∀ q p : List UInt8, p = q.reverse → (∀ c ∈ p, c = 48 ∨ c = 49) → rsOf (stuffS p).out = ⟨(stuffS p).last, (stuffS p).n, p⟩ ∧ (stuffS p).n < 5 := by
  intro q
  induction q with
  | nil => intro p hp _; rw [hp]; exact ⟨rfl, by decide⟩
  | cons c q ih =>
    intro p' hp hb
    rw [List.reverse_cons] at hp
    subst hp
    generalize hq : q.reverse = p at *
    have ih := ih p rfl
    obtain ⟨h1, h2⟩ := ih (fun d hd => hb d (by simp [hd]))
    clear ih
    have hc : c = 48 ∨ c = 49 := hb c (by simp)
    obtain ⟨u1, u2⟩ := uN_less (last := (stuffS p).last) h2 c
    have e : rsStep ⟨(stuffS p).last, (stuffS p).n, p⟩ c = ⟨c, ssN (stuffS p) c, p ++ [c]⟩ := by
      unfold rsStep
      rw [u1, u2, if_pos rfl]
      rfl
    rw [stuffS_snoc]
    by_cases h5 : ssN (stuffS p) c = 5
    · obtain ⟨s1, s2, s3, _⟩ := ssStep_five (s := stuffS p) (c := c) h5
      rw [s1, s2, s3, rsOf_snoc, rsOf_snoc, h1, e, h5]
      obtain ⟨v1, v2⟩ := uN_five hc
      refine ⟨?_, by decide⟩
      unfold rsStep
      rw [v1, v2, if_neg (by decide)]
    · obtain ⟨s1, s2, s3, _⟩ := ssStep_less (s := stuffS p) (c := c) h5
      rw [s1, s2, s3, rsOf_snoc, h1, e]
      refine ⟨rfl, ?_⟩
      exact ite_lt5 h2 h5
theorem rs_of_stuff (p : List UInt8) (h : ∀ c ∈ p, c = 48 ∨ c = 49) : rsOf (stuffS p).out = ⟨(stuffS p).last, (stuffS p).n, p⟩ ∧ (stuffS p).n < 5 :=
  rs_of_stuff_rev p.reverse p (by simp) h
/-- A row is stuffed bit by bit. -/
theorem stuff_split (p : List UInt8) (c : UInt8) (m : List UInt8) : ∃ t, stuffF (p ++ c :: m) = (stuffS p).out ++ c :: t := by
  have h : stuffF (p ++ c :: m) = (m.foldl ssStep (ssStep (stuffS p) c)).out := by
    unfold stuffF stuffS
    rw [List.foldl_append, List.foldl_cons]
  rw [h, stuff_tl]
  by_cases h5 : ssN (stuffS p) c = 5
  · obtain ⟨s1, s2, s3, _⟩ := ssStep_five (s := stuffS p) (c := c) h5
    rw [s3]
    exact ⟨oth c :: tlF (ssStep (stuffS p) c).last (ssStep (stuffS p) c).n m, by simp⟩
  · obtain ⟨s1, s2, s3, _⟩ := ssStep_less (s := stuffS p) (c := c) h5
    rw [s3]
    exact ⟨tlF (ssStep (stuffS p) c).last (ssStep (stuffS p) c).n m, by simp⟩
/-- A row that is a frame's, with its sum. -/
theorem good_only {l : List UInt8} (hb : ∀ c ∈ l, c = 48 ∨ c = 49) (hg : goodB l = true) : l = sumF (headF (readV (headOf l))) ∧ rightB (readV (headOf l)) = true := by
  unfold goodB at hg
  rw [Bool.and_eq_true, Bool.and_eq_true, decide_eq_true_eq, decide_eq_true_eq] at hg
  obtain ⟨⟨h15, hc⟩, hr⟩ := hg
  have h1 := (crc_law h15 hb).1 hc
  rw [(read_yes hr).1]
  unfold readB at hr
  rw [Bool.and_eq_true, Bool.and_eq_true, decide_eq_true_eq] at hr
  exact ⟨by rw [hr.2.2]; exact h1.symm, hr.2.1⟩
end Go.Proofs.YtpfbobcilphncaaDoor.FP

/- Plain: what happens at a bit, whatever controller may be. -/
namespace Go.Proofs.YtpfbobcilphncaaDoor
open Go.ChangeShapes Go.WideShapes Go.ChangeAt Go.RowKit
open FP (Fr uN uK doneB sizeE sizeV readV headOf bitsF bodyF RS rsStep rs0 rsOf goodB)

/-- An event that may be. -/
structure EvOk (M : Mc) : Prop where
  k0 : 0 ≤ M.kind
  k4 : M.kind ≤ 4
  bad : M.kind = 3 ↔ M.bad ≠ 0
  fr : M.kind = 1 ∨ M.kind = 2 → FP.rightB M.ef = true
theorem ev_none (d : Cl) (f : Fr) : EvOk ⟨d, 0, f, 0⟩ := ⟨(by decide : (0 : Int) ≤ 0), (by decide : (0 : Int) ≤ 4), ⟨fun e => absurd e (by show ¬ (0 : Int) = 3; decide), fun e => absurd rfl e⟩, fun e => by rcases e with e | e <;> exact absurd e (by show ¬ (0 : Int) = _; decide)⟩
theorem ev_lost (d : Cl) (f : Fr) : EvOk ⟨d, 4, f, 0⟩ := ⟨(by decide : (0 : Int) ≤ 4), (by decide : (4 : Int) ≤ 4), ⟨fun e => absurd e (by show ¬ (4 : Int) = 3; decide), fun e => absurd rfl e⟩, fun e => by rcases e with e | e <;> exact absurd e (by show ¬ (4 : Int) = _; decide)⟩
theorem ev_bad (d : Cl) (f : Fr) (k : Int) (hk : k ≠ 0) : EvOk ⟨d, 3, f, k⟩ := ⟨(by decide : (0 : Int) ≤ 3), (by decide : (3 : Int) ≤ 4), ⟨fun _ => hk, fun _ => rfl⟩, fun e => by rcases e with e | e <;> exact absurd e (by show ¬ (3 : Int) = _; decide)⟩
theorem ev_fr (d : Cl) (f : Fr) (k : Int) (hk : k = 1 ∨ k = 2) (hf : FP.rightB f = true) : EvOk ⟨d, k, f, 0⟩ := ⟨by show 0 ≤ k; omega, by show k ≤ 4; omega, ⟨fun e => absurd e (by show ¬ k = 3; omega), fun e => absurd rfl e⟩, fun _ => hf⟩
theorem ev_take (c : Cl) (k : Int) (b : UInt8) (hk : k = 0 ∨ k = 4) : EvOk (c.take k b) := by
  unfold Cl.take
  split
  · exact ev_bad _ _ 10 (by decide)
  · split
    · exact ev_bad _ _ 12 (by decide)
    · rcases hk with rfl | rfl
      · exact ev_none _ _
      · exact ev_lost _ _
theorem Cl.Ok.ev {c : Cl} (h : c.Ok) (b : UInt8) : EvOk (c.samp b) := by
  unfold Cl.samp
  split
  · exact ev_none _ _
  · split
    · exact ev_none _ _
    · split
      · rename_i hs
        unfold Cl.frame
        split
        · unfold Cl.behind
          split
          · exact ev_bad _ _ 14 (by decide)
          · split
            · exact ev_bad _ _ 12 (by decide)
            · split
              · exact ev_bad _ _ 11 (by decide)
              · split
                · unfold Cl.ends
                  split
                  · exact ev_none _ _
                  · split
                    · rename_i hsd
                      exact ev_fr _ _ 1 (.inl rfl) (h.has ((h.inn hs).yes hsd).1)
                    · exact ev_none _ _
                · split
                  · rename_i h8
                    have hi := h.inn hs
                    have hg : goodB c.g = true := by
                      have := hi.gd h8.2 (by omega)
                      rw [hi.good, Bool.and_eq_true] at this
                      exact this.2
                    exact ev_fr _ _ 2 (.inr rfl) (FP.good_only hi.bits hg).2
                  · exact ev_none _ _
        · unfold Cl.body
          split
          · split
            · exact ev_take _ 4 b (.inr rfl)
            · exact ev_bad _ _ 13 (by decide)
          · exact ev_take _ 0 b (.inl rfl)
      · split
        · exact ev_none _ _
        · split
          · exact ev_none _ _
          · split
            · exact ev_none _ _
            · split
              · exact ev_none _ _
              · split
                · exact ev_none _ _
                · exact ev_none _ _
end Go.Proofs.YtpfbobcilphncaaDoor

/- The walks of the reference's Turn and Right of rows. -/
namespace Go.Proofs.YtpfbobcilphncaaDoor
open Go.ChangeShapes Go.WideShapes Go.ChangeAt Go.RowKit
open FP (turnF)

theorem turn_str (s : ByteArray) (i k : Nat) (h : i < s.size) (hk : k = i + 1) (c : UInt8) (hc : (if s.data.toList[i]? = some 48 then (49 : UInt8) else 48) = c) :
    s.extract 0 i ++ ⟨#[c]⟩ ++ s.extract k s.size = ⟨(turnF s.data.toList i).toArray⟩ := by
  have LS : s.data.toList.length = s.size := Array.length_toList
  rw [ByteArray.ext_iff, ← Array.toList_inj]
  unfold turnF
  rw [hc, hk]
  simp only [ByteArray.data_append, Array.toList_append, toList_extract]
  rw [List.extract_eq_take_drop, List.extract_eq_take_drop, List.drop_zero, Nat.sub_zero, List.take_of_length_le (i := s.size - (i + 1)) (by rw [List.length_drop]; omega)]
  simp

set_option maxRecDepth 100000 in
set_option maxHeartbeats 1000000 in
theorem refTurn_any (s : ByteArray) (N : Int) (i : Nat) (w : World) (hN : N = i) (h : i < s.size) (hb : ∀ c ∈ s.data.toList, c = 48 ∨ c = 49) (hs : s.size ≤ 4000) :
    Calls Tryd.prog 22 #[.string s, .int .i64 N] w fun e w' => e = .returned (.string ⟨(turnF s.data.toList i).toArray⟩) ∧ Below w.heap.size w w' := by
  subst hN
  have hi' : (i : Int) < s.size := by omega
  obtain ⟨k, hk⟩ : ∃ k : Nat, (i : Int) + 1 = k := ⟨i + 1, by omega⟩
  have hki : k = i + 1 := by omega
  have hks : (k : Int) ≤ s.size := by omega
  have hkn : k ≤ s.size := by omega
  have g := get_some s i h
  have TS := hide (fun c hc => turn_str s i k h hki c hc)
  generalize turnF s.data.toList i = tl at *
  have LS : s.data.toList.length = s.size := Array.length_toList
  rcases hb _ (List.getElem_mem (l := s.data.toList) (n := i) (by omega)) with hc | hc
  · have hsi : s[i] = 48 := hc
    have e1 : ((s[i].toNat : Int) == 48) = true := by rw [hsi]; rfl
    have T := hide (TS.out 49 (by rw [g, hsi]; rfl))
    clear TS hc g hsi hki hb
    generalize hts : (⟨tl.toArray⟩ : ByteArray) = ts at *
    go_enter Tryd.func22, Tryd.ntmps22
    go_wp2_with fail
    refine wp_region_tame (by kernel_rfl) (by kernel_rfl) ?_
    repeat (go_big_quiet_step (fail))
    refine wpQuiet_nil ?_
    rintro _ ⟨sw, rfl⟩
    have q := sw.h
    go_wp2
    go_ret
    exact ⟨by rw [← T.out]; rfl, q⟩
  · have hsi : s[i] = 49 := hc
    have e1 : ((s[i].toNat : Int) == 48) = false := by rw [hsi]; rfl
    have T := hide (TS.out 48 (by rw [g, hsi]; rfl))
    clear TS hc g hsi hki hb
    generalize hts : (⟨tl.toArray⟩ : ByteArray) = ts at *
    go_enter Tryd.func22, Tryd.ntmps22
    go_wp2_with fail
    refine wp_region_tame (by kernel_rfl) (by kernel_rfl) ?_
    repeat (go_big_quiet_step (fail))
    refine wpQuiet_nil ?_
    rintro _ ⟨sw, rfl⟩
    have q := sw.h
    go_wp2
    go_ret
    exact ⟨by rw [← T.out]; rfl, q⟩

theorem bitRow_no {l : List UInt8} {j : Nat} {c : UInt8} (h : l[j]? = some c) (h0 : c ≠ 48) (h1 : c ≠ 49) : bitRow l = false := by
  have hm : c ∈ l := List.mem_of_getElem? h
  cases hb : bitRow l with
  | false => rfl
  | true => exact ((bitRow_iff.1 hb).2 c hm).elim (fun e => absurd e h0) (fun e => absurd e h1)

set_option maxRecDepth 100000 in
set_option maxHeartbeats 1000000 in
theorem refBits01_any (s : ByteArray) (w : World) (hs : s.size ≤ maxLen) :
    Calls Tryd.prog 17 #[.string s] w fun e w' => e = .returned (.bool (bitRow s.data.toList)) ∧ w = w' := by
  unfold maxLen at hs
  have LS := hide (show s.data.toList.length = s.size from Array.length_toList)
  have GS := hide (fun j (h : j < s.size) => get_some s j h)
  have NO := hide (fun j c h h0 h1 => bitRow_no (l := s.data.toList) (j := j) (c := c) h h0 h1)
  have YES := hide (fun (h : ∀ j, j < s.size → ∃ c, s.data.toList[j]? = some c ∧ (c = 48 ∨ c = 49)) => show bitRow s.data.toList = decide ((s.size : Int) ≤ 4000) from by
    have hall : ∀ c ∈ s.data.toList, c = 48 ∨ c = 49 := fun c hc => by
      obtain ⟨j, hj, rfl⟩ := List.getElem_of_mem hc
      obtain ⟨c, hc1, hc2⟩ := h j (by rw [← LS.out]; exact hj)
      rw [List.getElem?_eq_getElem hj, Option.some.injEq] at hc1
      rw [hc1]; exact hc2
    unfold bitRow
    rw [LS.out, List.all_eq_true.2 (fun c hc => by rcases hall c hc with rfl | rfl <;> rfl), Bool.and_true]
    congr 1
    rw [eq_iff_iff]; omega)
  generalize bitRow s.data.toList = br at *
  go_enter Tryd.func17, Tryd.ntmps17
  go_wp2
  go_loop [3] (fun vi => ∃ j : Nat, j ≤ s.size ∧ vi = .int .i64 j ∧ Hid (∀ k, k < j → ∃ c, s.data.toList[k]? = some c ∧ (c = 48 ∨ c = 49))) (fun vi => s.size - (intOf vi).toNat)
  case atStart => exact ⟨0, Nat.zero_le _, rfl, hide (fun k h => by omega)⟩
  case round =>
    obtain ⟨j, hj, rfl, H⟩ := hrel
    by_cases hlt : j < s.size
    · have hlt' : (j : Int) < s.size := by omega
      by_cases h8 : s[j] = 48
      · have e1 : ((s[j].toNat : Int) != 48) = false := by rw [h8]; rfl
        have H2 := hide (show ∀ k, k < j + 1 → ∃ c, s.data.toList[k]? = some c ∧ (c = 48 ∨ c = 49) from fun k hk => by
          by_cases e : k = j
          · subst e; exact ⟨_, GS.out k hlt, .inl h8⟩
          · exact H.out k (by omega))
        clear h8
        go_wp2
        go_round
        case rel => exact ⟨j + 1, by omega, by go_num, H2⟩
        case measure => simp [intOf]; omega
      · have e1 : ((s[j].toNat : Int) != 48) = true := by
          rw [bne_iff_ne]; intro e; exact h8 (UInt8.toNat_inj.1 (by show s[j].toNat = 48; omega))
        by_cases h9 : s[j] = 49
        · have e2 : ((s[j].toNat : Int) != 49) = false := by rw [h9]; rfl
          have H2 := hide (show ∀ k, k < j + 1 → ∃ c, s.data.toList[k]? = some c ∧ (c = 48 ∨ c = 49) from fun k hk => by
            by_cases e : k = j
            · subst e; exact ⟨_, GS.out k hlt, .inr h9⟩
            · exact H.out k (by omega))
          clear h8 h9
          go_wp2
          go_round
          case rel => exact ⟨j + 1, by omega, by go_num, H2⟩
          case measure => simp [intOf]; omega
        · have e2 : ((s[j].toNat : Int) != 49) = true := by
            rw [bne_iff_ne]; intro e; exact h9 (UInt8.toNat_inj.1 (by show s[j].toNat = 49; omega))
          have HN := hide (NO.out j _ (GS.out j hlt) h8 h9)
          clear h8 h9
          go_wp2
          go_ret
          exact ⟨by rw [HN.out]; rfl, rfl⟩
    · have HY := hide (YES.out (fun k hk => H.out k (by omega)))
      go_wp2
      all_goals
        go_ret
        exact ⟨by rw [HY.out]; first | rfl | (refine ret_bool ?_; simp; omega), rfl⟩
end Go.Proofs.YtpfbobcilphncaaDoor

/- Parts of a function's code, found by a region's number or a test's slot. Nothing of the program's text. -/
namespace Go.Proofs.YtpfbobcilphncaaDoor
open Go.ChangeShapes Go.WideShapes Go.ChangeAt Go.RowKit

def findC (p : Code → Bool) : Code → Option Code
  | .seq a b => if p (.seq a b) then some (.seq a b) else (findC p a).orElse fun _ => findC p b
  | .cond c a b => if p (.cond c a b) then some (.cond c a b) else (findC p a).orElse fun _ => findC p b
  | .block n b => if p (.block n b) then some (.block n b) else findC p b
  | .loop b => if p (.loop b) then some (.loop b) else findC p b
  | .scope b => if p (.scope b) then some (.scope b) else findC p b
  | .rangeFunc f ps a b => if p (.rangeFunc f ps a b) then some (.rangeFunc f ps a b) else (findC p a).orElse fun _ => findC p b
  | c => if p c then some c else none
def isRegion (n : Nat) : Code → Bool
  | .region k _ _ => k == n
  | _ => false
def isCond (t : Nat) : Code → Bool
  | .cond (.tmp k) _ _ => k == t
  | _ => false
def isBlock (n : Nat) : Code → Bool
  | .block k _ => k == n
  | _ => false
def partC (b : Option Code) (p : Code → Bool) : Code := (b.bind (findC p)).getD .skip
end Go.Proofs.YtpfbobcilphncaaDoor

/- Parts of the walk of campanilelaw07.CtlStays. -/
namespace Go.Proofs.YtpfbobcilphncaaDoor
open Go.ChangeShapes Go.WideShapes Go.ChangeAt Go.RowKit
open FP (Fr bitsF bodyF)

theorem bl_cell {w : World} {B : Nat} {A : Option Addr} {l : List Bool} (h : Rd w B A 1 (l.map fun b => [.bool b])) {k : Nat} (hk : k < l.length) : ∃ b off, A = some ⟨b, off, none⟩ ∧ w.cell? ⟨b, off + k, none⟩ = some (.bool l[k]) := by
  obtain ⟨b, off, e, hb, hc⟩ := h (by rw [List.length_map]; omega)
  have hx : (l.map fun b => [Value.bool b])[k]? = some [.bool l[k]] := by simp [hk]
  have := hc k _ 0 _ hx rfl
  rw [Nat.mul_one, Nat.add_zero] at this
  exact ⟨b, off, e, this⟩
theorem frb_box {W : World} {b : Nat} {f : Fr} {t : TypeId} {fz : Nat × Nat} (h : W.heap[b]? = some (.cells (frc f).toArray t fz)) : W.cell? ⟨b, 0, none⟩ = some (.int .u32 f.id) ∧ W.cell? ⟨b, 1, none⟩ = some (.bool f.ext) ∧ W.cell? ⟨b, 2, none⟩ = some (.bool f.rem) ∧ W.cell? ⟨b, 3, none⟩ = some (.int .i64 f.dlc) ∧ W.cell? ⟨b, 4, none⟩ = some (.string f.data) := by
  simp [World.cell?, h, frc]

set_option maxRecDepth 100000 in
set_option maxHeartbeats 32000000 in
theorem ctlStays_frames (w wr : World) (l : List Fr) (A1 : Option Addr) (n1 i y : Nat) (d : Cl) (tb : Bool) {sl0 sl2 sl3 sl4 sl5 sl6 sl9 sl10 sl11 sl12 sl13 sl14 sl15 sl16 sl17 sl18 sl19 sl20 sl21 sl22 sl23 sl24 sl25 sl26 sl27 sl28 sl29 sl30 sl31 sl32 sl33 sl34 sl35 sl36 sl38 sl39 sl40 sl41 sl42 sl43 sl44 sl45 sl46 sl47 sl48 sl49 sl50 sl51 sl52 sl53 sl54 sl55 sl56 sl57 sl58 sl59 sl60 sl61 sl62 sl63 sl64 sl65 sl66 sl67 sl68 sl69 sl70 sl71 sl72 sl73 sl74 sl75 sl76 sl77 sl78 sl79 sl80 sl81 sl82 sl83 sl84 sl85 sl86 sl87 sl88 sl89 sl90 sl91 sl92 sl93 sl94 sl95 sl96 sl97 sl98 sl99 sl100 sl101 sl102 sl103 sl104 sl105 sl106 sl107 sl108 sl109 sl110 sl111 sl112 sl113 sl114 sl115 sl116 sl117 sl118 sl119 sl120 sl121 sl122 sl123 sl124 sl125 sl126 sl127 sl128 sl129 sl130 sl131 sl132 sl133 sl134 sl135 sl136 sl137 sl138 sl139 sl140 sl141 sl142 sl143 sl144 sl145 sl146 sl147 sl148 sl149 sl150 sl151 sl152 sl153 sl154 sl155 sl156 sl157 sl158 sl159 sl160 sl161 sl162 sl163 sl164 sl165 sl166 sl167 sl168 sl169 sl170 sl171 sl172 sl173 sl174 sl175 sl176 sl177 sl178 sl179 sl180 sl181 sl182 sl183 sl184 sl185 sl186 sl187 sl188 sl189 sl190 sl191 sl192 sl193 sl194 sl195 sl196 sl197 sl198 sl199 sl200 sl201 sl202 : Value} {K' : Act → World → Prop} {Q' : Exit → Act → World → Prop} {Cd : Code} (hC : Cd = partC Tryd.f5.body (isCond 37))
    (htb : tb = true ↔ i < l.length)
    (hok : d.Ok)
    (C : Hid (wr.heap[y]? = some (.cells d.cs.toArray 33 (0, 0))))
    (Q : Hid (Below w.heap.size w wr))
    (HF : Hid (∀ f ∈ l, f.id < 4294967296 ∧ f.data.size ≤ maxLen))
    (HR1 : Hid (FrR w w.heap.size A1 l))
    (hc1 : l.length ≤ n1)
    (hm1 : n1 ≤ 9223372036854775807)
    (zQy : w.heap.size ≤ y)
    (hQ : ∀ c (a : Act) d v w, Q' (.panic c) (a.put d v) w → Q' (.panic c) a w)
    (hK : ∀ (v6 v9 v10 v11 v38 v39 v40 v41 v42 v43 v44 v45 v46 v47 v48 v49 v50 v51 v52 v53 v54 v55 v56 v57 v58 v59 v60 v61 v62 v63 v64 v65 v66 v67 v68 v69 v70 v71 v72 v73 : Value) (W' : World), (fun W => ∃ d2 : Cl, d2.Ok ∧ Hid (W.heap[y]? = some (.cells d2.cs.toArray 33 (0, 0))) ∧ Hid (Below w.heap.size w W))  W' → K' ⟨List.toArray (sl0 :: (.slice A1 l.length n1) :: sl2 :: sl3 :: sl4 :: sl5 :: v6 :: (.pointer (some ⟨y, 0, none⟩)) :: (.int .i64 i) :: v9 :: v10 :: v11 :: sl12 :: sl13 :: sl14 :: sl15 :: sl16 :: sl17 :: sl18 :: sl19 :: sl20 :: sl21 :: sl22 :: sl23 :: sl24 :: sl25 :: sl26 :: sl27 :: sl28 :: sl29 :: sl30 :: sl31 :: sl32 :: sl33 :: sl34 :: sl35 :: sl36 :: (.bool tb) :: v38 :: v39 :: v40 :: v41 :: v42 :: v43 :: v44 :: v45 :: v46 :: v47 :: v48 :: v49 :: v50 :: v51 :: v52 :: v53 :: v54 :: v55 :: v56 :: v57 :: v58 :: v59 :: v60 :: v61 :: v62 :: v63 :: v64 :: v65 :: v66 :: v67 :: v68 :: v69 :: v70 :: v71 :: v72 :: v73 :: sl74 :: sl75 :: sl76 :: sl77 :: sl78 :: sl79 :: sl80 :: sl81 :: sl82 :: sl83 :: sl84 :: sl85 :: sl86 :: sl87 :: sl88 :: sl89 :: sl90 :: sl91 :: sl92 :: sl93 :: sl94 :: sl95 :: sl96 :: sl97 :: sl98 :: sl99 :: sl100 :: sl101 :: sl102 :: sl103 :: sl104 :: sl105 :: sl106 :: sl107 :: sl108 :: sl109 :: sl110 :: sl111 :: sl112 :: sl113 :: sl114 :: sl115 :: sl116 :: sl117 :: sl118 :: sl119 :: sl120 :: sl121 :: sl122 :: sl123 :: sl124 :: sl125 :: sl126 :: sl127 :: sl128 :: sl129 :: sl130 :: sl131 :: sl132 :: sl133 :: sl134 :: sl135 :: sl136 :: sl137 :: sl138 :: sl139 :: sl140 :: sl141 :: sl142 :: sl143 :: sl144 :: sl145 :: sl146 :: sl147 :: sl148 :: sl149 :: sl150 :: sl151 :: sl152 :: sl153 :: sl154 :: sl155 :: sl156 :: sl157 :: sl158 :: sl159 :: sl160 :: sl161 :: sl162 :: sl163 :: sl164 :: sl165 :: sl166 :: sl167 :: sl168 :: sl169 :: sl170 :: sl171 :: sl172 :: sl173 :: sl174 :: sl175 :: sl176 :: sl177 :: sl178 :: sl179 :: sl180 :: sl181 :: sl182 :: sl183 :: sl184 :: sl185 :: sl186 :: sl187 :: sl188 :: sl189 :: sl190 :: sl191 :: sl192 :: sl193 :: sl194 :: sl195 :: sl196 :: sl197 :: sl198 :: sl199 :: sl200 :: sl201 :: sl202 :: []), []⟩ W') :
    Cd.wp Tryd.prog (Exit.then K' Q') ⟨List.toArray (sl0 :: (.slice A1 l.length n1) :: sl2 :: sl3 :: sl4 :: sl5 :: sl6 :: (.pointer (some ⟨y, 0, none⟩)) :: (.int .i64 i) :: sl9 :: sl10 :: sl11 :: sl12 :: sl13 :: sl14 :: sl15 :: sl16 :: sl17 :: sl18 :: sl19 :: sl20 :: sl21 :: sl22 :: sl23 :: sl24 :: sl25 :: sl26 :: sl27 :: sl28 :: sl29 :: sl30 :: sl31 :: sl32 :: sl33 :: sl34 :: sl35 :: sl36 :: (.bool tb) :: sl38 :: sl39 :: sl40 :: sl41 :: sl42 :: sl43 :: sl44 :: sl45 :: sl46 :: sl47 :: sl48 :: sl49 :: sl50 :: sl51 :: sl52 :: sl53 :: sl54 :: sl55 :: sl56 :: sl57 :: sl58 :: sl59 :: sl60 :: sl61 :: sl62 :: sl63 :: sl64 :: sl65 :: sl66 :: sl67 :: sl68 :: sl69 :: sl70 :: sl71 :: sl72 :: sl73 :: sl74 :: sl75 :: sl76 :: sl77 :: sl78 :: sl79 :: sl80 :: sl81 :: sl82 :: sl83 :: sl84 :: sl85 :: sl86 :: sl87 :: sl88 :: sl89 :: sl90 :: sl91 :: sl92 :: sl93 :: sl94 :: sl95 :: sl96 :: sl97 :: sl98 :: sl99 :: sl100 :: sl101 :: sl102 :: sl103 :: sl104 :: sl105 :: sl106 :: sl107 :: sl108 :: sl109 :: sl110 :: sl111 :: sl112 :: sl113 :: sl114 :: sl115 :: sl116 :: sl117 :: sl118 :: sl119 :: sl120 :: sl121 :: sl122 :: sl123 :: sl124 :: sl125 :: sl126 :: sl127 :: sl128 :: sl129 :: sl130 :: sl131 :: sl132 :: sl133 :: sl134 :: sl135 :: sl136 :: sl137 :: sl138 :: sl139 :: sl140 :: sl141 :: sl142 :: sl143 :: sl144 :: sl145 :: sl146 :: sl147 :: sl148 :: sl149 :: sl150 :: sl151 :: sl152 :: sl153 :: sl154 :: sl155 :: sl156 :: sl157 :: sl158 :: sl159 :: sl160 :: sl161 :: sl162 :: sl163 :: sl164 :: sl165 :: sl166 :: sl167 :: sl168 :: sl169 :: sl170 :: sl171 :: sl172 :: sl173 :: sl174 :: sl175 :: sl176 :: sl177 :: sl178 :: sl179 :: sl180 :: sl181 :: sl182 :: sl183 :: sl184 :: sl185 :: sl186 :: sl187 :: sl188 :: sl189 :: sl190 :: sl191 :: sl192 :: sl193 :: sl194 :: sl195 :: sl196 :: sl197 :: sl198 :: sl199 :: sl200 :: sl201 :: sl202 :: []), []⟩ wr := by
  subst hC
  conv => arg 2; whnf
  go_cut [] from 99999 (fun W => ∃ d2 : Cl, d2.Ok ∧ Hid (W.heap[y]? = some (.cells d2.cs.toArray 33 (0, 0))) ∧ Hid (Below w.heap.size w W))
  case rest => exact hK _ _ _ _ _ _ _ _ _ _ _ _ _ _ _ _ _ _ _ _ _ _ _ _ _ _ _ _ _ _ _ _ _ _ _ _ _ _ _ _ _ hcut
  case first =>
    clear hK
    by_cases hfr : i < l.length
    · obtain rfl : tb = true := htb.2 hfr
      clear htb
      obtain ⟨b, off, rfl, hbs, f0', f1', f2', f3', f4'⟩ := (FrR.next HR1.out Q.out Q.out.size).at_ hfr
      have hfx := HF.out _ (List.getElem_mem hfr)
      have FW := hide (fun W => show Calls Tryd.prog 7 #[.agg #[.int .u32 l[i].id, .bool l[i].ext, .bool l[i].rem, .int .i64 l[i].dlc, .string l[i].data]] W fun e w' => e = .returned (.agg (frc (cut7 l[i])).toArray) ∧ Below W.heap.size W w' from few07_any l[i] W hfx.2)
      have hid : (cut7 l[i]).id < 4294967296 := hfx.1
      generalize cut7 l[i] = g at *
      have SU := hide (fun W => ctlSubmit_ok d g W hok hid)
      have RR := hide (fun W => show Calls Tryd.prog 8 #[.agg (frc g).toArray] W fun e w' => e = .returned (.bool (FP.rightB g)) ∧ Below W.heap.size W w' from refRight04_any g W hid)
      obtain ⟨x, hx⟩ : ∃ x, x = d.subC g := ⟨_, rfl⟩
      obtain ⟨xe, hxe⟩ : ∃ xe, xe = d.subE g := ⟨_, rfl⟩
      rw [← hx, ← hxe] at SU
      have HX := hide (show x = if FP.rightB g = false then zCl else if d.has = true then zCl else d.give g from hx)
      have HXE := hide (show xe = if FP.rightB g = false then 1 else if d.has = true then 20 else 0 from hxe)
      have HOK := hide hok
      clear hx hxe hok
      go_wp2_with fail
      (with_reducible refine (FW.out _).mono ?_)
      rintro ef1 wf1 ⟨rfl, qf1⟩
      clear FW f0' f1' f2' f3' f4' hfx
      replace C := hide (heap_below C.out qf1)
      replace Q := hide (below_next Q.out Q.out.size qf1)
      clear qf1
      have q1' : Below wf1.heap.size wf1 (wf1.alloc (.cells ((frc zFr)).toArray 24)) := (Below.refl _ _).alloc (Nat.le_refl _) _
      have G := World.alloc_heap_new wf1 (.cells ((frc zFr)).toArray 24)
      have zCz : y < wf1.heap.size := heap_lt C.out
      have zQz : w.heap.size ≤ wf1.heap.size := Q.out.size
      replace C := hide (heap_below C.out q1')
      replace Q := hide (below_next Q.out Q.out.size q1')
      clear q1'
      obtain ⟨w2', hw2'⟩ : ∃ wx, wx = wf1.alloc (.cells ((frc zFr)).toArray 24) := ⟨_, rfl⟩
      rw [← hw2'] at Q C G
      replace G := hide G
      have Tw3' := hide (show (wf1.alloc (.cells ((frc zFr)).toArray 24)).there wf1.heap.size 0 5 by rw [← hw2']; exact there_heap (cs := (frc zFr)) G.out)
      go_wp2_with (refine wpList_store_hid (by rfl) 24 (.tmp 9) (.tmp 42) (by rfl) wf1.heap.size 0 (frc g) (by rfl) (by rfl) (by exact Tw3'.out) (by kernel_rfl) (by simp [Value.oneCell', frc]) ?_)
      intro w3' ew3'
      replace ew3' : Hid (w3' = w2'.setCells wf1.heap.size 0 (frc g)) := by rw [hw2']; exact ew3'
      replace C := hide (show w3'.heap[y]? = some (.cells d.cs.toArray 33 (0, 0)) by rw [ew3'.out]; exact other_heap (by omega) _ _ _ C.out)
      replace Q := hide (show Below w.heap.size w w3' by rw [ew3'.out]; exact Q.out.trans (below_setCells _ _ _ (by have := Q.out.size; omega)))
      replace G := hide (show w3'.heap[wf1.heap.size]? = some (.cells (frc g).toArray 24 (0, 0)) by rw [ew3'.out]; exact whole_heap (frc g) (xs := (frc zFr)) G.out rfl)
      clear ew3' Tw3' hw2'
      generalize wf1.heap.size = z at *
      go_wp2_with (first | (refine wpList_load_row rfl 33 (.tmp 7) (by rfl) y (by rfl) 33 d.cs.toArray (0, 0) _ (by exact C.out) Tryd.underlying33 (by rfl) (by kernel_rfl) ?_) | (refine wpList_load_row rfl 24 (.tmp 9) (by rfl) z (by rfl) 24 (frc g).toArray (0, 0) _ (by exact G.out) Tryd.underlying24 (by rfl) (by kernel_rfl) ?_))
      (with_reducible refine (SU.out _).mono ?_)
      rintro ew4' w4' ⟨rfl, qw4'⟩
      replace C := hide (heap_below C.out qw4')
      replace G := hide (heap_below G.out qw4')
      replace Q := hide (below_next Q.out Q.out.size qw4')
      clear qw4'
      clear SU
      have q5' : Below w4'.heap.size w4' (w4'.alloc (.cells zCl.cs.toArray 33)) := (Below.refl _ _).alloc (Nat.le_refl _) _
      have X := World.alloc_heap_new w4' (.cells zCl.cs.toArray 33)
      have zCu : y < w4'.heap.size := heap_lt C.out
      have zGu : z < w4'.heap.size := heap_lt G.out
      have zQu : w.heap.size ≤ w4'.heap.size := Q.out.size
      replace C := hide (heap_below C.out q5')
      replace G := hide (heap_below G.out q5')
      replace Q := hide (below_next Q.out Q.out.size q5')
      clear q5'
      obtain ⟨w6', hw6'⟩ : ∃ wx, wx = w4'.alloc (.cells zCl.cs.toArray 33) := ⟨_, rfl⟩
      rw [← hw6'] at Q C G X
      replace X := hide X
      have Tw7' := hide (show (w4'.alloc (.cells zCl.cs.toArray 33)).there w4'.heap.size 0 23 by rw [← hw6']; exact there_heap (cs := zCl.cs) X.out)
      go_wp2_with (refine wpList_store_hid (by rfl) 33 (.tmp 10) (.tmp 47) (by rfl) w4'.heap.size 0 x.cs (by rfl) (by rfl) (by exact Tw7'.out) (by kernel_rfl) (by simp [Value.oneCell', Cl.cs]) ?_)
      intro w7' ew7'
      replace ew7' : Hid (w7' = w6'.setCells w4'.heap.size 0 x.cs) := by rw [hw6']; exact ew7'
      replace C := hide (show w7'.heap[y]? = some (.cells d.cs.toArray 33 (0, 0)) by rw [ew7'.out]; exact other_heap (by omega) _ _ _ C.out)
      replace G := hide (show w7'.heap[z]? = some (.cells (frc g).toArray 24 (0, 0)) by rw [ew7'.out]; exact other_heap (by omega) _ _ _ G.out)
      replace Q := hide (show Below w.heap.size w w7' by rw [ew7'.out]; exact Q.out.trans (below_setCells _ _ _ (by have := Q.out.size; omega)))
      replace X := hide (show w7'.heap[w4'.heap.size]? = some (.cells x.cs.toArray 33 (0, 0)) by rw [ew7'.out]; exact whole_heap x.cs (xs := zCl.cs) X.out rfl)
      clear ew7' Tw7' hw6'
      generalize w4'.heap.size = u at *
      go_wp2_with (refine wpList_load_row rfl 24 (.tmp 9) (by rfl) z (by rfl) 24 (frc g).toArray (0, 0) _ (by exact G.out) Tryd.underlying24 (by rfl) (by kernel_rfl) ?_)
      (with_reducible refine (RR.out _).mono ?_)
      rintro ew8' w8' ⟨rfl, qw8'⟩
      replace C := hide (heap_below C.out qw8')
      replace G := hide (heap_below G.out qw8')
      replace X := hide (heap_below X.out qw8')
      replace Q := hide (below_next Q.out Q.out.size qw8')
      clear qw8'
      clear RR
      rcases Bool.eq_false_or_eq_true (FP.rightB g) with hr | hr
      · obtain ⟨-, ⟨-, -, -, -, c8⟩, -⟩ := cl_cells C.out
        rcases Bool.eq_false_or_eq_true d.has with hh | hh
        · have h20 : xe = 20 := by rw [HXE.out, hr, hh]; rfl
          rw [hh] at c8
          rw [hr]
          subst h20
          clear HX HXE hh
          go_wp2_with fail
          go_meet
          exact ⟨d, HOK.out, C, Q⟩
        · have h0 : xe = 0 := by rw [HXE.out, hr, hh]; rfl
          have hx2 : x = d.give g := by rw [HX.out, hr, hh]; rfl
          have hok3 : x.Ok := by rw [hx2]; exact HOK.out.give hh hr
          obtain ⟨x8, x9, x10, x11, x12, x13⟩ : w8'.cell? ⟨u, 8, none⟩ = some (.bool true) ∧ w8'.cell? ⟨u, 9, none⟩ = some (.int .u32 g.id) ∧ w8'.cell? ⟨u, 10, none⟩ = some (.bool g.ext) ∧ w8'.cell? ⟨u, 11, none⟩ = some (.bool g.rem) ∧ w8'.cell? ⟨u, 12, none⟩ = some (.int .i64 g.dlc) ∧ w8'.cell? ⟨u, 13, none⟩ = some (.string g.data) := by
            obtain ⟨-, ⟨-, -, -, -, a8⟩, ⟨a9, a10, a11, a12, a13⟩, -⟩ := cl_cells X.out
            rw [hx2] at a8 a9 a10 a11 a12 a13
            exact ⟨a8, a9, a10, a11, a12, a13⟩
          obtain ⟨g0', g1', g2', g3', g4'⟩ := frb_box G.out
          rw [hh] at c8
          rw [hr]
          subst h0
          have HOK3 := hide hok3
          clear HX HXE hh hx2 HOK hok3
          have Tw9' := hide (show World.there _ y 0 23 from there_heap (cs := d.cs) C.out)
          go_wp2_with (first | (refine wpList_load_row rfl 33 (.tmp 10) (by rfl) u (by rfl) 33 x.cs.toArray (0, 0) _ (by exact X.out) Tryd.underlying33 (by rfl) (by kernel_rfl) ?_) | (refine wpList_store_hid (by rfl) 33 (.tmp 7) (.tmp 62) (by rfl) y 0 x.cs (by rfl) (by rfl) (by exact Tw9'.out) (by kernel_rfl) (by simp [Value.oneCell', Cl.cs]) ?_))
          intro w9' ew9'
          replace G := hide (show w9'.heap[z]? = some (.cells (frc g).toArray 24 (0, 0)) by rw [ew9'.out]; exact other_heap (by omega) _ _ _ G.out)
          replace X := hide (show w9'.heap[u]? = some (.cells x.cs.toArray 33 (0, 0)) by rw [ew9'.out]; exact other_heap (by omega) _ _ _ X.out)
          replace Q := hide (show Below w.heap.size w w9' by rw [ew9'.out]; exact Q.out.trans (below_setCells _ _ _ (by have := Q.out.size; omega)))
          replace C := hide (show w9'.heap[y]? = some (.cells x.cs.toArray 33 (0, 0)) by rw [ew9'.out]; exact whole_heap x.cs (xs := d.cs) C.out rfl)
          clear ew9' Tw9'
          go_wp2_with fail
          go_meet
          exact ⟨x, HOK3.out, C, Q⟩
      · have h1 : xe = 1 := by rw [HXE.out, hr]; rfl
        rw [hr]
        subst h1
        clear HX HXE
        go_wp2_with fail
        go_meet
        exact ⟨d, HOK.out, C, Q⟩
    · obtain rfl : tb = false := by cases tb; rfl; exact absurd (htb.1 rfl) hfr
      clear htb
      go_wp2_with fail
      go_meet
      exact ⟨d, hok, C, Q⟩

set_option maxRecDepth 100000 in
set_option maxHeartbeats 32000000 in
theorem ctlStays_sample (w wr : World) (S : ByteArray) (i y : Nat) (d2 e2 : Cl) (kd : Int) (ef : Fr) (bd : Int) (hi : i < S.size) {sl1 sl2 sl3 sl4 sl5 sl6 sl9 sl10 sl11 sl12 sl13 sl14 sl15 sl16 sl17 sl18 sl19 sl20 sl21 sl22 sl23 sl24 sl25 sl26 sl27 sl28 sl29 sl30 sl31 sl32 sl33 sl34 sl35 sl36 sl37 sl38 sl39 sl40 sl41 sl42 sl43 sl44 sl45 sl46 sl47 sl48 sl49 sl50 sl51 sl52 sl53 sl54 sl55 sl56 sl57 sl58 sl59 sl60 sl61 sl62 sl63 sl64 sl65 sl66 sl67 sl68 sl69 sl70 sl71 sl72 sl73 sl74 sl75 sl76 sl77 sl78 sl79 sl80 sl81 sl82 sl83 sl84 sl85 sl86 sl87 sl88 sl89 sl90 sl91 sl92 sl93 sl94 sl95 sl96 sl97 sl98 sl99 sl100 sl101 sl102 sl103 sl104 sl105 sl106 sl107 sl108 sl109 sl110 sl111 sl112 sl113 sl114 sl115 sl116 sl117 sl118 sl119 sl120 sl121 sl122 sl123 sl124 sl125 sl126 sl127 sl128 sl129 sl130 sl131 sl132 sl133 sl134 sl135 sl136 sl137 sl138 sl139 sl140 sl141 sl142 sl143 sl144 sl145 sl146 sl147 sl148 sl149 sl150 sl151 sl152 sl153 sl154 sl155 sl156 sl157 sl158 sl159 sl160 sl161 sl162 sl163 sl164 sl165 sl166 sl167 sl168 sl169 sl170 sl171 sl172 sl173 sl174 sl175 sl176 sl177 sl178 sl179 sl180 sl181 sl182 sl183 sl184 sl185 sl186 sl187 sl188 sl189 sl190 sl191 sl192 sl193 sl194 sl195 sl196 sl197 sl198 sl199 sl200 sl201 sl202 : Value} {K' : Act → World → Prop} {Q' : Exit → Act → World → Prop} {Cd : Code} (hC : Cd = partC Tryd.f5.body (isRegion 27))
    (SA : Hid (∀ W : World, Calls Tryd.prog 13 #[.agg d2.cs.toArray, .int .u8 S[i].toNat] W fun e w' => e = .returned (.tuple #[.agg e2.cs.toArray, .agg (evL kd ef bd).toArray, .int .i64 0]) ∧ Below W.heap.size W w'))
    (C : Hid (wr.heap[y]? = some (.cells d2.cs.toArray 33 (0, 0))))
    (Q : Hid (Below w.heap.size w wr))
    (zQy : w.heap.size ≤ y)
    (hQ : ∀ c (a : Act) d v w, Q' (.panic c) (a.put d v) w → Q' (.panic c) a w)
    (hK : ∀ (v16 v17 v18 v133 v134 v135 v136 v137 v138 v139 v140 v141 : Value) (W' : World), (fun vx vv ve W => ∃ x7 x8, vx = .pointer (some ⟨x7, 0, none⟩) ∧ vv = .pointer (some ⟨x8, 0, none⟩) ∧ ve = .int .i64 0 ∧ Hid (W.heap[x7]? = some (.cells e2.cs.toArray 33 (0, 0))) ∧ Hid (W.heap[x8]? = some (.cells (evL kd ef bd).toArray 42 (0, 0))) ∧ Hid (W.heap[y]? = some (.cells d2.cs.toArray 33 (0, 0))) ∧ Hid (Below w.heap.size w W) ∧ y < x7) v16 v17 v18 W' → K' ⟨List.toArray ((.string S) :: sl1 :: sl2 :: sl3 :: sl4 :: sl5 :: sl6 :: (.pointer (some ⟨y, 0, none⟩)) :: (.int .i64 i) :: sl9 :: sl10 :: sl11 :: sl12 :: sl13 :: sl14 :: sl15 :: v16 :: v17 :: v18 :: sl19 :: sl20 :: sl21 :: sl22 :: sl23 :: sl24 :: sl25 :: sl26 :: sl27 :: sl28 :: sl29 :: sl30 :: sl31 :: sl32 :: sl33 :: sl34 :: sl35 :: sl36 :: sl37 :: sl38 :: sl39 :: sl40 :: sl41 :: sl42 :: sl43 :: sl44 :: sl45 :: sl46 :: sl47 :: sl48 :: sl49 :: sl50 :: sl51 :: sl52 :: sl53 :: sl54 :: sl55 :: sl56 :: sl57 :: sl58 :: sl59 :: sl60 :: sl61 :: sl62 :: sl63 :: sl64 :: sl65 :: sl66 :: sl67 :: sl68 :: sl69 :: sl70 :: sl71 :: sl72 :: sl73 :: sl74 :: sl75 :: sl76 :: sl77 :: sl78 :: sl79 :: sl80 :: sl81 :: sl82 :: sl83 :: sl84 :: sl85 :: sl86 :: sl87 :: sl88 :: sl89 :: sl90 :: sl91 :: sl92 :: sl93 :: sl94 :: sl95 :: sl96 :: sl97 :: sl98 :: sl99 :: sl100 :: sl101 :: sl102 :: sl103 :: sl104 :: sl105 :: sl106 :: sl107 :: sl108 :: sl109 :: sl110 :: sl111 :: sl112 :: sl113 :: sl114 :: sl115 :: sl116 :: sl117 :: sl118 :: sl119 :: sl120 :: sl121 :: sl122 :: sl123 :: sl124 :: sl125 :: sl126 :: sl127 :: sl128 :: sl129 :: sl130 :: sl131 :: sl132 :: v133 :: v134 :: v135 :: v136 :: v137 :: v138 :: v139 :: v140 :: v141 :: sl142 :: sl143 :: sl144 :: sl145 :: sl146 :: sl147 :: sl148 :: sl149 :: sl150 :: sl151 :: sl152 :: sl153 :: sl154 :: sl155 :: sl156 :: sl157 :: sl158 :: sl159 :: sl160 :: sl161 :: sl162 :: sl163 :: sl164 :: sl165 :: sl166 :: sl167 :: sl168 :: sl169 :: sl170 :: sl171 :: sl172 :: sl173 :: sl174 :: sl175 :: sl176 :: sl177 :: sl178 :: sl179 :: sl180 :: sl181 :: sl182 :: sl183 :: sl184 :: sl185 :: sl186 :: sl187 :: sl188 :: sl189 :: sl190 :: sl191 :: sl192 :: sl193 :: sl194 :: sl195 :: sl196 :: sl197 :: sl198 :: sl199 :: sl200 :: sl201 :: sl202 :: []), []⟩ W') :
    Cd.wp Tryd.prog (Exit.then K' Q') ⟨List.toArray ((.string S) :: sl1 :: sl2 :: sl3 :: sl4 :: sl5 :: sl6 :: (.pointer (some ⟨y, 0, none⟩)) :: (.int .i64 i) :: sl9 :: sl10 :: sl11 :: sl12 :: sl13 :: sl14 :: sl15 :: sl16 :: sl17 :: sl18 :: sl19 :: sl20 :: sl21 :: sl22 :: sl23 :: sl24 :: sl25 :: sl26 :: sl27 :: sl28 :: sl29 :: sl30 :: sl31 :: sl32 :: sl33 :: sl34 :: sl35 :: sl36 :: sl37 :: sl38 :: sl39 :: sl40 :: sl41 :: sl42 :: sl43 :: sl44 :: sl45 :: sl46 :: sl47 :: sl48 :: sl49 :: sl50 :: sl51 :: sl52 :: sl53 :: sl54 :: sl55 :: sl56 :: sl57 :: sl58 :: sl59 :: sl60 :: sl61 :: sl62 :: sl63 :: sl64 :: sl65 :: sl66 :: sl67 :: sl68 :: sl69 :: sl70 :: sl71 :: sl72 :: sl73 :: sl74 :: sl75 :: sl76 :: sl77 :: sl78 :: sl79 :: sl80 :: sl81 :: sl82 :: sl83 :: sl84 :: sl85 :: sl86 :: sl87 :: sl88 :: sl89 :: sl90 :: sl91 :: sl92 :: sl93 :: sl94 :: sl95 :: sl96 :: sl97 :: sl98 :: sl99 :: sl100 :: sl101 :: sl102 :: sl103 :: sl104 :: sl105 :: sl106 :: sl107 :: sl108 :: sl109 :: sl110 :: sl111 :: sl112 :: sl113 :: sl114 :: sl115 :: sl116 :: sl117 :: sl118 :: sl119 :: sl120 :: sl121 :: sl122 :: sl123 :: sl124 :: sl125 :: sl126 :: sl127 :: sl128 :: sl129 :: sl130 :: sl131 :: sl132 :: sl133 :: sl134 :: sl135 :: sl136 :: sl137 :: sl138 :: sl139 :: sl140 :: sl141 :: sl142 :: sl143 :: sl144 :: sl145 :: sl146 :: sl147 :: sl148 :: sl149 :: sl150 :: sl151 :: sl152 :: sl153 :: sl154 :: sl155 :: sl156 :: sl157 :: sl158 :: sl159 :: sl160 :: sl161 :: sl162 :: sl163 :: sl164 :: sl165 :: sl166 :: sl167 :: sl168 :: sl169 :: sl170 :: sl171 :: sl172 :: sl173 :: sl174 :: sl175 :: sl176 :: sl177 :: sl178 :: sl179 :: sl180 :: sl181 :: sl182 :: sl183 :: sl184 :: sl185 :: sl186 :: sl187 :: sl188 :: sl189 :: sl190 :: sl191 :: sl192 :: sl193 :: sl194 :: sl195 :: sl196 :: sl197 :: sl198 :: sl199 :: sl200 :: sl201 :: sl202 :: []), []⟩ wr := by
  subst hC
  conv => arg 2; whnf
  go_cut [16, 17, 18] from 99999 (fun vx vv ve W => ∃ x7 x8, vx = .pointer (some ⟨x7, 0, none⟩) ∧ vv = .pointer (some ⟨x8, 0, none⟩) ∧ ve = .int .i64 0 ∧ Hid (W.heap[x7]? = some (.cells e2.cs.toArray 33 (0, 0))) ∧ Hid (W.heap[x8]? = some (.cells (evL kd ef bd).toArray 42 (0, 0))) ∧ Hid (W.heap[y]? = some (.cells d2.cs.toArray 33 (0, 0))) ∧ Hid (Below w.heap.size w W) ∧ y < x7)
  case rest => exact hK _ _ _ _ _ _ _ _ _ _ _ _ _ hcut
  case first =>
    clear hK
    have hki : (i : Int) < (S.size : Int) := by omega
    go_wp2_with fail
    refine wp_region_L [0, 1, 2, 3, 5, 6, 7, 8] [(0, fun W => W.heap[y]? = some (.cells d2.cs.toArray 33 (0, 0)))] (by kernel_rfl) ?_
    replace C := hide (show wr.drew.heap[y]? = some (.cells d2.cs.toArray 33 (0, 0)) from C.out)
    replace Q := hide (show Below w.heap.size w wr.drew from Q.out.drew)
    generalize wr.drew = wd at *
    refine wpAnyL_load (i := 0) (v := .agg d2.cs.toArray) rfl rfl (by kernel_rfl) (by kernel_rfl) (by kernel_rfl) (by kernel_rfl) (by kernel_rfl) (fun _ _ _ h => hQ _ _ _ _ _ h) rfl (fun W h => exec_heap W y 33 _ _ h Tryd.underlying33 rfl (by kernel_rfl) _ _ (.tmp 7) (by rfl) (by rfl)) (C.out) ?_
    go_simp
    refine wpAnyL_pure (i := 1) (v := .string S) rfl rfl (by kernel_rfl) (by kernel_rfl) (by kernel_rfl) (by kernel_rfl) (by kernel_rfl) (fun _ _ _ h => hQ _ _ _ _ _ h) rfl (fun W => by go_simp) ?_
    go_simp
    refine wpAnyL_pure (i := 2) (v := .int .i64 i) rfl rfl (by kernel_rfl) (by kernel_rfl) (by kernel_rfl) (by kernel_rfl) (by kernel_rfl) (fun _ _ _ h => hQ _ _ _ _ _ h) rfl (fun W => by go_simp) ?_
    go_simp
    refine wpAnyL_pure (i := 3) (v := .int .u8 S[i].toNat) rfl rfl (by kernel_rfl) (by kernel_rfl) (by kernel_rfl) (by kernel_rfl) (by kernel_rfl) (fun _ _ _ h => hQ _ _ _ _ _ h) rfl (fun W => by go_simp) ?_
    go_simp
    refine wpAnyL_three (i := 4) (k := 9) (m := 10) (by kernel_rfl) ?_ ?_ ?_
    · refine wpOp_do rfl rfl ?_
      go_simp
      (with_reducible refine (SA.out _).mono ?_)
      rintro ewda wda ⟨rfl, q⟩
      replace C := hide (heap_below C.out q)
      replace Q := hide (below_next Q.out Q.out.size q)
      clear q
      go_simp
      refine ⟨keepsL_all (by kernel_rfl) (by kernel_rfl), ?_⟩
      go_simp
      refine wpAnyL_pure (i := 5) (v := .tuple #[.agg (e2.cs).toArray, .agg (evL kd ef bd).toArray, .int .i64 0]) rfl rfl (by kernel_rfl) (by kernel_rfl) (by kernel_rfl) (by kernel_rfl) (by kernel_rfl) (fun _ _ _ h => hQ _ _ _ _ _ h) rfl (fun W => by go_simp) ?_
      go_simp
      refine wpAnyL_pure (i := 6) (v := .agg (e2.cs).toArray) rfl rfl (by kernel_rfl) (by kernel_rfl) (by kernel_rfl) (by kernel_rfl) (by kernel_rfl) (fun _ _ _ h => hQ _ _ _ _ _ h) rfl (fun W => by go_simp) ?_
      go_simp
      refine wpAnyL_pure (i := 7) (v := .agg (evL kd ef bd).toArray) rfl rfl (by kernel_rfl) (by kernel_rfl) (by kernel_rfl) (by kernel_rfl) (by kernel_rfl) (fun _ _ _ h => hQ _ _ _ _ _ h) rfl (fun W => by go_simp) ?_
      go_simp
      refine wpAnyL_pure (i := 8) (v := .int .i64 0) rfl rfl (by kernel_rfl) (by kernel_rfl) (by kernel_rfl) (by kernel_rfl) (by kernel_rfl) (fun _ _ _ h => hQ _ _ _ _ _ h) rfl (fun W => by go_simp) ?_
      go_simp
      refine wpAnyL_two (i := 9) (k := 10) (by kernel_rfl) ?_ ?_
      · refine wpOp_do rfl rfl ?_
        go_simp
        have q : Below wda.heap.size wda (wda.alloc (.cells zCl.cs.toArray 33)) := (Below.refl _ _).alloc (Nat.le_refl _) _
        have N7 := hide (World.alloc_heap_new wda (.cells zCl.cs.toArray 33))
        have z7C : y < wda.heap.size := heap_lt C.out
        replace C := hide (heap_below C.out q)
        replace Q := hide (below_next Q.out Q.out.size q)
        clear q
        refine ⟨keepsL_mk (by kernel_rfl) (.cons C.out .nil), ?_⟩
        change wpAnyL _ _ _ _ _ _ _ _ _ (wda.alloc (.cells zCl.cs.toArray 33))
        generalize wda.alloc (.cells zCl.cs.toArray 33) = wdab at *
        generalize wda.heap.size = x7 at *
        go_simp
        refine wpAnyL_one (i := 10) (by kernel_rfl) ?_
        refine wpOp_do rfl rfl ?_
        go_simp
        have q : Below wdab.heap.size wdab (wdab.alloc (.cells (evL 0 zFr 0).toArray 42)) := (Below.refl _ _).alloc (Nat.le_refl _) _
        have N8 := hide (World.alloc_heap_new wdab (.cells (evL 0 zFr 0).toArray 42))
        have z8C : y < wdab.heap.size := heap_lt C.out
        have z78 : x7 < wdab.heap.size := heap_lt N7.out
        replace C := hide (heap_below C.out q)
        replace N7 := hide (heap_below N7.out q)
        replace Q := hide (below_next Q.out Q.out.size q)
        clear q
        refine ⟨keepsL_mk (by kernel_rfl) (.cons C.out .nil), ?_⟩
        change wpAnyL _ _ _ _ _ _ _ _ _ (wdab.alloc (.cells (evL 0 zFr 0).toArray 42))
        generalize wdab.alloc (.cells (evL 0 zFr 0).toArray 42) = wdabc at *
        generalize wdab.heap.size = x8 at *
        go_simp
        have T7 := hide (show wdabc.there x7 0 23 from there_heap (cs := zCl.cs) N7.out)
        refine wpAnyL_one (i := 11) (by kernel_rfl) ?_
        refine wpOp_do rfl rfl ?_
        refine wp_store_as 33 (.tmp 16) (.tmp 139) rfl x7 0 (e2.cs) (by rfl) (by rfl) (by exact T7.out) (by kernel_rfl) (by simp [Value.oneCell', Cl.cs]) ?_
        intro wa ea
        have N7a := hide (show wa.heap[x7]? = some (.cells (e2.cs).toArray 33 (0, 0)) by rw [ea]; exact whole_heap (e2.cs) (xs := zCl.cs) N7.out rfl)
        have N8a := hide (show wa.heap[x8]? = some (.cells (evL 0 zFr 0).toArray 42 (0, 0)) by rw [ea]; exact other_heap (by omega) _ _ _ N8.out)
        have Ca := hide (show wa.heap[y]? = some (.cells d2.cs.toArray 33 (0, 0)) by rw [ea]; exact other_heap (by omega) _ _ _ C.out)
        have Qa := hide (show Below w.heap.size w wa by rw [ea]; exact Q.out.trans (below_setCells _ _ _ (by have := Q.out.size; omega)))
        clear ea T7 N7 N8 Q C
        refine ⟨keepsL_all (by kernel_rfl) (by kernel_rfl), ?_⟩
        go_simp
        have T8 := hide (show wa.there x8 0 7 from there_heap (cs := evL 0 zFr 0) N8a.out)
        refine wpAnyL_one (i := 12) (by kernel_rfl) ?_
        refine wpOp_do rfl rfl ?_
        refine wp_store_as 42 (.tmp 17) (.tmp 140) rfl x8 0 (evL kd ef bd) (by rfl) (by rfl) (by exact T8.out) (by kernel_rfl) (by simp [Value.oneCell', evL]) ?_
        intro wb eb
        have N7 := hide (show wb.heap[x7]? = some (.cells (e2.cs).toArray 33 (0, 0)) by rw [eb]; exact other_heap (by omega) _ _ _ N7a.out)
        have N8 := hide (show wb.heap[x8]? = some (.cells (evL kd ef bd).toArray 42 (0, 0)) by rw [eb]; exact whole_heap (evL kd ef bd) (xs := evL 0 zFr 0) N8a.out rfl)
        have C := hide (show wb.heap[y]? = some (.cells d2.cs.toArray 33 (0, 0)) by rw [eb]; exact other_heap (by omega) _ _ _ Ca.out)
        have Q := hide (show Below w.heap.size w wb by rw [eb]; exact Qa.out.trans (below_setCells _ _ _ (by have := Qa.out.size; omega)))
        clear eb T8 N7a N8a Qa Ca
        refine ⟨keepsL_all (by kernel_rfl) (by kernel_rfl), ?_⟩
        go_simp
        refine wpAnyL_one (i := 13) (by kernel_rfl) ?_
        refine wpOp_do rfl rfl ?_
        go_simp
        refine ⟨keepsL_all (by kernel_rfl) (by kernel_rfl), ?_⟩
        go_simp
        refine wpAnyL_done (by kernel_rfl) ?_ _
        go_wp2_with fail
        go_meet
        exact ⟨x7, x8, rfl, rfl, rfl, N7, N8, C, Q, by omega⟩
      · refine wpOp_do rfl rfl ?_
        go_simp
        have q : Below wda.heap.size wda (wda.alloc (.cells (evL 0 zFr 0).toArray 42)) := (Below.refl _ _).alloc (Nat.le_refl _) _
        have N8 := hide (World.alloc_heap_new wda (.cells (evL 0 zFr 0).toArray 42))
        have z8C : y < wda.heap.size := heap_lt C.out
        replace C := hide (heap_below C.out q)
        replace Q := hide (below_next Q.out Q.out.size q)
        clear q
        refine ⟨keepsL_mk (by kernel_rfl) (.cons C.out .nil), ?_⟩
        change wpAnyL _ _ _ _ _ _ _ _ _ (wda.alloc (.cells (evL 0 zFr 0).toArray 42))
        generalize wda.alloc (.cells (evL 0 zFr 0).toArray 42) = wdac at *
        generalize wda.heap.size = x8 at *
        go_simp
        refine wpAnyL_one (i := 9) (by kernel_rfl) ?_
        refine wpOp_do rfl rfl ?_
        go_simp
        have q : Below wdac.heap.size wdac (wdac.alloc (.cells zCl.cs.toArray 33)) := (Below.refl _ _).alloc (Nat.le_refl _) _
        have N7 := hide (World.alloc_heap_new wdac (.cells zCl.cs.toArray 33))
        have z7C : y < wdac.heap.size := heap_lt C.out
        have z78 : x8 < wdac.heap.size := heap_lt N8.out
        replace C := hide (heap_below C.out q)
        replace N8 := hide (heap_below N8.out q)
        replace Q := hide (below_next Q.out Q.out.size q)
        clear q
        refine ⟨keepsL_mk (by kernel_rfl) (.cons C.out .nil), ?_⟩
        change wpAnyL _ _ _ _ _ _ _ _ _ (wdac.alloc (.cells zCl.cs.toArray 33))
        generalize wdac.alloc (.cells zCl.cs.toArray 33) = wdacb at *
        generalize wdac.heap.size = x7 at *
        go_simp
        have T7 := hide (show wdacb.there x7 0 23 from there_heap (cs := zCl.cs) N7.out)
        refine wpAnyL_one (i := 11) (by kernel_rfl) ?_
        refine wpOp_do rfl rfl ?_
        refine wp_store_as 33 (.tmp 16) (.tmp 139) rfl x7 0 (e2.cs) (by rfl) (by rfl) (by exact T7.out) (by kernel_rfl) (by simp [Value.oneCell', Cl.cs]) ?_
        intro wa ea
        have N7a := hide (show wa.heap[x7]? = some (.cells (e2.cs).toArray 33 (0, 0)) by rw [ea]; exact whole_heap (e2.cs) (xs := zCl.cs) N7.out rfl)
        have N8a := hide (show wa.heap[x8]? = some (.cells (evL 0 zFr 0).toArray 42 (0, 0)) by rw [ea]; exact other_heap (by omega) _ _ _ N8.out)
        have Ca := hide (show wa.heap[y]? = some (.cells d2.cs.toArray 33 (0, 0)) by rw [ea]; exact other_heap (by omega) _ _ _ C.out)
        have Qa := hide (show Below w.heap.size w wa by rw [ea]; exact Q.out.trans (below_setCells _ _ _ (by have := Q.out.size; omega)))
        clear ea T7 N7 N8 Q C
        refine ⟨keepsL_all (by kernel_rfl) (by kernel_rfl), ?_⟩
        go_simp
        have T8 := hide (show wa.there x8 0 7 from there_heap (cs := evL 0 zFr 0) N8a.out)
        refine wpAnyL_one (i := 12) (by kernel_rfl) ?_
        refine wpOp_do rfl rfl ?_
        refine wp_store_as 42 (.tmp 17) (.tmp 140) rfl x8 0 (evL kd ef bd) (by rfl) (by rfl) (by exact T8.out) (by kernel_rfl) (by simp [Value.oneCell', evL]) ?_
        intro wb eb
        have N7 := hide (show wb.heap[x7]? = some (.cells (e2.cs).toArray 33 (0, 0)) by rw [eb]; exact other_heap (by omega) _ _ _ N7a.out)
        have N8 := hide (show wb.heap[x8]? = some (.cells (evL kd ef bd).toArray 42 (0, 0)) by rw [eb]; exact whole_heap (evL kd ef bd) (xs := evL 0 zFr 0) N8a.out rfl)
        have C := hide (show wb.heap[y]? = some (.cells d2.cs.toArray 33 (0, 0)) by rw [eb]; exact other_heap (by omega) _ _ _ Ca.out)
        have Q := hide (show Below w.heap.size w wb by rw [eb]; exact Qa.out.trans (below_setCells _ _ _ (by have := Qa.out.size; omega)))
        clear eb T8 N7a N8a Qa Ca
        refine ⟨keepsL_all (by kernel_rfl) (by kernel_rfl), ?_⟩
        go_simp
        refine wpAnyL_one (i := 13) (by kernel_rfl) ?_
        refine wpOp_do rfl rfl ?_
        go_simp
        refine ⟨keepsL_all (by kernel_rfl) (by kernel_rfl), ?_⟩
        go_simp
        refine wpAnyL_done (by kernel_rfl) ?_ _
        go_wp2_with fail
        go_meet
        exact ⟨x7, x8, rfl, rfl, rfl, N7, N8, C, Q, by omega⟩
    · refine wpOp_do rfl rfl ?_
      go_simp
      have q : Below wd.heap.size wd (wd.alloc (.cells zCl.cs.toArray 33)) := (Below.refl _ _).alloc (Nat.le_refl _) _
      have N7 := hide (World.alloc_heap_new wd (.cells zCl.cs.toArray 33))
      have z7C : y < wd.heap.size := heap_lt C.out
      replace C := hide (heap_below C.out q)
      replace Q := hide (below_next Q.out Q.out.size q)
      clear q
      refine ⟨keepsL_mk (by kernel_rfl) (.cons C.out .nil), ?_⟩
      change wpAnyL _ _ _ _ _ _ _ _ _ (wd.alloc (.cells zCl.cs.toArray 33))
      generalize wd.alloc (.cells zCl.cs.toArray 33) = wdb at *
      generalize wd.heap.size = x7 at *
      go_simp
      refine wpAnyL_two (i := 4) (k := 10) (by kernel_rfl) ?_ ?_
      · refine wpOp_do rfl rfl ?_
        go_simp
        (with_reducible refine (SA.out _).mono ?_)
        rintro ewdba wdba ⟨rfl, q⟩
        replace C := hide (heap_below C.out q)
        replace N7 := hide (heap_below N7.out q)
        replace Q := hide (below_next Q.out Q.out.size q)
        clear q
        go_simp
        refine ⟨keepsL_all (by kernel_rfl) (by kernel_rfl), ?_⟩
        go_simp
        refine wpAnyL_pure (i := 5) (v := .tuple #[.agg (e2.cs).toArray, .agg (evL kd ef bd).toArray, .int .i64 0]) rfl rfl (by kernel_rfl) (by kernel_rfl) (by kernel_rfl) (by kernel_rfl) (by kernel_rfl) (fun _ _ _ h => hQ _ _ _ _ _ h) rfl (fun W => by go_simp) ?_
        go_simp
        refine wpAnyL_pure (i := 6) (v := .agg (e2.cs).toArray) rfl rfl (by kernel_rfl) (by kernel_rfl) (by kernel_rfl) (by kernel_rfl) (by kernel_rfl) (fun _ _ _ h => hQ _ _ _ _ _ h) rfl (fun W => by go_simp) ?_
        go_simp
        refine wpAnyL_pure (i := 7) (v := .agg (evL kd ef bd).toArray) rfl rfl (by kernel_rfl) (by kernel_rfl) (by kernel_rfl) (by kernel_rfl) (by kernel_rfl) (fun _ _ _ h => hQ _ _ _ _ _ h) rfl (fun W => by go_simp) ?_
        go_simp
        refine wpAnyL_pure (i := 8) (v := .int .i64 0) rfl rfl (by kernel_rfl) (by kernel_rfl) (by kernel_rfl) (by kernel_rfl) (by kernel_rfl) (fun _ _ _ h => hQ _ _ _ _ _ h) rfl (fun W => by go_simp) ?_
        go_simp
        refine wpAnyL_one (i := 10) (by kernel_rfl) ?_
        refine wpOp_do rfl rfl ?_
        go_simp
        have q : Below wdba.heap.size wdba (wdba.alloc (.cells (evL 0 zFr 0).toArray 42)) := (Below.refl _ _).alloc (Nat.le_refl _) _
        have N8 := hide (World.alloc_heap_new wdba (.cells (evL 0 zFr 0).toArray 42))
        have z8C : y < wdba.heap.size := heap_lt C.out
        have z78 : x7 < wdba.heap.size := heap_lt N7.out
        replace C := hide (heap_below C.out q)
        replace N7 := hide (heap_below N7.out q)
        replace Q := hide (below_next Q.out Q.out.size q)
        clear q
        refine ⟨keepsL_mk (by kernel_rfl) (.cons C.out .nil), ?_⟩
        change wpAnyL _ _ _ _ _ _ _ _ _ (wdba.alloc (.cells (evL 0 zFr 0).toArray 42))
        generalize wdba.alloc (.cells (evL 0 zFr 0).toArray 42) = wdbac at *
        generalize wdba.heap.size = x8 at *
        go_simp
        have T7 := hide (show wdbac.there x7 0 23 from there_heap (cs := zCl.cs) N7.out)
        refine wpAnyL_one (i := 11) (by kernel_rfl) ?_
        refine wpOp_do rfl rfl ?_
        refine wp_store_as 33 (.tmp 16) (.tmp 139) rfl x7 0 (e2.cs) (by rfl) (by rfl) (by exact T7.out) (by kernel_rfl) (by simp [Value.oneCell', Cl.cs]) ?_
        intro wa ea
        have N7a := hide (show wa.heap[x7]? = some (.cells (e2.cs).toArray 33 (0, 0)) by rw [ea]; exact whole_heap (e2.cs) (xs := zCl.cs) N7.out rfl)
        have N8a := hide (show wa.heap[x8]? = some (.cells (evL 0 zFr 0).toArray 42 (0, 0)) by rw [ea]; exact other_heap (by omega) _ _ _ N8.out)
        have Ca := hide (show wa.heap[y]? = some (.cells d2.cs.toArray 33 (0, 0)) by rw [ea]; exact other_heap (by omega) _ _ _ C.out)
        have Qa := hide (show Below w.heap.size w wa by rw [ea]; exact Q.out.trans (below_setCells _ _ _ (by have := Q.out.size; omega)))
        clear ea T7 N7 N8 Q C
        refine ⟨keepsL_all (by kernel_rfl) (by kernel_rfl), ?_⟩
        go_simp
        have T8 := hide (show wa.there x8 0 7 from there_heap (cs := evL 0 zFr 0) N8a.out)
        refine wpAnyL_one (i := 12) (by kernel_rfl) ?_
        refine wpOp_do rfl rfl ?_
        refine wp_store_as 42 (.tmp 17) (.tmp 140) rfl x8 0 (evL kd ef bd) (by rfl) (by rfl) (by exact T8.out) (by kernel_rfl) (by simp [Value.oneCell', evL]) ?_
        intro wb eb
        have N7 := hide (show wb.heap[x7]? = some (.cells (e2.cs).toArray 33 (0, 0)) by rw [eb]; exact other_heap (by omega) _ _ _ N7a.out)
        have N8 := hide (show wb.heap[x8]? = some (.cells (evL kd ef bd).toArray 42 (0, 0)) by rw [eb]; exact whole_heap (evL kd ef bd) (xs := evL 0 zFr 0) N8a.out rfl)
        have C := hide (show wb.heap[y]? = some (.cells d2.cs.toArray 33 (0, 0)) by rw [eb]; exact other_heap (by omega) _ _ _ Ca.out)
        have Q := hide (show Below w.heap.size w wb by rw [eb]; exact Qa.out.trans (below_setCells _ _ _ (by have := Qa.out.size; omega)))
        clear eb T8 N7a N8a Qa Ca
        refine ⟨keepsL_all (by kernel_rfl) (by kernel_rfl), ?_⟩
        go_simp
        refine wpAnyL_one (i := 13) (by kernel_rfl) ?_
        refine wpOp_do rfl rfl ?_
        go_simp
        refine ⟨keepsL_all (by kernel_rfl) (by kernel_rfl), ?_⟩
        go_simp
        refine wpAnyL_done (by kernel_rfl) ?_ _
        go_wp2_with fail
        go_meet
        exact ⟨x7, x8, rfl, rfl, rfl, N7, N8, C, Q, by omega⟩
      · refine wpOp_do rfl rfl ?_
        go_simp
        have q : Below wdb.heap.size wdb (wdb.alloc (.cells (evL 0 zFr 0).toArray 42)) := (Below.refl _ _).alloc (Nat.le_refl _) _
        have N8 := hide (World.alloc_heap_new wdb (.cells (evL 0 zFr 0).toArray 42))
        have z8C : y < wdb.heap.size := heap_lt C.out
        have z78 : x7 < wdb.heap.size := heap_lt N7.out
        replace C := hide (heap_below C.out q)
        replace N7 := hide (heap_below N7.out q)
        replace Q := hide (below_next Q.out Q.out.size q)
        clear q
        refine ⟨keepsL_mk (by kernel_rfl) (.cons C.out .nil), ?_⟩
        change wpAnyL _ _ _ _ _ _ _ _ _ (wdb.alloc (.cells (evL 0 zFr 0).toArray 42))
        generalize wdb.alloc (.cells (evL 0 zFr 0).toArray 42) = wdbc at *
        generalize wdb.heap.size = x8 at *
        go_simp
        refine wpAnyL_one (i := 4) (by kernel_rfl) ?_
        refine wpOp_do rfl rfl ?_
        go_simp
        (with_reducible refine (SA.out _).mono ?_)
        rintro ewdbca wdbca ⟨rfl, q⟩
        replace C := hide (heap_below C.out q)
        replace N7 := hide (heap_below N7.out q)
        replace N8 := hide (heap_below N8.out q)
        replace Q := hide (below_next Q.out Q.out.size q)
        clear q
        go_simp
        refine ⟨keepsL_all (by kernel_rfl) (by kernel_rfl), ?_⟩
        go_simp
        refine wpAnyL_pure (i := 5) (v := .tuple #[.agg (e2.cs).toArray, .agg (evL kd ef bd).toArray, .int .i64 0]) rfl rfl (by kernel_rfl) (by kernel_rfl) (by kernel_rfl) (by kernel_rfl) (by kernel_rfl) (fun _ _ _ h => hQ _ _ _ _ _ h) rfl (fun W => by go_simp) ?_
        go_simp
        refine wpAnyL_pure (i := 6) (v := .agg (e2.cs).toArray) rfl rfl (by kernel_rfl) (by kernel_rfl) (by kernel_rfl) (by kernel_rfl) (by kernel_rfl) (fun _ _ _ h => hQ _ _ _ _ _ h) rfl (fun W => by go_simp) ?_
        go_simp
        refine wpAnyL_pure (i := 7) (v := .agg (evL kd ef bd).toArray) rfl rfl (by kernel_rfl) (by kernel_rfl) (by kernel_rfl) (by kernel_rfl) (by kernel_rfl) (fun _ _ _ h => hQ _ _ _ _ _ h) rfl (fun W => by go_simp) ?_
        go_simp
        refine wpAnyL_pure (i := 8) (v := .int .i64 0) rfl rfl (by kernel_rfl) (by kernel_rfl) (by kernel_rfl) (by kernel_rfl) (by kernel_rfl) (fun _ _ _ h => hQ _ _ _ _ _ h) rfl (fun W => by go_simp) ?_
        go_simp
        have T7 := hide (show wdbca.there x7 0 23 from there_heap (cs := zCl.cs) N7.out)
        refine wpAnyL_one (i := 11) (by kernel_rfl) ?_
        refine wpOp_do rfl rfl ?_
        refine wp_store_as 33 (.tmp 16) (.tmp 139) rfl x7 0 (e2.cs) (by rfl) (by rfl) (by exact T7.out) (by kernel_rfl) (by simp [Value.oneCell', Cl.cs]) ?_
        intro wa ea
        have N7a := hide (show wa.heap[x7]? = some (.cells (e2.cs).toArray 33 (0, 0)) by rw [ea]; exact whole_heap (e2.cs) (xs := zCl.cs) N7.out rfl)
        have N8a := hide (show wa.heap[x8]? = some (.cells (evL 0 zFr 0).toArray 42 (0, 0)) by rw [ea]; exact other_heap (by omega) _ _ _ N8.out)
        have Ca := hide (show wa.heap[y]? = some (.cells d2.cs.toArray 33 (0, 0)) by rw [ea]; exact other_heap (by omega) _ _ _ C.out)
        have Qa := hide (show Below w.heap.size w wa by rw [ea]; exact Q.out.trans (below_setCells _ _ _ (by have := Q.out.size; omega)))
        clear ea T7 N7 N8 Q C
        refine ⟨keepsL_all (by kernel_rfl) (by kernel_rfl), ?_⟩
        go_simp
        have T8 := hide (show wa.there x8 0 7 from there_heap (cs := evL 0 zFr 0) N8a.out)
        refine wpAnyL_one (i := 12) (by kernel_rfl) ?_
        refine wpOp_do rfl rfl ?_
        refine wp_store_as 42 (.tmp 17) (.tmp 140) rfl x8 0 (evL kd ef bd) (by rfl) (by rfl) (by exact T8.out) (by kernel_rfl) (by simp [Value.oneCell', evL]) ?_
        intro wb eb
        have N7 := hide (show wb.heap[x7]? = some (.cells (e2.cs).toArray 33 (0, 0)) by rw [eb]; exact other_heap (by omega) _ _ _ N7a.out)
        have N8 := hide (show wb.heap[x8]? = some (.cells (evL kd ef bd).toArray 42 (0, 0)) by rw [eb]; exact whole_heap (evL kd ef bd) (xs := evL 0 zFr 0) N8a.out rfl)
        have C := hide (show wb.heap[y]? = some (.cells d2.cs.toArray 33 (0, 0)) by rw [eb]; exact other_heap (by omega) _ _ _ Ca.out)
        have Q := hide (show Below w.heap.size w wb by rw [eb]; exact Qa.out.trans (below_setCells _ _ _ (by have := Qa.out.size; omega)))
        clear eb T8 N7a N8a Qa Ca
        refine ⟨keepsL_all (by kernel_rfl) (by kernel_rfl), ?_⟩
        go_simp
        refine wpAnyL_one (i := 13) (by kernel_rfl) ?_
        refine wpOp_do rfl rfl ?_
        go_simp
        refine ⟨keepsL_all (by kernel_rfl) (by kernel_rfl), ?_⟩
        go_simp
        refine wpAnyL_done (by kernel_rfl) ?_ _
        go_wp2_with fail
        go_meet
        exact ⟨x7, x8, rfl, rfl, rfl, N7, N8, C, Q, by omega⟩
    · refine wpOp_do rfl rfl ?_
      go_simp
      have q : Below wd.heap.size wd (wd.alloc (.cells (evL 0 zFr 0).toArray 42)) := (Below.refl _ _).alloc (Nat.le_refl _) _
      have N8 := hide (World.alloc_heap_new wd (.cells (evL 0 zFr 0).toArray 42))
      have z8C : y < wd.heap.size := heap_lt C.out
      replace C := hide (heap_below C.out q)
      replace Q := hide (below_next Q.out Q.out.size q)
      clear q
      refine ⟨keepsL_mk (by kernel_rfl) (.cons C.out .nil), ?_⟩
      change wpAnyL _ _ _ _ _ _ _ _ _ (wd.alloc (.cells (evL 0 zFr 0).toArray 42))
      generalize wd.alloc (.cells (evL 0 zFr 0).toArray 42) = wdc at *
      generalize wd.heap.size = x8 at *
      go_simp
      refine wpAnyL_two (i := 4) (k := 9) (by kernel_rfl) ?_ ?_
      · refine wpOp_do rfl rfl ?_
        go_simp
        (with_reducible refine (SA.out _).mono ?_)
        rintro ewdca wdca ⟨rfl, q⟩
        replace C := hide (heap_below C.out q)
        replace N8 := hide (heap_below N8.out q)
        replace Q := hide (below_next Q.out Q.out.size q)
        clear q
        go_simp
        refine ⟨keepsL_all (by kernel_rfl) (by kernel_rfl), ?_⟩
        go_simp
        refine wpAnyL_pure (i := 5) (v := .tuple #[.agg (e2.cs).toArray, .agg (evL kd ef bd).toArray, .int .i64 0]) rfl rfl (by kernel_rfl) (by kernel_rfl) (by kernel_rfl) (by kernel_rfl) (by kernel_rfl) (fun _ _ _ h => hQ _ _ _ _ _ h) rfl (fun W => by go_simp) ?_
        go_simp
        refine wpAnyL_pure (i := 6) (v := .agg (e2.cs).toArray) rfl rfl (by kernel_rfl) (by kernel_rfl) (by kernel_rfl) (by kernel_rfl) (by kernel_rfl) (fun _ _ _ h => hQ _ _ _ _ _ h) rfl (fun W => by go_simp) ?_
        go_simp
        refine wpAnyL_pure (i := 7) (v := .agg (evL kd ef bd).toArray) rfl rfl (by kernel_rfl) (by kernel_rfl) (by kernel_rfl) (by kernel_rfl) (by kernel_rfl) (fun _ _ _ h => hQ _ _ _ _ _ h) rfl (fun W => by go_simp) ?_
        go_simp
        refine wpAnyL_pure (i := 8) (v := .int .i64 0) rfl rfl (by kernel_rfl) (by kernel_rfl) (by kernel_rfl) (by kernel_rfl) (by kernel_rfl) (fun _ _ _ h => hQ _ _ _ _ _ h) rfl (fun W => by go_simp) ?_
        go_simp
        refine wpAnyL_one (i := 9) (by kernel_rfl) ?_
        refine wpOp_do rfl rfl ?_
        go_simp
        have q : Below wdca.heap.size wdca (wdca.alloc (.cells zCl.cs.toArray 33)) := (Below.refl _ _).alloc (Nat.le_refl _) _
        have N7 := hide (World.alloc_heap_new wdca (.cells zCl.cs.toArray 33))
        have z7C : y < wdca.heap.size := heap_lt C.out
        have z78 : x8 < wdca.heap.size := heap_lt N8.out
        replace C := hide (heap_below C.out q)
        replace N8 := hide (heap_below N8.out q)
        replace Q := hide (below_next Q.out Q.out.size q)
        clear q
        refine ⟨keepsL_mk (by kernel_rfl) (.cons C.out .nil), ?_⟩
        change wpAnyL _ _ _ _ _ _ _ _ _ (wdca.alloc (.cells zCl.cs.toArray 33))
        generalize wdca.alloc (.cells zCl.cs.toArray 33) = wdcab at *
        generalize wdca.heap.size = x7 at *
        go_simp
        have T7 := hide (show wdcab.there x7 0 23 from there_heap (cs := zCl.cs) N7.out)
        refine wpAnyL_one (i := 11) (by kernel_rfl) ?_
        refine wpOp_do rfl rfl ?_
        refine wp_store_as 33 (.tmp 16) (.tmp 139) rfl x7 0 (e2.cs) (by rfl) (by rfl) (by exact T7.out) (by kernel_rfl) (by simp [Value.oneCell', Cl.cs]) ?_
        intro wa ea
        have N7a := hide (show wa.heap[x7]? = some (.cells (e2.cs).toArray 33 (0, 0)) by rw [ea]; exact whole_heap (e2.cs) (xs := zCl.cs) N7.out rfl)
        have N8a := hide (show wa.heap[x8]? = some (.cells (evL 0 zFr 0).toArray 42 (0, 0)) by rw [ea]; exact other_heap (by omega) _ _ _ N8.out)
        have Ca := hide (show wa.heap[y]? = some (.cells d2.cs.toArray 33 (0, 0)) by rw [ea]; exact other_heap (by omega) _ _ _ C.out)
        have Qa := hide (show Below w.heap.size w wa by rw [ea]; exact Q.out.trans (below_setCells _ _ _ (by have := Q.out.size; omega)))
        clear ea T7 N7 N8 Q C
        refine ⟨keepsL_all (by kernel_rfl) (by kernel_rfl), ?_⟩
        go_simp
        have T8 := hide (show wa.there x8 0 7 from there_heap (cs := evL 0 zFr 0) N8a.out)
        refine wpAnyL_one (i := 12) (by kernel_rfl) ?_
        refine wpOp_do rfl rfl ?_
        refine wp_store_as 42 (.tmp 17) (.tmp 140) rfl x8 0 (evL kd ef bd) (by rfl) (by rfl) (by exact T8.out) (by kernel_rfl) (by simp [Value.oneCell', evL]) ?_
        intro wb eb
        have N7 := hide (show wb.heap[x7]? = some (.cells (e2.cs).toArray 33 (0, 0)) by rw [eb]; exact other_heap (by omega) _ _ _ N7a.out)
        have N8 := hide (show wb.heap[x8]? = some (.cells (evL kd ef bd).toArray 42 (0, 0)) by rw [eb]; exact whole_heap (evL kd ef bd) (xs := evL 0 zFr 0) N8a.out rfl)
        have C := hide (show wb.heap[y]? = some (.cells d2.cs.toArray 33 (0, 0)) by rw [eb]; exact other_heap (by omega) _ _ _ Ca.out)
        have Q := hide (show Below w.heap.size w wb by rw [eb]; exact Qa.out.trans (below_setCells _ _ _ (by have := Qa.out.size; omega)))
        clear eb T8 N7a N8a Qa Ca
        refine ⟨keepsL_all (by kernel_rfl) (by kernel_rfl), ?_⟩
        go_simp
        refine wpAnyL_one (i := 13) (by kernel_rfl) ?_
        refine wpOp_do rfl rfl ?_
        go_simp
        refine ⟨keepsL_all (by kernel_rfl) (by kernel_rfl), ?_⟩
        go_simp
        refine wpAnyL_done (by kernel_rfl) ?_ _
        go_wp2_with fail
        go_meet
        exact ⟨x7, x8, rfl, rfl, rfl, N7, N8, C, Q, by omega⟩
      · refine wpOp_do rfl rfl ?_
        go_simp
        have q : Below wdc.heap.size wdc (wdc.alloc (.cells zCl.cs.toArray 33)) := (Below.refl _ _).alloc (Nat.le_refl _) _
        have N7 := hide (World.alloc_heap_new wdc (.cells zCl.cs.toArray 33))
        have z7C : y < wdc.heap.size := heap_lt C.out
        have z78 : x8 < wdc.heap.size := heap_lt N8.out
        replace C := hide (heap_below C.out q)
        replace N8 := hide (heap_below N8.out q)
        replace Q := hide (below_next Q.out Q.out.size q)
        clear q
        refine ⟨keepsL_mk (by kernel_rfl) (.cons C.out .nil), ?_⟩
        change wpAnyL _ _ _ _ _ _ _ _ _ (wdc.alloc (.cells zCl.cs.toArray 33))
        generalize wdc.alloc (.cells zCl.cs.toArray 33) = wdcb at *
        generalize wdc.heap.size = x7 at *
        go_simp
        refine wpAnyL_one (i := 4) (by kernel_rfl) ?_
        refine wpOp_do rfl rfl ?_
        go_simp
        (with_reducible refine (SA.out _).mono ?_)
        rintro ewdcba wdcba ⟨rfl, q⟩
        replace C := hide (heap_below C.out q)
        replace N7 := hide (heap_below N7.out q)
        replace N8 := hide (heap_below N8.out q)
        replace Q := hide (below_next Q.out Q.out.size q)
        clear q
        go_simp
        refine ⟨keepsL_all (by kernel_rfl) (by kernel_rfl), ?_⟩
        go_simp
        refine wpAnyL_pure (i := 5) (v := .tuple #[.agg (e2.cs).toArray, .agg (evL kd ef bd).toArray, .int .i64 0]) rfl rfl (by kernel_rfl) (by kernel_rfl) (by kernel_rfl) (by kernel_rfl) (by kernel_rfl) (fun _ _ _ h => hQ _ _ _ _ _ h) rfl (fun W => by go_simp) ?_
        go_simp
        refine wpAnyL_pure (i := 6) (v := .agg (e2.cs).toArray) rfl rfl (by kernel_rfl) (by kernel_rfl) (by kernel_rfl) (by kernel_rfl) (by kernel_rfl) (fun _ _ _ h => hQ _ _ _ _ _ h) rfl (fun W => by go_simp) ?_
        go_simp
        refine wpAnyL_pure (i := 7) (v := .agg (evL kd ef bd).toArray) rfl rfl (by kernel_rfl) (by kernel_rfl) (by kernel_rfl) (by kernel_rfl) (by kernel_rfl) (fun _ _ _ h => hQ _ _ _ _ _ h) rfl (fun W => by go_simp) ?_
        go_simp
        refine wpAnyL_pure (i := 8) (v := .int .i64 0) rfl rfl (by kernel_rfl) (by kernel_rfl) (by kernel_rfl) (by kernel_rfl) (by kernel_rfl) (fun _ _ _ h => hQ _ _ _ _ _ h) rfl (fun W => by go_simp) ?_
        go_simp
        have T7 := hide (show wdcba.there x7 0 23 from there_heap (cs := zCl.cs) N7.out)
        refine wpAnyL_one (i := 11) (by kernel_rfl) ?_
        refine wpOp_do rfl rfl ?_
        refine wp_store_as 33 (.tmp 16) (.tmp 139) rfl x7 0 (e2.cs) (by rfl) (by rfl) (by exact T7.out) (by kernel_rfl) (by simp [Value.oneCell', Cl.cs]) ?_
        intro wa ea
        have N7a := hide (show wa.heap[x7]? = some (.cells (e2.cs).toArray 33 (0, 0)) by rw [ea]; exact whole_heap (e2.cs) (xs := zCl.cs) N7.out rfl)
        have N8a := hide (show wa.heap[x8]? = some (.cells (evL 0 zFr 0).toArray 42 (0, 0)) by rw [ea]; exact other_heap (by omega) _ _ _ N8.out)
        have Ca := hide (show wa.heap[y]? = some (.cells d2.cs.toArray 33 (0, 0)) by rw [ea]; exact other_heap (by omega) _ _ _ C.out)
        have Qa := hide (show Below w.heap.size w wa by rw [ea]; exact Q.out.trans (below_setCells _ _ _ (by have := Q.out.size; omega)))
        clear ea T7 N7 N8 Q C
        refine ⟨keepsL_all (by kernel_rfl) (by kernel_rfl), ?_⟩
        go_simp
        have T8 := hide (show wa.there x8 0 7 from there_heap (cs := evL 0 zFr 0) N8a.out)
        refine wpAnyL_one (i := 12) (by kernel_rfl) ?_
        refine wpOp_do rfl rfl ?_
        refine wp_store_as 42 (.tmp 17) (.tmp 140) rfl x8 0 (evL kd ef bd) (by rfl) (by rfl) (by exact T8.out) (by kernel_rfl) (by simp [Value.oneCell', evL]) ?_
        intro wb eb
        have N7 := hide (show wb.heap[x7]? = some (.cells (e2.cs).toArray 33 (0, 0)) by rw [eb]; exact other_heap (by omega) _ _ _ N7a.out)
        have N8 := hide (show wb.heap[x8]? = some (.cells (evL kd ef bd).toArray 42 (0, 0)) by rw [eb]; exact whole_heap (evL kd ef bd) (xs := evL 0 zFr 0) N8a.out rfl)
        have C := hide (show wb.heap[y]? = some (.cells d2.cs.toArray 33 (0, 0)) by rw [eb]; exact other_heap (by omega) _ _ _ Ca.out)
        have Q := hide (show Below w.heap.size w wb by rw [eb]; exact Qa.out.trans (below_setCells _ _ _ (by have := Qa.out.size; omega)))
        clear eb T8 N7a N8a Qa Ca
        refine ⟨keepsL_all (by kernel_rfl) (by kernel_rfl), ?_⟩
        go_simp
        refine wpAnyL_one (i := 13) (by kernel_rfl) ?_
        refine wpOp_do rfl rfl ?_
        go_simp
        refine ⟨keepsL_all (by kernel_rfl) (by kernel_rfl), ?_⟩
        go_simp
        refine wpAnyL_done (by kernel_rfl) ?_ _
        go_wp2_with fail
        go_meet
        exact ⟨x7, x8, rfl, rfl, rfl, N7, N8, C, Q, by omega⟩

set_option maxRecDepth 100000 in
set_option maxHeartbeats 32000000 in
theorem ctlStays_may (wr : World) (x7 x8 : Nat) (e2 : Cl) (kd : Int) (ef : Fr) (bd : Int) (db : UInt8) {sl0 sl1 sl2 sl3 sl4 sl5 sl6 sl7 sl8 sl9 sl10 sl11 sl12 sl13 sl19 sl20 sl21 sl22 sl23 sl24 sl25 sl26 sl27 sl28 sl29 sl30 sl31 sl32 sl33 sl34 sl35 sl36 sl37 sl38 sl39 sl40 sl41 sl42 sl43 sl44 sl45 sl46 sl47 sl48 sl49 sl50 sl51 sl52 sl53 sl54 sl55 sl56 sl57 sl58 sl59 sl60 sl61 sl62 sl63 sl64 sl65 sl66 sl67 sl68 sl69 sl70 sl71 sl72 sl73 sl74 sl75 sl76 sl77 sl78 sl79 sl80 sl81 sl82 sl83 sl84 sl85 sl86 sl87 sl88 sl89 sl90 sl91 sl92 sl93 sl94 sl95 sl96 sl97 sl98 sl99 sl100 sl101 sl102 sl103 sl104 sl105 sl106 sl107 sl108 sl109 sl110 sl111 sl112 sl113 sl114 sl115 sl116 sl117 sl118 sl119 sl120 sl121 sl122 sl123 sl124 sl125 sl126 sl127 sl128 sl129 sl130 sl131 sl132 sl133 sl134 sl135 sl136 sl137 sl138 sl139 sl140 sl141 sl142 sl143 sl144 sl145 sl146 sl147 sl148 sl149 sl150 sl151 sl152 sl153 sl154 sl155 sl156 sl157 sl158 sl159 sl160 sl161 sl162 sl163 sl164 sl165 sl166 sl167 sl168 sl169 sl170 sl171 sl172 sl173 sl174 sl175 sl176 sl177 sl178 sl179 sl180 sl181 sl182 sl183 sl184 sl185 sl186 sl187 sl188 sl189 sl190 sl191 sl192 sl193 sl194 sl195 sl196 sl197 sl198 sl199 sl200 sl201 sl202 : Value} {K' : Act → World → Prop} {Q' : Exit → Act → World → Prop} {Cd : Code} (hC : Cd = partC Tryd.f5.body (isRegion 28))
    (hok : e2.Ok)
    (hev : EvOk ⟨e2, kd, ef, bd⟩)
    (hdb : db = 48 ∨ db = 49)
    (N7 : Hid (wr.heap[x7]? = some (.cells e2.cs.toArray 33 (0, 0))))
    (N8 : Hid (wr.heap[x8]? = some (.cells (evL kd ef bd).toArray 42 (0, 0))))
    (hQ : ∀ c (a : Act) d v w, Q' (.panic c) (a.put d v) w → Q' (.panic c) a w)
    (hK : ∀ (v142 v143 v144 v145 v146 v147 v148 v149 v150 v151 v152 v153 v154 v155 v156 v157 v158 v159 v160 v161 v162 v163 v164 v165 v166 v167 v168 v169 v170 v171 v172 v173 v174 v175 v176 v177 v178 v179 v180 v181 v182 v183 v184 v185 : Value) (W' : World), (fun v W => v = .bool false ∧ Below wr.heap.size wr W) v185 W' → K' ⟨List.toArray (sl0 :: sl1 :: sl2 :: sl3 :: sl4 :: sl5 :: sl6 :: sl7 :: sl8 :: sl9 :: sl10 :: sl11 :: sl12 :: sl13 :: (.int .u8 db.toNat) :: (.int .i64 0) :: (.pointer (some ⟨x7, 0, none⟩)) :: (.pointer (some ⟨x8, 0, none⟩)) :: (.int .i64 0) :: sl19 :: sl20 :: sl21 :: sl22 :: sl23 :: sl24 :: sl25 :: sl26 :: sl27 :: sl28 :: sl29 :: sl30 :: sl31 :: sl32 :: sl33 :: sl34 :: sl35 :: sl36 :: sl37 :: sl38 :: sl39 :: sl40 :: sl41 :: sl42 :: sl43 :: sl44 :: sl45 :: sl46 :: sl47 :: sl48 :: sl49 :: sl50 :: sl51 :: sl52 :: sl53 :: sl54 :: sl55 :: sl56 :: sl57 :: sl58 :: sl59 :: sl60 :: sl61 :: sl62 :: sl63 :: sl64 :: sl65 :: sl66 :: sl67 :: sl68 :: sl69 :: sl70 :: sl71 :: sl72 :: sl73 :: sl74 :: sl75 :: sl76 :: sl77 :: sl78 :: sl79 :: sl80 :: sl81 :: sl82 :: sl83 :: sl84 :: sl85 :: sl86 :: sl87 :: sl88 :: sl89 :: sl90 :: sl91 :: sl92 :: sl93 :: sl94 :: sl95 :: sl96 :: sl97 :: sl98 :: sl99 :: sl100 :: sl101 :: sl102 :: sl103 :: sl104 :: sl105 :: sl106 :: sl107 :: sl108 :: sl109 :: sl110 :: sl111 :: sl112 :: sl113 :: sl114 :: sl115 :: sl116 :: sl117 :: sl118 :: sl119 :: sl120 :: sl121 :: sl122 :: sl123 :: sl124 :: sl125 :: sl126 :: sl127 :: sl128 :: sl129 :: sl130 :: sl131 :: sl132 :: sl133 :: sl134 :: sl135 :: sl136 :: sl137 :: sl138 :: sl139 :: sl140 :: sl141 :: v142 :: v143 :: v144 :: v145 :: v146 :: v147 :: v148 :: v149 :: v150 :: v151 :: v152 :: v153 :: v154 :: v155 :: v156 :: v157 :: v158 :: v159 :: v160 :: v161 :: v162 :: v163 :: v164 :: v165 :: v166 :: v167 :: v168 :: v169 :: v170 :: v171 :: v172 :: v173 :: v174 :: v175 :: v176 :: v177 :: v178 :: v179 :: v180 :: v181 :: v182 :: v183 :: v184 :: v185 :: sl186 :: sl187 :: sl188 :: sl189 :: sl190 :: sl191 :: sl192 :: sl193 :: sl194 :: sl195 :: sl196 :: sl197 :: sl198 :: sl199 :: sl200 :: sl201 :: sl202 :: []), []⟩ W') :
    Cd.wp Tryd.prog (Exit.then K' Q') ⟨List.toArray (sl0 :: sl1 :: sl2 :: sl3 :: sl4 :: sl5 :: sl6 :: sl7 :: sl8 :: sl9 :: sl10 :: sl11 :: sl12 :: sl13 :: (.int .u8 db.toNat) :: (.int .i64 0) :: (.pointer (some ⟨x7, 0, none⟩)) :: (.pointer (some ⟨x8, 0, none⟩)) :: (.int .i64 0) :: sl19 :: sl20 :: sl21 :: sl22 :: sl23 :: sl24 :: sl25 :: sl26 :: sl27 :: sl28 :: sl29 :: sl30 :: sl31 :: sl32 :: sl33 :: sl34 :: sl35 :: sl36 :: sl37 :: sl38 :: sl39 :: sl40 :: sl41 :: sl42 :: sl43 :: sl44 :: sl45 :: sl46 :: sl47 :: sl48 :: sl49 :: sl50 :: sl51 :: sl52 :: sl53 :: sl54 :: sl55 :: sl56 :: sl57 :: sl58 :: sl59 :: sl60 :: sl61 :: sl62 :: sl63 :: sl64 :: sl65 :: sl66 :: sl67 :: sl68 :: sl69 :: sl70 :: sl71 :: sl72 :: sl73 :: sl74 :: sl75 :: sl76 :: sl77 :: sl78 :: sl79 :: sl80 :: sl81 :: sl82 :: sl83 :: sl84 :: sl85 :: sl86 :: sl87 :: sl88 :: sl89 :: sl90 :: sl91 :: sl92 :: sl93 :: sl94 :: sl95 :: sl96 :: sl97 :: sl98 :: sl99 :: sl100 :: sl101 :: sl102 :: sl103 :: sl104 :: sl105 :: sl106 :: sl107 :: sl108 :: sl109 :: sl110 :: sl111 :: sl112 :: sl113 :: sl114 :: sl115 :: sl116 :: sl117 :: sl118 :: sl119 :: sl120 :: sl121 :: sl122 :: sl123 :: sl124 :: sl125 :: sl126 :: sl127 :: sl128 :: sl129 :: sl130 :: sl131 :: sl132 :: sl133 :: sl134 :: sl135 :: sl136 :: sl137 :: sl138 :: sl139 :: sl140 :: sl141 :: sl142 :: sl143 :: sl144 :: sl145 :: sl146 :: sl147 :: sl148 :: sl149 :: sl150 :: sl151 :: sl152 :: sl153 :: sl154 :: sl155 :: sl156 :: sl157 :: sl158 :: sl159 :: sl160 :: sl161 :: sl162 :: sl163 :: sl164 :: sl165 :: sl166 :: sl167 :: sl168 :: sl169 :: sl170 :: sl171 :: sl172 :: sl173 :: sl174 :: sl175 :: sl176 :: sl177 :: sl178 :: sl179 :: sl180 :: sl181 :: sl182 :: sl183 :: sl184 :: sl185 :: sl186 :: sl187 :: sl188 :: sl189 :: sl190 :: sl191 :: sl192 :: sl193 :: sl194 :: sl195 :: sl196 :: sl197 :: sl198 :: sl199 :: sl200 :: sl201 :: sl202 :: []), []⟩ wr := by
  subst hC
  conv => arg 2; whnf
  go_cut [185] from 99999 (fun v W => v = .bool false ∧ Below wr.heap.size wr W)
  case rest => exact hK _ _ _ _ _ _ _ _ _ _ _ _ _ _ _ _ _ _ _ _ _ _ _ _ _ _ _ _ _ _ _ _ _ _ _ _ _ _ _ _ _ _ _ _ _ hcut
  case first =>
    clear hK
    have RT := hide (fun W => ctlRight_ok e2 W hok)
    have hcb : cntB e2.tc e2.rc e2.off e2.rs = true := hok.cnt
    have RC := hide (fun W => show Calls Tryd.prog 21 #[.agg #[.int .i64 e2.tc, .int .i64 e2.rc, .bool e2.off, .int .i64 e2.rs]] W fun e w' => e = .returned (.bool true) ∧ Below W.heap.size W w' from by have := refCnt06_any e2.tc e2.rc e2.off e2.rs W; rw [hcb] at this; exact this)
    have hk0 : ¬ kd < 0 := by have := hev.k0; exact Int.not_lt.2 this
    have hk4 : ¬ 4 < kd := by have := hev.k4; exact Int.not_lt.2 this
    have hk3 : ((kd == 3) = true ∧ (bd != 0) = true) ∨ ((kd == 3) = false ∧ (bd != 0) = false) := by
      have h := hev.bad
      dsimp only at h
      by_cases h3 : kd = 3
      · left; exact ⟨by simpa using h3, by simpa using h.1 h3⟩
      · right; exact ⟨by simpa using h3, by simp only [bne_eq_false_iff_eq]; exact Classical.not_not.1 (fun q => h3 (h.2 q))⟩
    have hk3i : (0 : Int) ≤ kd := by omega
    have hk4i : kd ≤ 4 := by omega
    have QQ := hide (show Below wr.heap.size wr wr from Below.refl _ _)
    clear hcb hev hok
    rcases hdb with rfl | rfl
    all_goals
      go_wp2_with (refine wpList_load_rowG (by kernel_rfl) 33 (.tmp 16) (by rfl) x7 (by rfl) 33 e2.cs.toArray (0, 0) _ (by exact N7.out) Tryd.underlying33 (by rfl) (by kernel_rfl) ?_)
      (with_reducible refine (RT.out _).mono ?_)
      rintro ea wa ⟨rfl, qa⟩
      have N7a := hide (heap_below N7.out qa)
      have N8a := hide (heap_below N8.out qa)
      have QQa := hide (below_next QQ.out QQ.out.size qa)
      clear qa
      obtain ⟨⟨a0, a1, a2, a3⟩, -⟩ := cl_cells N7a.out
      go_wp2_with fail
      (with_reducible refine (RC.out _).mono ?_)
      rintro eb wb ⟨rfl, qb⟩
      have N8b := hide (heap_below N8a.out qb)
      have QQb := hide (below_next QQa.out QQa.out.size qb)
      clear qb a0 a1 a2 a3
      obtain ⟨v0, v1, v2, v3, v4, v5, v6⟩ := ev_cells N8b.out
      rcases hk3 with ⟨h3, h5⟩ | ⟨h3, h5⟩
      all_goals
        go_wp2_with fail
        go_meet
        exact ⟨by first | rfl | (rw [decide_eq_false (show ¬ kd < 0 by omega), decide_eq_false (show ¬ 4 < kd by omega)]; rfl), QQb.out⟩
end Go.Proofs.YtpfbobcilphncaaDoor

/- The walk of campanilelaw07.CtlStays. -/
namespace Go.Proofs.YtpfbobcilphncaaDoor
open Go.ChangeShapes Go.WideShapes Go.ChangeAt Go.RowKit
open FP (Fr bitsF bodyF)

set_option maxRecDepth 100000 in
set_option maxHeartbeats 64000000 in
theorem ctlStays_walk (s : ByteArray) (l : List Fr) (A1 : Option Addr) (n1 : Nat) (bs : List Bool) (A2 : Option Addr) (n2 : Nat) (w : World) (hs : s.size ≤ maxLen) (hr1 : FrR w w.heap.size A1 l) (hc1 : l.length ≤ n1) (hm1 : n1 ≤ maxLen) (hf : ∀ f ∈ l, f.id < 4294967296 ∧ f.data.size ≤ maxLen) (hr2 : Rd w w.heap.size A2 1 (bs.map fun b => [.bool b])) (hc2 : bs.length ≤ n2) (hm2 : n2 ≤ maxLen) :
    Calls Tryd.prog 5 #[.string s, .slice A1 l.length n1, .slice A2 bs.length n2] w fun e w' => e = .returned (.bool true) ∧ Below w.heap.size w w' := by
  have HF := hide hf
  have HR1 := hide hr1
  have HR2 := hide hr2
  unfold maxLen at hm1 hm2
  have hs2 : s.size ≤ 9223372036854775807 := by unfold maxLen at hs; omega
  clear hf hr1 hr2
  obtain ⟨m, em, hm⟩ := run_min (P := Tryd.prog) (s.size : Int) 600
  obtain ⟨k, hk⟩ : ∃ k : Nat, k = min s.size 600 := ⟨_, rfl⟩
  have hmk : m = k := by omega
  subst hmk
  have hkl : k ≤ s.size := by omega
  have hk6 : k ≤ 600 := by omega
  obtain ⟨S, hS⟩ : ∃ S : ByteArray, S = s.extract 0 k := ⟨_, rfl⟩
  have HSS := hide hS
  have hSz : S.size ≤ 600 := by rw [hS, ByteArray.size_extract]; omega
  have AL := hide (fun W => alive07_any W)
  have RF := hide (fun W => refBits01_any S W (by unfold maxLen; omega))
  obtain ⟨rb, hrb⟩ : ∃ rb, rb = bitRow S.data.toList := ⟨_, rfl⟩
  rw [← hrb] at RF
  have HRB := hide hrb
  have HK := hide hk
  clear hrb hk hm hS
  have Q : Hid (Below w.heap.size w w) := hide (Below.refl _ _)
  go_enter Tryd.func5, Tryd.ntmps5
  go_upto_region 1 with fail
  go_cut [0] (fun v W => v = .string S ∧ Hid (Below w.heap.size w W))
  case first =>
    clear RF AL HRB HF HR1 HR2
    go_wp2_with fail
    go_meet
    refine ⟨?_, Q⟩
    rw [HSS.out]
    congr 2
    have := HK.out
    omega
  case rest =>
  clear Q
  obtain ⟨rfl, Q⟩ := hcut
  clear HSS em hkl HK
  go_wp2_with fail
  (with_reducible refine (RF.out _).mono ?_)
  rintro e1 w1 ⟨rfl, hw1⟩
  subst hw1
  cases rb with
  | false =>
    go_wp2_with fail
    (with_reducible refine (AL.out _).mono ?_)
    rintro e2 w2 ⟨rfl, q2⟩
    go_wp2_with fail
    go_ret
    exact ⟨rfl, below_next Q.out Q.out.size q2⟩
  | true =>
  have NW := hide (fun W => ctlNew_any W)
  obtain ⟨c0, hc0⟩ : ∃ c0, c0 = zCl := ⟨_, rfl⟩
  have NW2 := hide (fun W => show Calls Tryd.prog 18 #[] W fun e w' => e = .returned (.agg c0.cs.toArray) ∧ Below W.heap.size W w' by rw [hc0]; exact NW.out W)
  have HC0 := hide hc0
  clear hc0 NW RF
  go_wp2_with fail
  (with_reducible refine (NW2.out _).mono ?_)
  rintro ew1' w1' ⟨rfl, qw1'⟩
  replace Q := hide (below_next Q.out Q.out.size qw1')
  clear qw1'
  clear NW2
  have q2' : Below w1'.heap.size w1' (w1'.alloc (.cells zCl.cs.toArray 33)) := (Below.refl _ _).alloc (Nat.le_refl _) _
  have C := World.alloc_heap_new w1' (.cells zCl.cs.toArray 33)
  have zQy : w.heap.size ≤ w1'.heap.size := Q.out.size
  replace Q := hide (below_next Q.out Q.out.size q2')
  clear q2'
  obtain ⟨w3', hw3'⟩ : ∃ wx, wx = w1'.alloc (.cells zCl.cs.toArray 33) := ⟨_, rfl⟩
  rw [← hw3'] at Q C
  replace C := hide C
  have Tw4' := hide (show (w1'.alloc (.cells zCl.cs.toArray 33)).there w1'.heap.size 0 23 by rw [← hw3']; exact there_heap (cs := zCl.cs) C.out)
  go_wp2_with (refine wpList_store_hid (by rfl) 33 (.tmp 7) (.tmp 28) (by rfl) w1'.heap.size 0 c0.cs (by rfl) (by rfl) (by exact Tw4'.out) (by kernel_rfl) (by simp [Value.oneCell', Cl.cs]) ?_)
  intro w4' ew4'
  replace ew4' : Hid (w4' = w3'.setCells w1'.heap.size 0 c0.cs) := by rw [hw3']; exact ew4'
  replace Q := hide (show Below w.heap.size w w4' by rw [ew4'.out]; exact Q.out.trans (below_setCells _ _ _ (by have := Q.out.size; omega)))
  replace C := hide (show w4'.heap[w1'.heap.size]? = some (.cells c0.cs.toArray 33 (0, 0)) by rw [ew4'.out]; exact whole_heap c0.cs (xs := zCl.cs) C.out rfl)
  clear ew4' Tw4' hw3'
  generalize w1'.heap.size = y at *
  have BT := hide (fun j (hj : j < S.size) => show S[j] = 48 ∨ S[j] = 49 from (bitRow_iff.1 HRB.out.symm).2 _ (List.getElem_mem (l := S.data.toList) (by rw [Array.length_toList]; exact hj)))
  have HOK0 := hide (show c0.Ok by rw [HC0.out]; exact zCl_ok)
  clear HRB HC0
  go_wp2_with fail
  go_loopw [31] (fun vi W => ∃ i : Nat, i ≤ S.size ∧ vi = .int .i64 i ∧ ∃ d : Cl, d.Ok ∧ Hid (W.heap[y]? = some (.cells d.cs.toArray 33 (0, 0))) ∧ Hid (Below w.heap.size w W)) (fun vi _ => S.size - (intOf vi).toNat)
  case atStart => exact ⟨0, Nat.zero_le _, rfl, c0, HOK0.out, C, Q⟩
  case round =>
    clear C Q HOK0
    obtain ⟨i, hi, rfl, d, hok, C, Q⟩ := hrel
    by_cases hlt : i < S.size
    · have hki : (i : Int) < (S.size : Int) := by omega
      have hbit := BT.out i hlt
      go_upto_if 37 with fail
      refine ctlStays_frames w wr l A1 n1 i y d _ (by rfl) (by simp) hok C Q HF HR1 hc1 hm1 zQy (by intro _ _ d9 _ _ h; cases d9 <;> exact h) ?_
      intro u6 u9 u10 u11 u38 u39 u40 u41 u42 u43 u44 u45 u46 u47 u48 u49 u50 u51 u52 u53 u54 u55 u56 u57 u58 u59 u60 u61 u62 u63 u64 u65 u66 u67 u68 u69 u70 u71 u72 u73 wc hcut
      clear hok C Q
      obtain ⟨d1, hok, C, Q⟩ := hcut
      go_upto_region 20 with fail
      go_cut [83] (fun v W => ∃ cb : Bool, v = .bool cb ∧ W = wc)
      case first =>
        by_cases hfr : i < bs.length
        · have hfi : (i : Int) < (bs.length : Int) := by omega
          obtain ⟨b, off, rfl, f0'⟩ := bl_cell (HR2.out.next Q.out Q.out.size) hfr
          clear C Q BT AL
          go_wp2_with fail
          go_meet
          exact ⟨_, rfl, rfl⟩
        · have hfi : ¬ (i : Int) < (bs.length : Int) := by omega
          clear C Q BT AL
          go_wp2_with fail
          go_meet
          exact ⟨_, rfl, rfl⟩
      case rest =>
      rename_i hK2 _ hK
      obtain ⟨cb, rfl, rfl⟩ := hcut
      refine hK _ _ ?_
      clear hK
      go_cut [83] (fun _ W => ∃ d2 : Cl, d2.Ok ∧ Hid (W.heap[y]? = some (.cells d2.cs.toArray 33 (0, 0))) ∧ Hid (Below w.heap.size w W))
      case first =>
        clear hK2
        cases cb with
        | false =>
          go_wp2_with fail
          go_meet
          exact ⟨d1, hok, C, Q⟩
        | true =>
          have CA := hide (fun W => ctlCancel_ok d1 W hok)
          obtain ⟨x, hx⟩ : ∃ x, x = d1.canC := ⟨_, rfl⟩
          obtain ⟨xe, hxe⟩ : ∃ xe, xe = d1.canE := ⟨_, rfl⟩
          rw [← hx, ← hxe] at CA
          have HXH := hide (show x.has = false by rw [hx]; unfold Cl.canC; split; rfl; split; rfl; rfl)
          have HXO := hide (show d1.has = true → d1.sends = false → x.Ok from fun h1 h2 => by
            rw [hx]; unfold Cl.canC; rw [h1, h2]
            exact hok.drop1 h2)
          have HXE := hide (show xe = if d1.has = false then 21 else if d1.sends = true then 20 else 0 from hxe)
          have HOK := hide hok
          clear hx hxe hok HR1 HR2 HF BT
          go_wp2_with (refine wpList_load_row rfl 33 (.tmp 7) (by rfl) y (by rfl) 33 d1.cs.toArray (0, 0) _ (by exact C.out) Tryd.underlying33 (by rfl) (by kernel_rfl) ?_)
          (with_reducible refine (CA.out _).mono ?_)
          rintro ew5' w5' ⟨rfl, qw5'⟩
          replace C := hide (heap_below C.out qw5')
          replace Q := hide (below_next Q.out Q.out.size qw5')
          clear qw5'
          clear CA
          have q6' : Below w5'.heap.size w5' (w5'.alloc (.cells zCl.cs.toArray 33)) := (Below.refl _ _).alloc (Nat.le_refl _) _
          have X := World.alloc_heap_new w5' (.cells zCl.cs.toArray 33)
          have zCu : y < w5'.heap.size := heap_lt C.out
          have zQu : w.heap.size ≤ w5'.heap.size := Q.out.size
          replace C := hide (heap_below C.out q6')
          replace Q := hide (below_next Q.out Q.out.size q6')
          clear q6'
          obtain ⟨w7', hw7'⟩ : ∃ wx, wx = w5'.alloc (.cells zCl.cs.toArray 33) := ⟨_, rfl⟩
          rw [← hw7'] at Q C X
          replace X := hide X
          have Tw8' := hide (show (w5'.alloc (.cells zCl.cs.toArray 33)).there w5'.heap.size 0 23 by rw [← hw7']; exact there_heap (cs := zCl.cs) X.out)
          go_wp2_with (refine wpList_store_hid (by rfl) 33 (.tmp 12) (.tmp 87) (by rfl) w5'.heap.size 0 x.cs (by rfl) (by rfl) (by exact Tw8'.out) (by kernel_rfl) (by simp [Value.oneCell', Cl.cs]) ?_)
          intro w8' ew8'
          replace ew8' : Hid (w8' = w7'.setCells w5'.heap.size 0 x.cs) := by rw [hw7']; exact ew8'
          replace C := hide (show w8'.heap[y]? = some (.cells d1.cs.toArray 33 (0, 0)) by rw [ew8'.out]; exact other_heap (by omega) _ _ _ C.out)
          replace Q := hide (show Below w.heap.size w w8' by rw [ew8'.out]; exact Q.out.trans (below_setCells _ _ _ (by have := Q.out.size; omega)))
          replace X := hide (show w8'.heap[w5'.heap.size]? = some (.cells x.cs.toArray 33 (0, 0)) by rw [ew8'.out]; exact whole_heap x.cs (xs := zCl.cs) X.out rfl)
          clear ew8' Tw8' hw7'
          generalize w5'.heap.size = u at *
          obtain ⟨-, ⟨-, -, -, -, c8⟩, -, c14, -⟩ := cl_cells C.out
          obtain ⟨-, ⟨-, -, -, -, x8⟩, -⟩ := cl_cells X.out
          rw [HXH.out] at x8
          rcases Bool.eq_false_or_eq_true d1.has with hh | hh
          · rw [hh] at c8
            rcases Bool.eq_false_or_eq_true d1.sends with hd | hd
            · rw [hd] at c14
              obtain rfl : xe = 20 := by rw [HXE.out, hh, hd]; rfl
              clear HXE hh hd HXO
              go_wp2_with fail
              go_meet
              exact ⟨d1, HOK.out, C, Q⟩
            · rw [hd] at c14
              obtain rfl : xe = 0 := by rw [HXE.out, hh, hd]; rfl
              have HOX := hide (HXO.out hh hd)
              clear HXE hh hd HXO
              have Tw9' := hide (show World.there _ y 0 23 from there_heap (cs := d1.cs) C.out)
              go_wp2_with (first | (refine wpList_load_row rfl 33 (.tmp 12) (by rfl) u (by rfl) 33 x.cs.toArray (0, 0) _ (by exact X.out) Tryd.underlying33 (by rfl) (by kernel_rfl) ?_) | (refine wpList_store_hid (by rfl) 33 (.tmp 7) (.tmp 127) (by rfl) y 0 x.cs (by rfl) (by rfl) (by exact Tw9'.out) (by kernel_rfl) (by simp [Value.oneCell', Cl.cs]) ?_))
              intro w9' ew9'
              replace X := hide (show w9'.heap[u]? = some (.cells x.cs.toArray 33 (0, 0)) by rw [ew9'.out]; exact other_heap (by omega) _ _ _ X.out)
              replace Q := hide (show Below w.heap.size w w9' by rw [ew9'.out]; exact Q.out.trans (below_setCells _ _ _ (by have := Q.out.size; omega)))
              replace C := hide (show w9'.heap[y]? = some (.cells x.cs.toArray 33 (0, 0)) by rw [ew9'.out]; exact whole_heap x.cs (xs := d1.cs) C.out rfl)
              clear ew9' Tw9'
              go_wp2_with fail
              go_meet
              exact ⟨x, HOX.out, C, Q⟩
          · rw [hh] at c8
            obtain rfl : xe = 21 := by rw [HXE.out, hh]; rfl
            clear HXE hh HXO
            go_wp2_with fail
            go_meet
            exact ⟨d1, HOK.out, C, Q⟩
      case rest =>
      clear hok C Q
      obtain ⟨d2, hok, C, Q⟩ := hcut
      refine hK2 _ _ ?_
      clear hK2
      have DR := hide (fun W => ctlDrive_ok d2 W hok)
      have SA := hide (fun W => ctlSample_ok d2 S[i] hbit W hok)
      have HDB := hide (ok_drv hok)
      have HOKM := hide (hok.samp S[i] hbit)
      have HEV := hide (hok.ev S[i])
      generalize d2.drv = db at *
      generalize d2.samp S[i] = M at *
      obtain ⟨e2, kd, ef, bd⟩ := M
      dsimp only at SA
      clear hok
      go_wp2_with (refine wpList_load_row rfl 33 (.tmp 7) (by rfl) y (by rfl) 33 d2.cs.toArray (0, 0) _ (by exact C.out) Tryd.underlying33 (by rfl) (by kernel_rfl) ?_)
      (with_reducible refine (DR.out _).mono ?_)
      rintro ew10' w10' ⟨rfl, qw10'⟩
      replace C := hide (heap_below C.out qw10')
      replace Q := hide (below_next Q.out Q.out.size qw10')
      clear qw10'
      clear DR
      go_upto_region 27 with fail
      refine ctlStays_sample w w10' S i y d2 e2 kd ef bd hlt (by rfl) SA C Q zQy (by intro _ _ d9 _ _ h; cases d9 <;> exact h) ?_
      intro u16 u17 u18 u133 u134 u135 u136 u137 u138 u139 u140 u141 wc hcut
      clear C Q SA
      obtain ⟨x7, x8, rfl, rfl, rfl, N7, N8, C, Q, y7⟩ := hcut
      go_upto_region 28 with fail
      refine ctlStays_may wc x7 x8 e2 kd ef bd db (by rfl) HOKM.out HEV.out HDB.out N7 N8 (by intro _ _ d9 _ _ h; cases d9 <;> exact h) ?_
      intro u142 u143 u144 u145 u146 u147 u148 u149 u150 u151 u152 u153 u154 u155 u156 u157 u158 u159 u160 u161 u162 u163 u164 u165 u166 u167 u168 u169 u170 u171 u172 u173 u174 u175 u176 u177 u178 u179 u180 u181 u182 u183 u184 u185 wd hcut
      rename_i hK2 _ hK
      obtain ⟨rfl, qc⟩ := hcut
      refine hK _ _ ?_
      refine wp_cond_false (by rfl) (wp_skip ?_)
      refine hK2 _ _ ?_
      clear hK hK2 HDB
      replace C := hide (heap_below C.out qc)
      replace N7 := hide (heap_below N7.out qc)
      replace N8 := hide (heap_below N8.out qc)
      replace Q := hide (below_next Q.out Q.out.size qc)
      clear qc
      go_upto_region 30 with fail
      go_cut [199] (fun v W => v = .bool false ∧ Below wd.heap.size wd W)
      case first =>
        obtain ⟨v0, v1, v2, v3, v4, v5, v6⟩ := ev_cells N8.out
        have hfr := HEV.out.fr
        dsimp only at hfr
        clear HEV HOKM HR1 HR2 HF BT AL C Q N7 N8
        by_cases h12 : kd = 1 ∨ kd = 2
        · have hr := hfr h12
          have RR := hide (fun W => show Calls Tryd.prog 8 #[.agg #[.int .u32 ef.id, .bool ef.ext, .bool ef.rem, .int .i64 ef.dlc, .string ef.data]] W fun e w' => e = .returned (.bool true) ∧ Below W.heap.size W w' from by have := refRight04_any ef W (right_id hr); rw [hr] at this; exact this)
          clear hfr hr
          rcases h12 with rfl | rfl
          all_goals
            go_wp2_with fail
            (with_reducible refine (RR.out _).mono ?_)
            rintro ea wa ⟨rfl, qa⟩
            go_wp2_with fail
            go_meet
            exact ⟨rfl, qa⟩
        · have h1 : (kd == 1) = false := by simpa using fun q => h12 (.inl q)
          have h2 : (kd == 2) = false := by simpa using fun q => h12 (.inr q)
          clear h12 hfr
          go_wp2_with fail
          go_meet
          exact ⟨rfl, Below.refl _ _⟩
      case rest =>
      rename_i hK2 _ hK
      obtain ⟨rfl, qc⟩ := hcut
      refine hK _ _ ?_
      refine wp_cond_false (by rfl) (wp_skip ?_)
      refine hK2 _ _ ?_
      clear hK hK2
      replace C := hide (heap_below C.out qc)
      replace N7 := hide (heap_below N7.out qc)
      replace N8 := hide (heap_below N8.out qc)
      replace Q := hide (below_next Q.out Q.out.size qc)
      clear qc
      clear N8
      have Tw11' := hide (show World.there _ y 0 23 from there_heap (cs := d2.cs) C.out)
      go_wp2_with (first | (refine wpList_load_row rfl 33 (.tmp 16) (by rfl) x7 (by rfl) 33 e2.cs.toArray (0, 0) _ (by exact N7.out) Tryd.underlying33 (by rfl) (by kernel_rfl) ?_) | (refine wpList_store_hid (by rfl) 33 (.tmp 7) (.tmp 200) (by rfl) y 0 e2.cs (by rfl) (by rfl) (by exact Tw11'.out) (by kernel_rfl) (by simp [Value.oneCell', Cl.cs]) ?_))
      intro w11' ew11'
      replace N7 := hide (show w11'.heap[x7]? = some (.cells e2.cs.toArray 33 (0, 0)) by rw [ew11'.out]; exact other_heap (by omega) _ _ _ N7.out)
      replace Q := hide (show Below w.heap.size w w11' by rw [ew11'.out]; exact Q.out.trans (below_setCells _ _ _ (by have := Q.out.size; omega)))
      replace C := hide (show w11'.heap[y]? = some (.cells e2.cs.toArray 33 (0, 0)) by rw [ew11'.out]; exact whole_heap e2.cs (xs := d2.cs) C.out rfl)
      clear ew11' Tw11'
      go_wp2_with fail
      go_roundw
      case rel => exact ⟨i + 1, by omega, by go_num, e2, HOKM.out, C, Q⟩
      case measure => simp [intOf]; omega
    · obtain rfl : i = S.size := by omega
      go_wp2_with fail
      (with_reducible refine (AL.out _).mono ?_)
      rintro ew12' w12' ⟨rfl, qw12'⟩
      replace C := hide (heap_below C.out qw12')
      replace Q := hide (below_next Q.out Q.out.size qw12')
      clear qw12'
      clear AL
      go_wp2_with fail
      go_ret
      exact ⟨rfl, Q.out⟩
end Go.Proofs.YtpfbobcilphncaaDoor
