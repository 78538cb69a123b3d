/- The walk of ctl.Right, of a controller that may be. -/
import Derived.Test.YtkfedgjepiljiaaDoorCsC
import Derived.Deep.CutBlock
import Derived.Test.YtkfedgjepiljiaaDoorCsQ
import Derived.Test.YtkfedgjepiljiaaDoorMgRng3
namespace Go.Proofs.YtkfedgjepiljiaaDoor
open Go.ChangeShapes Go.WideShapes Go.ChangeAt Go.RowKit
open FP (Fr)
set_option maxRecDepth 100000 in
set_option maxHeartbeats 16000000 in
theorem ctlRight_ok (c : Cl) (w : World) (h : c.Ok) : Calls Tryd.prog 18 #[.agg c.cs.toArray] w fun e w' => e = .returned (.bool true) ∧ Below w.heap.size w w' := by
  have CN := hide (fun W => (show cntB c.tc c.rc (c.st == 8) c.rs = true by rw [← h.offs]; exact h.cnt) ▸ cntRight_any c.tc c.rc (c.st == 8) c.rs W)
  have OFF := hide h.offs
  have HAS := hide h.has
  have HASN := hide h.hasn
  have INN := hide (fun (e : c.st = 2) W => ctlIn_ok c W (h.inn e) h.has)
  have OUT := hide (fun (e : c.st ≠ 2) W => ctlOut_ok c W (h.out e))
  have ST := hide (show 0 ≤ c.st ∧ c.st ≤ 8 ∧ 0 ≤ c.n ∧ c.n ≤ topN c.st ∧ (c.st = 5 → 1 ≤ c.n) from ⟨h.s0, h.s8, h.n0, h.n9, h.n5⟩)
  clear h
  obtain ⟨w0, hw0⟩ : ∃ w0, w0 = w.alloc (.cells c.cs.toArray 40) := ⟨_, rfl⟩
  have B0 := hide (World.alloc_heap_new w (.cells c.cs.toArray 40))
  have Q0 : Hid (Below w.heap.size w w0) := by rw [hw0]; exact hide ((Below.refl _ _).alloc (Nat.le_refl _) _)
  rw [← hw0] at B0
  obtain ⟨-, ⟨c4, c5, -⟩, -⟩ := cl_cells B0.out
  go_enter Tryd.func18, Tryd.ntmps18
  go_upto_region 2 with fail
  change Code.wp _ _ _ _ (w.alloc (.cells c.cs.toArray 40))
  rw [← hw0]
  clear hw0
  go_upto_block 0 with fail
  go_cut [3, 4] from 5 (fun a b W => ∃ least top : Int, a = .int .i64 least ∧ b = .int .i64 top ∧ Hid (least ≤ c.n ∧ c.n ≤ top) ∧ W = w0)
  case first =>
    obtain ⟨s0, s8, n0, n9, n5⟩ := ST.out
    clear B0 Q0 c5 ST INN OUT CN OFF HAS HASN
    obtain ⟨s, hs⟩ : ∃ s, s = c.st := ⟨_, rfl⟩
    rw [← hs] at c4 s0 s8 n9 n5 ⊢
    clear hs
    obtain rfl | rfl | rfl | rfl | rfl | rfl | rfl | rfl | rfl : s = 0 ∨ s = 1 ∨ s = 2 ∨ s = 3 ∨ s = 4 ∨ s = 5 ∨ s = 6 ∨ s = 7 ∨ s = 8 := by omega
    · have F := hide (show (0 : Int) ≤ c.n ∧ c.n ≤ 10 from ⟨n0, n9⟩)
      clear c4 n0 n9 n5
      go_wp2_with fail
      go_meet
      exact ⟨_, _, rfl, rfl, F, rfl⟩
    · have F := hide (show (0 : Int) ≤ c.n ∧ c.n ≤ 0 from ⟨n0, n9⟩)
      clear c4 n0 n9 n5
      go_wp2_with fail
      go_meet
      exact ⟨_, _, rfl, rfl, F, rfl⟩
    · have F := hide (show (0 : Int) ≤ c.n ∧ c.n ≤ 0 from ⟨n0, n9⟩)
      clear c4 n0 n9 n5
      go_wp2_with fail
      go_meet
      exact ⟨_, _, rfl, rfl, F, rfl⟩
    · have F := hide (show (0 : Int) ≤ c.n ∧ c.n ≤ 5 from ⟨n0, n9⟩)
      clear c4 n0 n9 n5
      go_wp2_with fail
      go_meet
      exact ⟨_, _, rfl, rfl, F, rfl⟩
    · have F := hide (show (0 : Int) ≤ c.n ∧ c.n ≤ 1000000000 from ⟨n0, n9⟩)
      clear c4 n0 n9 n5
      go_wp2_with fail
      go_meet
      exact ⟨_, _, rfl, rfl, F, rfl⟩
    · have F := hide (show (1 : Int) ≤ c.n ∧ c.n ≤ 7 from ⟨n5 rfl, n9⟩)
      clear c4 n0 n9 n5
      go_wp2_with fail
      go_meet
      exact ⟨_, _, rfl, rfl, F, rfl⟩
    · have F := hide (show (0 : Int) ≤ c.n ∧ c.n ≤ 2 from ⟨n0, n9⟩)
      clear c4 n0 n9 n5
      go_wp2_with fail
      go_meet
      exact ⟨_, _, rfl, rfl, F, rfl⟩
    · have F := hide (show (0 : Int) ≤ c.n ∧ c.n ≤ 7 from ⟨n0, n9⟩)
      clear c4 n0 n9 n5
      go_wp2_with fail
      go_meet
      exact ⟨_, _, rfl, rfl, F, rfl⟩
    · have F := hide (show (0 : Int) ≤ c.n ∧ c.n ≤ 10 from ⟨n0, n9⟩)
      clear c4 n0 n9 n5
      go_wp2_with fail
      go_meet
      exact ⟨_, _, rfl, rfl, F, rfl⟩
  case rest =>
  obtain ⟨least, top, rfl, rfl, hn, rfl⟩ := hcut
  have k1 : decide (c.n < least) = false := decide_eq_false (by have := hn.out; omega)
  have k2 : decide (top < c.n) = false := decide_eq_false (by have := hn.out; omega)
  obtain ⟨⟨c0, c1, c2, c3⟩, -, -⟩ := cl_cells B0.out
  rw [OFF.out] at c2
  clear c4 c5
  go_wp2_with fail
  (with_reducible refine (CN.out _).mono ?_)
  rintro e1 w1 ⟨rfl, q1⟩
  have B1 := hide (heap_below B0.out q1)
  have Q1 := hide (below_next Q0.out Q0.out.size q1)
  clear q1 B0 Q0 CN c0 c1 c2 c3
  obtain ⟨⟨c0, c1, c2, c3⟩, ⟨c4, c5, c6, c7, c8⟩, ⟨c9, c10, c11, c12, c13⟩, -⟩ := cl_cells B1.out
  rw [OFF.out] at c2
  clear c0 c1 c3 c6 c7
  rcases Bool.eq_false_or_eq_true c.has with hh | hh
  · have FR := hide (fun W => (HAS.out hh) ▸ frRight_any c.f W (right_id (HAS.out hh)))
    have HH := hide hh
    rw [hh] at c8
    clear hh HAS HASN
    go_wp2_with fail
    (with_reducible refine (FR.out _).mono ?_)
    rintro e2 w2 ⟨rfl, q2⟩
    have B2 := hide (heap_below B1.out q2)
    have Q2 := hide (below_next Q1.out Q1.out.size q2)
    clear q2 B1 Q1 FR c2 c4 c5 c8 c9 c10 c11 c12 c13 k1 k2
    obtain ⟨-, ⟨c4, c5, c6, c7, c8⟩, -⟩ := cl_cells B2.out
    rw [HH.out] at c8
    clear c5 c6 c7
    by_cases e2 : c.st = 2
    · have I2 := hide (INN.out e2)
      rw [e2] at c4
      go_wp2_with (refine wpList_load_row rfl 40 (.tmp 1) (by rfl) w.heap.size (by rfl) 40 c.cs.toArray (0, 0) _ (by exact B2.out) Tryd.underlying40 (by rfl) (by kernel_rfl) ?_)
      (with_reducible refine (I2.out _).mono ?_)
      rintro e3 w3 ⟨rfl, q3⟩
      have Q3 := hide (below_next Q2.out Q2.out.size q3)
      go_wp2_with fail
      go_ret
      exact ⟨rfl, Q3.out⟩
    · have I2 := hide (OUT.out e2)
      have e2' : (c.st == 2) = false := by simpa using e2
      clear e2
      go_wp2_with (refine wpList_load_row rfl 40 (.tmp 1) (by rfl) w.heap.size (by rfl) 40 c.cs.toArray (0, 0) _ (by exact B2.out) Tryd.underlying40 (by rfl) (by kernel_rfl) ?_)
      (with_reducible refine (I2.out _).mono ?_)
      rintro e3 w3 ⟨rfl, q3⟩
      have Q3 := hide (below_next Q2.out Q2.out.size q3)
      go_wp2_with fail
      go_ret
      exact ⟨rfl, Q3.out⟩
  · have hf := HASN.out hh
    rw [hh] at c8
    rw [hf] at c9 c10 c11 c12 c13
    have d9 : w1.cell? ⟨w.heap.size, 9, none⟩ = some (.int .u32 0) := c9
    have d10 : w1.cell? ⟨w.heap.size, 10, none⟩ = some (.bool false) := c10
    have d11 : w1.cell? ⟨w.heap.size, 11, none⟩ = some (.bool false) := c11
    have d12 : w1.cell? ⟨w.heap.size, 12, none⟩ = some (.int .i64 0) := c12
    have d13 : w1.cell? ⟨w.heap.size, 13, none⟩ = some (.string ⟨#[]⟩) := c13
    clear hh HAS HASN hf c9 c10 c11 c12 c13
    by_cases e2 : c.st = 2
    · have I2 := hide (INN.out e2)
      rw [e2] at c4 c2
      go_wp2_with (refine wpList_load_row rfl 40 (.tmp 1) (by rfl) w.heap.size (by rfl) 40 c.cs.toArray (0, 0) _ (by exact B1.out) Tryd.underlying40 (by rfl) (by kernel_rfl) ?_)
      (with_reducible refine (I2.out _).mono ?_)
      rintro e3 w3 ⟨rfl, q3⟩
      have Q3 := hide (below_next Q1.out Q1.out.size q3)
      go_wp2_with fail
      go_ret
      exact ⟨rfl, Q3.out⟩
    · have I2 := hide (OUT.out e2)
      have e2' : (c.st == 2) = false := by simpa using e2
      clear e2
      go_wp2_with (refine wpList_load_row rfl 40 (.tmp 1) (by rfl) w.heap.size (by rfl) 40 c.cs.toArray (0, 0) _ (by exact B1.out) Tryd.underlying40 (by rfl) (by kernel_rfl) ?_)
      (with_reducible refine (I2.out _).mono ?_)
      rintro e3 w3 ⟨rfl, q3⟩
      have Q3 := hide (below_next Q1.out Q1.out.size q3)
      go_wp2_with fail
      go_ret
      exact ⟨rfl, Q3.out⟩
end Go.Proofs.YtkfedgjepiljiaaDoor

/- Walks of ctl.Submit and Cancel of any controller that may be. -/
namespace Go.Proofs.YtkfedgjepiljiaaDoor
open Go.ChangeShapes Go.WideShapes Go.ChangeAt Go.RowKit
open FP (Fr)

/-- With nothing to send. -/
def Cl.drop1 (c : Cl) : Cl := { c with has := false, f := zFr }
def Cl.subC (c : Cl) (f : Fr) : Cl := if FP.rightB f = false then zCl else if c.has = true then zCl else c.give f
def Cl.subE (c : Cl) (f : Fr) : Int := if FP.rightB f = false then 1 else if c.has = true then 20 else 0
def Cl.canC (c : Cl) : Cl := if c.has = false then zCl else if c.sends = true then zCl else c.drop1
def Cl.canE (c : Cl) : Int := if c.has = false then 21 else if c.sends = true then 20 else 0
theorem Cl.Ok.give {c : Cl} (h : c.Ok) (hn : c.has = false) {f : Fr} (hf : FP.rightB f = true) : (c.give f).Ok :=
  ⟨h.cnt, h.offs, fun _ => hf, (fun e => by cases e), h.s0, h.s8, h.n0, h.n9, h.n5, fun e => h.out e, fun e => by
    obtain ⟨a1, a2, a3, a4, a5, a6, a7, a8, a9, b1, b2, b3, b4, b6, b7⟩ := h.inn e
    exact ⟨a1, a2, a3, a4, a5, a6, a7, a8, a9, b1, b2, b3, b4, b6, fun s => absurd (b7 s).1 (by rw [hn]; decide)⟩⟩
theorem Cl.Ok.drop1 {c : Cl} (h : c.Ok) (hs : c.sends = false) : c.drop1.Ok :=
  ⟨h.cnt, h.offs, (fun e => by cases e), fun _ => rfl, h.s0, h.s8, h.n0, h.n9, h.n5, fun e => h.out e, fun e => by
    obtain ⟨a1, a2, a3, a4, a5, a6, a7, a8, a9, b1, b2, b3, b4, b6, b7⟩ := h.inn e
    exact ⟨a1, a2, a3, a4, a5, a6, a7, a8, a9, b1, b2, b3, b4, b6, fun s => absurd (hs.symm.trans s) (by decide)⟩⟩

set_option maxRecDepth 100000 in
set_option maxHeartbeats 8000000 in
theorem ctlSubmit_ok (c : Cl) (f : Fr) (w : World) (hq : c.Ok) (hid : f.id < 4294967296) : Calls Tryd.prog 20 #[.agg c.cs.toArray, .agg (frc f).toArray] w fun e w' =>
    e = .returned (.tuple #[.agg (c.subC f).cs.toArray, .int .i64 (c.subE f)]) ∧ Below w.heap.size w w' := by
  obtain ⟨w0, hw0⟩ : ∃ w0, w0 = ((w.alloc (.cells c.cs.toArray 40)).alloc (.cells (frc f).toArray 24)).alloc (.cells zCl.cs.toArray 40) := ⟨_, rfl⟩
  have step : ∀ (W : World) (o : Obj), Below W.heap.size W (W.alloc o) := fun W o => (Below.refl _ _).alloc (Nat.le_refl _) _
  have B0 := hide (heap_below (heap_below (World.alloc_heap_new w (.cells c.cs.toArray 40)) (step _ (.cells (frc f).toArray 24))) (step _ (.cells zCl.cs.toArray 40)))
  have G0 := hide (heap_below (World.alloc_heap_new (w.alloc (.cells c.cs.toArray 40)) (.cells (frc f).toArray 24)) (step _ (.cells zCl.cs.toArray 40)))
  have R0 := hide (World.alloc_heap_new ((w.alloc (.cells c.cs.toArray 40)).alloc (.cells (frc f).toArray 24)) (.cells zCl.cs.toArray 40))
  have Q0 : Hid (Below w.heap.size w w0) := by rw [hw0]; exact hide (((step _ _).alloc (by simp) _).alloc (by simp; omega) _)
  rw [← hw0] at B0 G0 R0
  simp only [World.size_alloc] at G0 R0
  have RT := hide (ctlRight_ok c w0 hq)
  have FRR := hide (fun W => show Calls Tryd.prog 30 #[.agg (frc f).toArray] W _ from frRight_any f W hid)
  obtain ⟨b, hb⟩ : ∃ b, b = FP.rightB f := ⟨_, rfl⟩
  rw [← hb] at FRR
  obtain ⟨z, hz⟩ : ∃ z, z = c.subC f := ⟨_, rfl⟩
  obtain ⟨ze, hze⟩ : ∃ ze, ze = c.subE f := ⟨_, rfl⟩
  rw [← hz, ← hze]
  have HZ := hide (show z = if b = false then zCl else if c.has = true then zCl else c.give f by rw [hz, hb]; rfl)
  have HE := hide (show ze = if b = false then 1 else if c.has = true then 20 else 0 by rw [hze, hb]; rfl)
  clear hb step hz hze hq
  go_enter Tryd.func20, Tryd.ntmps20
  go_upto_region 1 with fail
  change Code.wp _ _ _ _ (((w.alloc (.cells c.cs.toArray 40)).alloc (.cells (frc f).toArray 24)).alloc (.cells zCl.cs.toArray 40))
  rw [← hw0]
  clear hw0
  go_wp2_with (refine wpList_load_row rfl 40 (.tmp 2) (by rfl) w.heap.size (by rfl) 40 c.cs.toArray (0, 0) _ (by exact B0.out) Tryd.underlying40 (by rfl) (by kernel_rfl) ?_)
  (with_reducible refine (RT.out).mono ?_)
  rintro e1 w1 ⟨rfl, q1⟩
  have B1 := hide (heap_below B0.out q1)
  have G1 := hide (heap_below G0.out q1)
  have R1 := hide (heap_below R0.out q1)
  have Q1 := hide (below_next Q0.out Q0.out.size q1)
  have FR1 := hide (FRR.out w1)
  clear q1 B0 G0 R0 Q0 RT FRR
  go_wp2_with (refine wpList_load_rowG (by kernel_rfl) 24 (.tmp 3) (by rfl) (w.heap.size + 1) (by rfl) 24 (frc f).toArray (0, 0) _ (by exact G1.out) Tryd.underlying24 (by rfl) (by kernel_rfl) ?_)
  (with_reducible refine (FR1.out).mono ?_)
  rintro e2 w2 ⟨rfl, q2⟩
  have B2 := hide (heap_below B1.out q2)
  have G2 := hide (heap_below G1.out q2)
  have R2 := hide (heap_below R1.out q2)
  have Q2 := hide (below_next Q1.out Q1.out.size q2)
  clear q2 B1 G1 R1 Q1 FR1
  have TR := hide (show w2.there (w.heap.size + 1 + 1) 0 23 from there_heap (cs := zCl.cs) R2.out)
  cases b with
  | false =>
    go_wp2_with (refine wpList_store_hid (by rfl) 40 (.tmp 4) (.tmp 15) (by rfl) (w.heap.size + 1 + 1) 0 zCl.cs (by rfl) (by rfl) (by exact TR.out) (by kernel_rfl) (by simp [Value.oneCell', Cl.cs]) ?_)
    intro w3 e3
    have R3 := hide (show w3.heap[w.heap.size + 1 + 1]? = some (.cells zCl.cs.toArray 40 (0, 0)) by rw [e3.out]; exact whole_heap zCl.cs (xs := zCl.cs) R2.out rfl)
    have Q3 := hide (show Below w.heap.size w w3 by rw [e3.out]; exact Q2.out.trans (below_setCells (g := w.heap.size + 1 + 1) _ 0 _ (by omega)))
    clear e3 TR B2 G2 R2 Q2
    go_wp2_with fail
    refine bodyPost_ret (results_cell_tmp (by rfl) _ w3 (w.heap.size + 1 + 1) 40 zCl.cs.toArray (0, 0) _ (.int .i64 1) (by rfl) (by rfl) R3.out Tryd.underlying40 (by rfl) (by kernel_rfl)) rfl ⟨by rw [HZ.out, HE.out]; rfl, Q3.out⟩
  | true =>
    obtain ⟨_, ⟨_, _, _, _, c8⟩, _⟩ := cl_cells B2.out
    rcases Bool.eq_false_or_eq_true c.has with hh | hh
    · rw [hh] at c8
      have HZ2 := hide (show z = zCl by rw [HZ.out, hh]; rfl)
      have HE2 := hide (show ze = 20 by rw [HE.out, hh]; rfl)
      clear hh HZ HE
      go_wp2_with (refine wpList_store_hid (by rfl) 40 (.tmp 4) (.tmp 19) (by rfl) (w.heap.size + 1 + 1) 0 zCl.cs (by rfl) (by rfl) (by exact TR.out) (by kernel_rfl) (by simp [Value.oneCell', Cl.cs]) ?_)
      intro w3 e3
      have R3 := hide (show w3.heap[w.heap.size + 1 + 1]? = some (.cells zCl.cs.toArray 40 (0, 0)) by rw [e3.out]; exact whole_heap zCl.cs (xs := zCl.cs) R2.out rfl)
      have Q3 := hide (show Below w.heap.size w w3 by rw [e3.out]; exact Q2.out.trans (below_setCells (g := w.heap.size + 1 + 1) _ 0 _ (by omega)))
      clear e3 TR B2 G2 R2 Q2 c8
      go_wp2_with fail
      refine bodyPost_ret (results_cell_tmp (by rfl) _ w3 (w.heap.size + 1 + 1) 40 zCl.cs.toArray (0, 0) _ (.int .i64 20) (by rfl) (by rfl) R3.out Tryd.underlying40 (by rfl) (by kernel_rfl)) rfl ⟨by rw [HZ2.out, HE2.out], Q3.out⟩
    rw [hh] at c8
    have HZ2 := hide (show z = c.give f by rw [HZ.out, hh]; rfl)
    have HE2 := hide (show ze = 0 by rw [HE.out, hh]; rfl)
    clear hh HZ HE
    go_wp2_with fail
    refine wp_region_L [0, 1] [(0, fun W => W.heap[w.heap.size + 1]? = some (.cells (frc f).toArray 24 (0, 0)))] (by kernel_rfl) ?_
    replace B2 := hide (show w2.drew.heap[_]? = _ from B2.out)
    replace G2 := hide (show w2.drew.heap[_]? = _ from G2.out)
    replace R2 := hide (show w2.drew.heap[_]? = _ from R2.out)
    replace Q2 := hide (show Below w.heap.size w w2.drew from Q2.out.drew)
    clear TR c8
    generalize w2.drew = w3 at *
    refine wpAnyL_load (i := 0) (v := .agg (frc f).toArray) rfl rfl (by kernel_rfl) (by kernel_rfl) (by kernel_rfl) (by kernel_rfl) (by kernel_rfl) (fun _ _ _ h => h) rfl (fun W h => exec_heap W (w.heap.size + 1) 24 _ _ h Tryd.underlying24 rfl (by kernel_rfl) _ _ (.tmp 3) (by rfl) (by rfl)) (G2.out) ?_
    go_simp
    refine wpAnyL_pure (i := 1) (v := .pointer (some ⟨w.heap.size, 8, none⟩)) rfl rfl (by kernel_rfl) (by kernel_rfl) (by kernel_rfl) (by kernel_rfl) (by kernel_rfl) (fun _ _ _ h => h) rfl (fun W => by go_simp) ?_
    go_simp
    obtain ⟨_, ⟨_, _, _, _, c8⟩, _⟩ := cl_cells B2.out
    have f8 := cl_froz B2.out 8
    refine wpAnyL_one (i := 2) (by kernel_rfl) ?_
    refine wpOp_do rfl rfl ?_
    go_simp
    have B3 := hide (heap_setCell_same w3 w.heap.size 8 _ _ (.bool true) B2.out)
    have R3 := hide (show (w3.setCell ⟨w.heap.size, 8, none⟩ (.bool true)).heap[w.heap.size + 1 + 1]? = _ from (heap_setCell_other _ _ _ _ (by simp; omega)).trans R2.out)
    have G3 := hide (show (w3.setCell ⟨w.heap.size, 8, none⟩ (.bool true)).heap[w.heap.size + 1]? = _ from (heap_setCell_other _ _ _ _ (by simp)).trans G2.out)
    have Q3 := hide (Q2.out.setCell (p := ⟨w.heap.size, 8, none⟩) (Nat.le_refl _) (.bool true))
    clear B2 R2 Q2 G2 c8 f8
    generalize w3.setCell ⟨w.heap.size, 8, none⟩ (.bool true) = w4 at *
    refine ⟨keepsL_mk (by kernel_rfl) (.cons G3.out .nil), ?_⟩
    go_simp
    refine wpAnyL_one (i := 3) (by kernel_rfl) ?_
    refine wpOp_do rfl rfl ?_
    go_simp
    refine ⟨keepsL_all (by kernel_rfl) (by kernel_rfl), ?_⟩
    go_simp
    have B4 := hide (show w4.heap[w.heap.size]? = some (.cells (c.cs.set 8 (.bool true)).toArray 40 (0, 0)) by simpa using B3.out)
    have TB := hide (there_sub (there_heap B4.out) 9 5 (by simp [Cl.cs]))
    clear B3
    refine wpAnyL_one (i := 4) (by kernel_rfl) ?_
    refine wpOp_do rfl rfl ?_
    refine wp_store_as 24 (.tmp 22) (.tmp 20) rfl w.heap.size 9 (frc f) (by rfl) (by rfl) (by exact TB.out) (by kernel_rfl) (by simp [Value.oneCell', frc]) ?_
    intro w5 e5
    have B5 := hide (show w5.heap[w.heap.size]? = some (.cells (c.give f).cs.toArray 40 (0, 0)) by rw [e5]; exact set_heap (frc f) (c.cs.set 8 (.bool true)) 9 w4 B4.out)
    have R5 := hide (show w5.heap[w.heap.size + 1 + 1]? = some (.cells zCl.cs.toArray 40 (0, 0)) by rw [e5]; exact other_heap (by omega) _ _ _ R3.out)
    have Q5 := hide (show Below w.heap.size w w5 by rw [e5]; exact Q3.out.trans (below_setCells _ _ _ (Nat.le_refl _)))
    clear e5 TB B4 R3 Q3 G3
    refine ⟨keepsL_all (by kernel_rfl) (by kernel_rfl), ?_⟩
    go_simp
    refine wpAnyL_done (by kernel_rfl) ?_ _
    generalize hd : c.give f = d at *
    have HD := hide hd
    clear hd
    have TR := hide (show w5.there (w.heap.size + 1 + 1) 0 23 from there_heap (cs := zCl.cs) R5.out)
    go_wp2_with (first | (refine wpList_load_row rfl 40 (.tmp 2) (by rfl) w.heap.size (by rfl) 40 d.cs.toArray (0, 0) _ (by exact B5.out) Tryd.underlying40 (by rfl) (by kernel_rfl) ?_) | (refine wpList_store_hid (by rfl) 40 (.tmp 4) (.tmp 23) (by rfl) (w.heap.size + 1 + 1) 0 d.cs (by rfl) (by rfl) (by exact TR.out) (by kernel_rfl) (by simp [Value.oneCell', Cl.cs]) ?_))
    intro w6 e6
    have R6 := hide (show w6.heap[w.heap.size + 1 + 1]? = some (.cells d.cs.toArray 40 (0, 0)) by rw [e6.out]; exact whole_heap d.cs (xs := zCl.cs) R5.out rfl)
    have Q6 := hide (show Below w.heap.size w w6 by rw [e6.out]; exact Q5.out.trans (below_setCells (g := w.heap.size + 1 + 1) _ 0 _ (by omega)))
    clear e6 TR B5 R5 Q5
    go_wp2_with fail
    refine bodyPost_ret (results_cell_tmp (by rfl) _ w6 (w.heap.size + 1 + 1) 40 d.cs.toArray (0, 0) _ (.int .i64 0) (by rfl) (by rfl) R6.out Tryd.underlying40 (by rfl) (by kernel_rfl)) rfl ⟨by rw [HZ2.out, HE2.out], Q6.out⟩


end Go.Proofs.YtkfedgjepiljiaaDoor
