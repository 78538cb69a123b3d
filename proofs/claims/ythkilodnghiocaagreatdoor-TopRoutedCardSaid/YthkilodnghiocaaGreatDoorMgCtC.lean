/- Walks of ctl.New, Submit, of a controller that joins or is idle. -/
import Derived.Test.YthkilodnghiocaaGreatDoorMgFrPlain
import Derived.Test.YthkilodnghiocaaGreatDoorMgRes
import Derived.Test.YthkilodnghiocaaGreatDoorMgOff
namespace Go.Proofs.YthkilodnghiocaaGreatDoor
open Go.ChangeShapes Go.WideShapes Go.ChangeAt Go.RowKit
open FP (Fr)

/-- With a frame to send. -/
def Cl.give (c : Cl) (f : Fr) : Cl := { c with has := true, f := f }
theorem Cl.Q.give {c : Cl} (h : c.Q) {f : Fr} (hf : FP.rightB f = true) : (c.give f).Q := ⟨h.cnt, h.offs, fun _ => hf, (fun e => by cases e), h.out, h.st⟩
theorem zCl_q : zCl.Q := ⟨rfl, rfl, (fun e => by cases e), fun _ => rfl, ⟨rfl, rfl, rfl, rfl, rfl, rfl, rfl, rfl, rfl⟩, .inl ⟨rfl, by decide, by decide⟩⟩

theorem there_sub {W : World} {b n : Nat} (h : W.there b 0 n) (k m : Nat) (hk : k + m ≤ n) : W.there b k m := fun j hj => by
  have := h (k + j) (by omega)
  rwa [Nat.zero_add] at this

set_option maxRecDepth 100000 in
theorem ctlNew_any (w : World) : Calls Tryz.prog 32 #[] w fun e w' => e = .returned (.agg zCl.cs.toArray) ∧ Below w.heap.size w w' := by
  have R0 := hide (World.alloc_heap_new w (.cells zCl.cs.toArray 73))
  have TR := hide (show (w.alloc (.cells zCl.cs.toArray 73)).there w.heap.size 0 23 from there_heap (cs := zCl.cs) R0.out)
  have q0 : Below w.heap.size w (w.alloc (.cells zCl.cs.toArray 73)) := (Below.refl _ _).alloc (Nat.le_refl _) _
  go_enter Tryz.func32, Tryz.ntmps32
  go_wp2_with (refine wpList_store_hid (by rfl) 73 (.tmp 0) (.tmp 1) (by rfl) w.heap.size 0 zCl.cs (by rfl) (by rfl) (by exact TR.out) (by kernel_rfl) (by simp [Value.oneCell', Cl.cs]) ?_)
  intro w6 e6
  have R6 := hide (show w6.heap[w.heap.size]? = some (.cells zCl.cs.toArray 73 (0, 0)) by rw [e6.out]; exact whole_heap zCl.cs (xs := zCl.cs) R0.out rfl)
  have Q6 := hide (show Below w.heap.size w w6 by rw [e6.out]; exact q0.trans (below_setCells (g := w.heap.size) _ 0 _ (Nat.le_refl _)))
  go_wp2_with fail
  refine bodyPost_ret (results_cell_row (p := 0) (ty := 73) (by rfl) _ w6 w.heap.size 73 zCl.cs.toArray (0, 0) _ (by rfl) R6.out Tryz.underlying73 (by rfl) (by kernel_rfl)) rfl ⟨rfl, Q6.out⟩

set_option maxRecDepth 100000 in
set_option maxHeartbeats 8000000 in
theorem ctlSubmit_q (c : Cl) (f : Fr) (w : World) (hq : c.Q) (hh : c.has = false) (hid : f.id < 4294967296) : Calls Tryz.prog 20 #[.agg c.cs.toArray, .agg (frc f).toArray] w fun e w' =>
    (FP.rightB f = true ∧ e = .returned (.tuple #[.agg (c.give f).cs.toArray, .int .i64 0]) ∨ FP.rightB f = false ∧ e = .returned (.tuple #[.agg zCl.cs.toArray, .int .i64 1])) ∧ Below w.heap.size w w' := by
  obtain ⟨w0, hw0⟩ : ∃ w0, w0 = ((w.alloc (.cells c.cs.toArray 73)).alloc (.cells (frc f).toArray 45)).alloc (.cells zCl.cs.toArray 73) := ⟨_, rfl⟩
  have step : ∀ (W : World) (o : Obj), Below W.heap.size W (W.alloc o) := fun W o => (Below.refl _ _).alloc (Nat.le_refl _) _
  have B0 := hide (heap_below (heap_below (World.alloc_heap_new w (.cells c.cs.toArray 73)) (step _ (.cells (frc f).toArray 45))) (step _ (.cells zCl.cs.toArray 73)))
  have G0 := hide (heap_below (World.alloc_heap_new (w.alloc (.cells c.cs.toArray 73)) (.cells (frc f).toArray 45)) (step _ (.cells zCl.cs.toArray 73)))
  have R0 := hide (World.alloc_heap_new ((w.alloc (.cells c.cs.toArray 73)).alloc (.cells (frc f).toArray 45)) (.cells zCl.cs.toArray 73))
  have Q0 : Hid (Below w.heap.size w w0) := by rw [hw0]; exact hide (((step _ _).alloc (by simp) _).alloc (by simp; omega) _)
  rw [← hw0] at B0 G0 R0
  simp only [World.size_alloc] at G0 R0
  have RT := hide (ctlRight_q c w0 hq)
  have FRR := hide (fun W => show Calls Tryz.prog 35 #[.agg (frc f).toArray] W _ from frRight_any f W hid)
  obtain ⟨b, hb⟩ : ∃ b, b = FP.rightB f := ⟨_, rfl⟩
  rw [← hb] at FRR ⊢
  clear hb step
  go_enter Tryz.func20, Tryz.ntmps20
  go_upto_region 1 with fail
  change Code.wp _ _ _ _ (((w.alloc (.cells c.cs.toArray 73)).alloc (.cells (frc f).toArray 45)).alloc (.cells zCl.cs.toArray 73))
  rw [← hw0]
  clear hw0
  go_wp2_with (refine wpList_load_row rfl 73 (.tmp 2) (by rfl) w.heap.size (by rfl) 73 c.cs.toArray (0, 0) _ (by exact B0.out) Tryz.underlying73 (by rfl) (by kernel_rfl) ?_)
  (with_reducible refine (RT.out).mono ?_)
  rintro e1 w1 ⟨rfl, q1⟩
  have B1 := hide (heap_below B0.out q1)
  have G1 := hide (heap_below G0.out q1)
  have R1 := hide (heap_below R0.out q1)
  have Q1 := hide (below_next Q0.out Q0.out.size q1)
  have FR1 := hide (FRR.out w1)
  clear q1 B0 G0 R0 Q0 RT FRR
  go_wp2_with (refine wpList_load_rowG (by kernel_rfl) 45 (.tmp 3) (by rfl) (w.heap.size + 1) (by rfl) 45 (frc f).toArray (0, 0) _ (by exact G1.out) Tryz.underlying45 (by rfl) (by kernel_rfl) ?_)
  (with_reducible refine (FR1.out).mono ?_)
  rintro e2 w2 ⟨rfl, q2⟩
  have B2 := hide (heap_below B1.out q2)
  have G2 := hide (heap_below G1.out q2)
  have R2 := hide (heap_below R1.out q2)
  have Q2 := hide (below_next Q1.out Q1.out.size q2)
  clear q2 B1 G1 R1 Q1 FR1
  have TR := hide (show w2.there (w.heap.size + 1 + 1) 0 23 from there_heap (cs := zCl.cs) R2.out)
  cases b with
  | false =>
    go_wp2_with (refine wpList_store_hid (by rfl) 73 (.tmp 4) (.tmp 15) (by rfl) (w.heap.size + 1 + 1) 0 zCl.cs (by rfl) (by rfl) (by exact TR.out) (by kernel_rfl) (by simp [Value.oneCell', Cl.cs]) ?_)
    intro w3 e3
    have R3 := hide (show w3.heap[w.heap.size + 1 + 1]? = some (.cells zCl.cs.toArray 73 (0, 0)) by rw [e3.out]; exact whole_heap zCl.cs (xs := zCl.cs) R2.out rfl)
    have Q3 := hide (show Below w.heap.size w w3 by rw [e3.out]; exact Q2.out.trans (below_setCells (g := w.heap.size + 1 + 1) _ 0 _ (by omega)))
    clear e3 TR B2 G2 R2 Q2
    go_wp2_with fail
    refine bodyPost_ret (results_cell_tmp (by rfl) _ w3 (w.heap.size + 1 + 1) 73 zCl.cs.toArray (0, 0) _ (.int .i64 1) (by rfl) (by rfl) R3.out Tryz.underlying73 (by rfl) (by kernel_rfl)) rfl ⟨by first | exact rfl | exact .inr ⟨rfl, rfl⟩, Q3.out⟩
  | true =>
    obtain ⟨_, ⟨_, _, _, _, c8⟩, _⟩ := cl_cells B2.out
    rw [hh] at c8
    go_wp2_with fail
    refine wp_region_L [0, 1] [(0, fun W => W.heap[w.heap.size + 1]? = some (.cells (frc f).toArray 45 (0, 0)))] (by kernel_rfl) ?_
    replace B2 := hide (show w2.drew.heap[_]? = _ from B2.out)
    replace G2 := hide (show w2.drew.heap[_]? = _ from G2.out)
    replace R2 := hide (show w2.drew.heap[_]? = _ from R2.out)
    replace Q2 := hide (show Below w.heap.size w w2.drew from Q2.out.drew)
    clear TR c8
    generalize w2.drew = w3 at *
    refine wpAnyL_load (i := 0) (v := .agg (frc f).toArray) rfl rfl (by kernel_rfl) (by kernel_rfl) (by kernel_rfl) (by kernel_rfl) (by kernel_rfl) (fun _ _ _ h => h) rfl (fun W h => exec_heap W (w.heap.size + 1) 45 _ _ h Tryz.underlying45 rfl (by kernel_rfl) _ _ (.tmp 3) (by rfl) (by rfl)) (G2.out) ?_
    go_simp
    refine wpAnyL_pure (i := 1) (v := .pointer (some ⟨w.heap.size, 8, none⟩)) rfl rfl (by kernel_rfl) (by kernel_rfl) (by kernel_rfl) (by kernel_rfl) (by kernel_rfl) (fun _ _ _ h => h) rfl (fun W => by go_simp) ?_
    go_simp
    obtain ⟨_, ⟨_, _, _, _, c8⟩, _⟩ := cl_cells B2.out
    have f8 := cl_froz B2.out 8
    refine wpAnyL_one (i := 2) (by kernel_rfl) ?_
    refine wpOp_do rfl rfl ?_
    go_simp
    have B3 := hide (heap_setCell_same w3 w.heap.size 8 _ _ (.bool true) B2.out)
    have R3 := hide (show (w3.setCell ⟨w.heap.size, 8, none⟩ (.bool true)).heap[w.heap.size + 1 + 1]? = _ from (heap_setCell_other _ _ _ _ (by simp; omega)).trans R2.out)
    have G3 := hide (show (w3.setCell ⟨w.heap.size, 8, none⟩ (.bool true)).heap[w.heap.size + 1]? = _ from (heap_setCell_other _ _ _ _ (by simp)).trans G2.out)
    have Q3 := hide (Q2.out.setCell (p := ⟨w.heap.size, 8, none⟩) (Nat.le_refl _) (.bool true))
    clear B2 R2 Q2 G2 c8 f8
    generalize w3.setCell ⟨w.heap.size, 8, none⟩ (.bool true) = w4 at *
    refine ⟨keepsL_mk (by kernel_rfl) (.cons G3.out .nil), ?_⟩
    go_simp
    refine wpAnyL_one (i := 3) (by kernel_rfl) ?_
    refine wpOp_do rfl rfl ?_
    go_simp
    refine ⟨keepsL_all (by kernel_rfl) (by kernel_rfl), ?_⟩
    go_simp
    have B4 := hide (show w4.heap[w.heap.size]? = some (.cells (c.cs.set 8 (.bool true)).toArray 73 (0, 0)) by simpa using B3.out)
    have TB := hide (there_sub (there_heap B4.out) 9 5 (by simp [Cl.cs]))
    clear B3
    refine wpAnyL_one (i := 4) (by kernel_rfl) ?_
    refine wpOp_do rfl rfl ?_
    refine wp_store_as 45 (.tmp 22) (.tmp 20) rfl w.heap.size 9 (frc f) (by rfl) (by rfl) (by exact TB.out) (by kernel_rfl) (by simp [Value.oneCell', frc]) ?_
    intro w5 e5
    have B5 := hide (show w5.heap[w.heap.size]? = some (.cells (c.give f).cs.toArray 73 (0, 0)) by rw [e5]; exact set_heap (frc f) (c.cs.set 8 (.bool true)) 9 w4 B4.out)
    have R5 := hide (show w5.heap[w.heap.size + 1 + 1]? = some (.cells zCl.cs.toArray 73 (0, 0)) by rw [e5]; exact other_heap (by omega) _ _ _ R3.out)
    have Q5 := hide (show Below w.heap.size w w5 by rw [e5]; exact Q3.out.trans (below_setCells _ _ _ (Nat.le_refl _)))
    clear e5 TB B4 R3 Q3 G3
    refine ⟨keepsL_all (by kernel_rfl) (by kernel_rfl), ?_⟩
    go_simp
    refine wpAnyL_done (by kernel_rfl) ?_ _
    generalize hd : c.give f = d at *
    have HD := hide hd
    clear hd
    have TR := hide (show w5.there (w.heap.size + 1 + 1) 0 23 from there_heap (cs := zCl.cs) R5.out)
    go_wp2_with (first | (refine wpList_load_row rfl 73 (.tmp 2) (by rfl) w.heap.size (by rfl) 73 d.cs.toArray (0, 0) _ (by exact B5.out) Tryz.underlying73 (by rfl) (by kernel_rfl) ?_) | (refine wpList_store_hid (by rfl) 73 (.tmp 4) (.tmp 23) (by rfl) (w.heap.size + 1 + 1) 0 d.cs (by rfl) (by rfl) (by exact TR.out) (by kernel_rfl) (by simp [Value.oneCell', Cl.cs]) ?_))
    intro w6 e6
    have R6 := hide (show w6.heap[w.heap.size + 1 + 1]? = some (.cells d.cs.toArray 73 (0, 0)) by rw [e6.out]; exact whole_heap d.cs (xs := zCl.cs) R5.out rfl)
    have Q6 := hide (show Below w.heap.size w w6 by rw [e6.out]; exact Q5.out.trans (below_setCells (g := w.heap.size + 1 + 1) _ 0 _ (by omega)))
    clear e6 TR B5 R5 Q5
    go_wp2_with fail
    refine bodyPost_ret (results_cell_tmp (by rfl) _ w6 (w.heap.size + 1 + 1) 73 d.cs.toArray (0, 0) _ (.int .i64 0) (by rfl) (by rfl) R6.out Tryz.underlying73 (by rfl) (by kernel_rfl)) rfl ⟨by rw [← HD.out], Q6.out⟩

end Go.Proofs.YthkilodnghiocaaGreatDoor

/- Walks of a machine's to, join, idle. -/
namespace Go.Proofs.YthkilodnghiocaaGreatDoor
open Go.ChangeShapes Go.WideShapes Go.ChangeAt Go.RowKit
open FP (Fr)

/-- A machine's cells. -/
def mcL (c : Cl) (ev : List Value) : List Value := c.cs ++ ev
theorem mc_cells {W : World} {B : Nat} {c : Cl} {ev : List Value} {t : TypeId} {fz : Nat × Nat} (h : W.heap[B]? = some (.cells (mcL c ev).toArray t fz)) :
    (W.cell? ⟨B, 0, none⟩ = some (.int .i64 c.tc) ∧ W.cell? ⟨B, 1, none⟩ = some (.int .i64 c.rc) ∧ W.cell? ⟨B, 2, none⟩ = some (.bool c.off) ∧ W.cell? ⟨B, 3, none⟩ = some (.int .i64 c.rs)) ∧
    (W.cell? ⟨B, 4, none⟩ = some (.int .i64 c.st) ∧ W.cell? ⟨B, 5, none⟩ = some (.int .i64 c.n) ∧ W.cell? ⟨B, 6, none⟩ = some (.bool c.was) ∧ W.cell? ⟨B, 7, none⟩ = some (.bool c.hard) ∧ W.cell? ⟨B, 8, none⟩ = some (.bool c.has)) ∧
    (W.cell? ⟨B, 14, none⟩ = some (.bool c.sends) ∧ W.cell? ⟨B, 15, none⟩ = some (.string c.out) ∧ W.cell? ⟨B, 16, none⟩ = some (.int .i64 c.at_) ∧ W.cell? ⟨B, 17, none⟩ = some (.int .u8 c.last) ∧ W.cell? ⟨B, 18, none⟩ = some (.int .i64 c.sn) ∧ W.cell? ⟨B, 19, none⟩ = some (.string c.got) ∧ W.cell? ⟨B, 20, none⟩ = some (.bool c.en) ∧ W.cell? ⟨B, 21, none⟩ = some (.int .i64 c.tail) ∧ W.cell? ⟨B, 22, none⟩ = some (.bool c.good)) := by
  simp [World.cell?, h, mcL, Cl.cs]

theorem below_set {B : Nat} {W W' : World} (h : Below B W W') (o : Nat) (v : Value) : Below B W (W'.setCell ⟨B, o, none⟩ v) := h.setCell (p := ⟨B, o, none⟩) (Nat.le_refl _) v
theorem mc_set {W : World} {b : Nat} {cs : Array Value} {t : TypeId} (h : W.heap[b]? = some (.cells cs t (0, 0))) (o : Nat) (v : Value) : (W.setCell ⟨b, o, none⟩ v).heap[b]? = some (.cells (cs.setIfInBounds o v) t (0, 0)) := heap_setCell_same W b o _ _ v h

set_option maxRecDepth 100000 in
set_option maxHeartbeats 4000000 in
theorem mcTo_any (c : Cl) (ev : List Value) (s : Int) (b : Nat) (t : TypeId) (w : World) (h : Hid (w.heap[b]? = some (.cells (mcL c ev).toArray t (0, 0)))) :
    Calls Tryz.prog 96 #[.pointer (some ⟨b, 0, none⟩), .int .i64 s] w fun e w' => (∃ v, e = .returned v) ∧ w'.heap[b]? = some (.cells (mcL (c.to s) ev).toArray t (0, 0)) ∧ Below b w w' := by
  have hb : b < w.heap.size := heap_lt h.out
  obtain ⟨_, ⟨c4, c5, _⟩, ⟨d14, d15, d16, d17, d18, d19, d20, d21, d22⟩⟩ := mc_cells h.out
  have f4 := cl_froz h.out 4
  have f5 := cl_froz h.out 5
  have f14 := cl_froz h.out 14
  have f15 := cl_froz h.out 15
  have f16 := cl_froz h.out 16
  have f17 := cl_froz h.out 17
  have f18 := cl_froz h.out 18
  have f19 := cl_froz h.out 19
  have f20 := cl_froz h.out 20
  have f21 := cl_froz h.out 21
  have f22 := cl_froz h.out 22
  go_enter Tryz.func96, Tryz.ntmps96
  go_wp2_with fail
  go_end0
  refine ⟨⟨_, rfl⟩, ?_, ?_⟩
  · have H := mc_set (mc_set (mc_set (mc_set (mc_set (mc_set (mc_set (mc_set (mc_set (mc_set (mc_set h.out 4 (.int .i64 s)) 5 (.int .i64 0)) 14 (.bool false)) 15 (.string ⟨#[]⟩)) 16 (.int .i64 0)) 17 (.int .u8 0)) 18 (.int .i64 0)) 19 (.string ⟨#[]⟩)) 20 (.bool false)) 21 (.int .i64 0)) 22 (.bool false)
    simpa [mcL, Cl.cs, Cl.to] using H
  · exact below_set (below_set (below_set (below_set (below_set (below_set (below_set (below_set (below_set (below_set (below_set (Below.refl b w) 4 _) 5 _) 14 _) 15 _) 16 _) 17 _) 18 _) 19 _) 20 _) 21 _) 22 _

/-- A recessive bit comes to one that joins. -/
def Cl.join1 (c : Cl) : Cl := if c.n = 10 then ({ c with n := 11 } : Cl).to 1 else { c with n := c.n + 1 }

set_option maxRecDepth 100000 in
set_option maxHeartbeats 4000000 in
theorem mcJoin_one (c : Cl) (ev : List Value) (b : Nat) (t : TypeId) (w : World) (h : Hid (w.heap[b]? = some (.cells (mcL c ev).toArray t (0, 0)))) (h0 : 0 ≤ c.n) (h10 : c.n ≤ 10) :
    Calls Tryz.prog 78 #[.pointer (some ⟨b, 0, none⟩), .int .u8 49] w fun e w' => (∃ v, e = .returned v) ∧ w'.heap[b]? = some (.cells (mcL c.join1 ev).toArray t (0, 0)) ∧ Below b w w' := by
  have hb : b < w.heap.size := heap_lt h.out
  obtain ⟨_, ⟨_, c5, _⟩, _⟩ := mc_cells h.out
  have f5 := cl_froz h.out 5
  have H := mc_set h.out 5 (.int .i64 (c.n + 1))
  have HB := hide (show (w.setCell ⟨b, 5, none⟩ (.int .i64 (c.n + 1))).heap[b]? = some (.cells (mcL { c with n := c.n + 1 } ev).toArray t (0, 0)) by simpa [mcL, Cl.cs] using H)
  have Q1 := hide ((Below.refl b w).setCell (p := ⟨b, 5, none⟩) (Nat.le_refl _) (.int .i64 (c.n + 1)))
  clear H
  by_cases e : c.n = 10
  · have EJ := hide (show c.join1 = ({ c with n := c.n + 1 } : Cl).to 1 by unfold Cl.join1; rw [if_pos e, e]; rfl)
    have TO := hide (mcTo_any { c with n := c.n + 1 } ev 1 b t (w.setCell ⟨b, 5, none⟩ (.int .i64 (c.n + 1))) HB)
    rw [e] at c5
    have e11 : c.n + 1 = 11 := by omega
    rw [e11] at TO HB Q1
    clear h0 h10 e h e11
    go_enter Tryz.func78, Tryz.ntmps78
    go_wp2_with fail
    (with_reducible refine (TO.out).mono ?_)
    rintro e1 w1 ⟨⟨v, rfl⟩, hB, q1⟩
    go_wp2_with fail
    go_end0
    exact ⟨⟨_, rfl⟩, by rw [EJ.out]; exact hB, Q1.out.trans q1⟩
  · have EJ := hide (show c.join1 = { c with n := c.n + 1 } by unfold Cl.join1; rw [if_neg e])
    have hne : ¬ c.n + 1 = 11 := by omega
    clear h
    go_enter Tryz.func78, Tryz.ntmps78
    go_wp2_with fail
    go_end0
    exact ⟨⟨_, rfl⟩, by rw [EJ.out]; exact HB.out, Q1.out⟩

set_option maxRecDepth 100000 in
set_option maxHeartbeats 4000000 in
theorem mcIdle_one (b : Nat) (w : World) : Calls Tryz.prog 79 #[.pointer (some ⟨b, 0, none⟩), .int .u8 49] w fun e w' => (∃ v, e = .returned v) ∧ w' = w := by
  go_enter Tryz.func79, Tryz.ntmps79
  go_wp2_with fail
  go_end0
  exact ⟨⟨_, rfl⟩, rfl⟩

/-- What is done at a bit, by the state. -/
def stepsV : Array Value := #[.func (.func 78) #[] #[], .func (.func 79) #[] #[], .func (.func 80) #[] #[], .func (.func 81) #[] #[], .func (.func 82) #[] #[], .func (.func 83) #[] #[], .func (.func 84) #[] #[], .func (.func 85) #[] #[], .func (.func 86) #[] #[]]
set_option maxRecDepth 100000 in
theorem ctlSteps_any (w : World) : Calls Tryz.prog 55 #[] w fun e w' => e = .returned (.agg stepsV) ∧ Below w.heap.size w w' := by
  have R0 := hide (World.alloc_heap_new w (.cells (List.replicate 9 Value.nilFunc).toArray 116))
  have TR := hide (show (w.alloc (.cells (List.replicate 9 Value.nilFunc).toArray 116)).there w.heap.size 0 9 from there_heap (cs := List.replicate 9 Value.nilFunc) R0.out)
  have q0 : Below w.heap.size w (w.alloc (.cells (List.replicate 9 Value.nilFunc).toArray 116)) := (Below.refl _ _).alloc (Nat.le_refl _) _
  go_enter Tryz.func55, Tryz.ntmps55
  go_wp2_with (refine wpList_store_hid (by rfl) 116 (.tmp 0) (.tmp 1) (by rfl) w.heap.size 0 stepsV.toList (by rfl) (by rfl) (by exact TR.out) (by kernel_rfl) (by simp [Value.oneCell', stepsV]) ?_)
  intro w6 e6
  have R6 := hide (show w6.heap[w.heap.size]? = some (.cells stepsV.toList.toArray 116 (0, 0)) by rw [e6.out]; exact whole_heap stepsV.toList (xs := List.replicate 9 Value.nilFunc) R0.out rfl)
  have Q6 := hide (show Below w.heap.size w w6 by rw [e6.out]; exact q0.trans (below_setCells (g := w.heap.size) _ 0 _ (Nat.le_refl _)))
  go_wp2_with fail
  refine bodyPost_ret (results_cell_row (p := 0) (ty := 116) (by rfl) _ w6 w.heap.size 116 stepsV.toList.toArray (0, 0) _ (by rfl) R6.out Tryz.underlying116 (by rfl) (by kernel_rfl)) rfl ⟨rfl, Q6.out⟩
end Go.Proofs.YthkilodnghiocaaGreatDoor
