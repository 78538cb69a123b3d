/- Walks of a machine's to, join, idle. -/
import Derived.Test.YtkkkhbgjnfkpaaaDoorCtC
namespace Go.Proofs.YtkkkhbgjnfkpaaaDoor
open Go.ChangeShapes Go.WideShapes Go.ChangeAt Go.RowKit
open FP (Fr)

/-- A machine's cells. -/
def mcL (c : Cl) (ev : List Value) : List Value := c.cs ++ ev
theorem mc_cells {W : World} {B : Nat} {c : Cl} {ev : List Value} {t : TypeId} {fz : Nat × Nat} (h : W.heap[B]? = some (.cells (mcL c ev).toArray t fz)) :
    (W.cell? ⟨B, 0, none⟩ = some (.int .i64 c.tc) ∧ W.cell? ⟨B, 1, none⟩ = some (.int .i64 c.rc) ∧ W.cell? ⟨B, 2, none⟩ = some (.bool c.off) ∧ W.cell? ⟨B, 3, none⟩ = some (.int .i64 c.rs)) ∧
    (W.cell? ⟨B, 4, none⟩ = some (.int .i64 c.st) ∧ W.cell? ⟨B, 5, none⟩ = some (.int .i64 c.n) ∧ W.cell? ⟨B, 6, none⟩ = some (.bool c.was) ∧ W.cell? ⟨B, 7, none⟩ = some (.bool c.hard) ∧ W.cell? ⟨B, 8, none⟩ = some (.bool c.has)) ∧
    (W.cell? ⟨B, 14, none⟩ = some (.bool c.sends) ∧ W.cell? ⟨B, 15, none⟩ = some (.string c.out) ∧ W.cell? ⟨B, 16, none⟩ = some (.int .i64 c.at_) ∧ W.cell? ⟨B, 17, none⟩ = some (.int .u8 c.last) ∧ W.cell? ⟨B, 18, none⟩ = some (.int .i64 c.sn) ∧ W.cell? ⟨B, 19, none⟩ = some (.string c.got) ∧ W.cell? ⟨B, 20, none⟩ = some (.bool c.en) ∧ W.cell? ⟨B, 21, none⟩ = some (.int .i64 c.tail) ∧ W.cell? ⟨B, 22, none⟩ = some (.bool c.good)) := by
  simp [World.cell?, h, mcL, Cl.cs]

theorem below_set {B : Nat} {W W' : World} (h : Below B W W') (o : Nat) (v : Value) : Below B W (W'.setCell ⟨B, o, none⟩ v) := h.setCell (p := ⟨B, o, none⟩) (Nat.le_refl _) v
theorem mc_set {W : World} {b : Nat} {cs : Array Value} {t : TypeId} (h : W.heap[b]? = some (.cells cs t (0, 0))) (o : Nat) (v : Value) : (W.setCell ⟨b, o, none⟩ v).heap[b]? = some (.cells (cs.setIfInBounds o v) t (0, 0)) := heap_setCell_same W b o _ _ v h

set_option maxRecDepth 100000 in
set_option maxHeartbeats 4000000 in
theorem mcTo_any (c : Cl) (ev : List Value) (s : Int) (b : Nat) (t : TypeId) (w : World) (h : Hid (w.heap[b]? = some (.cells (mcL c ev).toArray t (0, 0)))) :
    Calls Tryd.prog 65 #[.pointer (some ⟨b, 0, none⟩), .int .i64 s] w fun e w' => (∃ v, e = .returned v) ∧ w'.heap[b]? = some (.cells (mcL (c.to s) ev).toArray t (0, 0)) ∧ Below b w w' := by
  have hb : b < w.heap.size := heap_lt h.out
  obtain ⟨_, ⟨c4, c5, _⟩, ⟨d14, d15, d16, d17, d18, d19, d20, d21, d22⟩⟩ := mc_cells h.out
  have f4 := cl_froz h.out 4
  have f5 := cl_froz h.out 5
  have f14 := cl_froz h.out 14
  have f15 := cl_froz h.out 15
  have f16 := cl_froz h.out 16
  have f17 := cl_froz h.out 17
  have f18 := cl_froz h.out 18
  have f19 := cl_froz h.out 19
  have f20 := cl_froz h.out 20
  have f21 := cl_froz h.out 21
  have f22 := cl_froz h.out 22
  go_enter Tryd.func65, Tryd.ntmps65
  go_wp2_with fail
  go_end0
  refine ⟨⟨_, rfl⟩, ?_, ?_⟩
  · have H := mc_set (mc_set (mc_set (mc_set (mc_set (mc_set (mc_set (mc_set (mc_set (mc_set (mc_set h.out 4 (.int .i64 s)) 5 (.int .i64 0)) 14 (.bool false)) 15 (.string ⟨#[]⟩)) 16 (.int .i64 0)) 17 (.int .u8 0)) 18 (.int .i64 0)) 19 (.string ⟨#[]⟩)) 20 (.bool false)) 21 (.int .i64 0)) 22 (.bool false)
    simpa [mcL, Cl.cs, Cl.to] using H
  · exact below_set (below_set (below_set (below_set (below_set (below_set (below_set (below_set (below_set (below_set (below_set (Below.refl b w) 4 _) 5 _) 14 _) 15 _) 16 _) 17 _) 18 _) 19 _) 20 _) 21 _) 22 _

/-- A recessive bit comes to one that joins. -/
def Cl.join1 (c : Cl) : Cl := if c.n = 10 then ({ c with n := 11 } : Cl).to 1 else { c with n := c.n + 1 }

set_option maxRecDepth 100000 in
set_option maxHeartbeats 4000000 in
theorem mcJoin_one (c : Cl) (ev : List Value) (b : Nat) (t : TypeId) (w : World) (h : Hid (w.heap[b]? = some (.cells (mcL c ev).toArray t (0, 0)))) (h0 : 0 ≤ c.n) (h10 : c.n ≤ 10) :
    Calls Tryd.prog 40 #[.pointer (some ⟨b, 0, none⟩), .int .u8 49] w fun e w' => (∃ v, e = .returned v) ∧ w'.heap[b]? = some (.cells (mcL c.join1 ev).toArray t (0, 0)) ∧ Below b w w' := by
  have hb : b < w.heap.size := heap_lt h.out
  obtain ⟨_, ⟨_, c5, _⟩, _⟩ := mc_cells h.out
  have f5 := cl_froz h.out 5
  have H := mc_set h.out 5 (.int .i64 (c.n + 1))
  have HB := hide (show (w.setCell ⟨b, 5, none⟩ (.int .i64 (c.n + 1))).heap[b]? = some (.cells (mcL { c with n := c.n + 1 } ev).toArray t (0, 0)) by simpa [mcL, Cl.cs] using H)
  have Q1 := hide ((Below.refl b w).setCell (p := ⟨b, 5, none⟩) (Nat.le_refl _) (.int .i64 (c.n + 1)))
  clear H
  by_cases e : c.n = 10
  · have EJ := hide (show c.join1 = ({ c with n := c.n + 1 } : Cl).to 1 by unfold Cl.join1; rw [if_pos e, e]; rfl)
    have TO := hide (mcTo_any { c with n := c.n + 1 } ev 1 b t (w.setCell ⟨b, 5, none⟩ (.int .i64 (c.n + 1))) HB)
    rw [e] at c5
    have e11 : c.n + 1 = 11 := by omega
    rw [e11] at TO HB Q1
    clear h0 h10 e h e11
    go_enter Tryd.func40, Tryd.ntmps40
    go_wp2_with fail
    (with_reducible refine (TO.out).mono ?_)
    rintro e1 w1 ⟨⟨v, rfl⟩, hB, q1⟩
    go_wp2_with fail
    go_end0
    exact ⟨⟨_, rfl⟩, by rw [EJ.out]; exact hB, Q1.out.trans q1⟩
  · have EJ := hide (show c.join1 = { c with n := c.n + 1 } by unfold Cl.join1; rw [if_neg e])
    have hne : ¬ c.n + 1 = 11 := by omega
    clear h
    go_enter Tryd.func40, Tryd.ntmps40
    go_wp2_with fail
    go_end0
    exact ⟨⟨_, rfl⟩, by rw [EJ.out]; exact HB.out, Q1.out⟩

set_option maxRecDepth 100000 in
set_option maxHeartbeats 4000000 in
theorem mcIdle_one (b : Nat) (w : World) : Calls Tryd.prog 41 #[.pointer (some ⟨b, 0, none⟩), .int .u8 49] w fun e w' => (∃ v, e = .returned v) ∧ w' = w := by
  go_enter Tryd.func41, Tryd.ntmps41
  go_wp2_with fail
  go_end0
  exact ⟨⟨_, rfl⟩, rfl⟩

/-- What is done at a bit, by the state. -/
def stepsV : Array Value := #[.func (.func 40) #[] #[], .func (.func 41) #[] #[], .func (.func 42) #[] #[], .func (.func 43) #[] #[], .func (.func 44) #[] #[], .func (.func 45) #[] #[], .func (.func 46) #[] #[], .func (.func 47) #[] #[], .func (.func 48) #[] #[]]
set_option maxRecDepth 100000 in
theorem ctlSteps_any (w : World) : Calls Tryd.prog 24 #[] w fun e w' => e = .returned (.agg stepsV) ∧ Below w.heap.size w w' := by
  have R0 := hide (World.alloc_heap_new w (.cells (List.replicate 9 Value.nilFunc).toArray 70))
  have TR := hide (show (w.alloc (.cells (List.replicate 9 Value.nilFunc).toArray 70)).there w.heap.size 0 9 from there_heap (cs := List.replicate 9 Value.nilFunc) R0.out)
  have q0 : Below w.heap.size w (w.alloc (.cells (List.replicate 9 Value.nilFunc).toArray 70)) := (Below.refl _ _).alloc (Nat.le_refl _) _
  go_enter Tryd.func24, Tryd.ntmps24
  go_wp2_with (refine wpList_store_hid (by rfl) 70 (.tmp 0) (.tmp 1) (by rfl) w.heap.size 0 stepsV.toList (by rfl) (by rfl) (by exact TR.out) (by kernel_rfl) (by simp [Value.oneCell', stepsV]) ?_)
  intro w6 e6
  have R6 := hide (show w6.heap[w.heap.size]? = some (.cells stepsV.toList.toArray 70 (0, 0)) by rw [e6.out]; exact whole_heap stepsV.toList (xs := List.replicate 9 Value.nilFunc) R0.out rfl)
  have Q6 := hide (show Below w.heap.size w w6 by rw [e6.out]; exact q0.trans (below_setCells (g := w.heap.size) _ 0 _ (Nat.le_refl _)))
  go_wp2_with fail
  refine bodyPost_ret (results_cell_row (p := 0) (ty := 70) (by rfl) _ w6 w.heap.size 70 stepsV.toList.toArray (0, 0) _ (by rfl) R6.out Tryd.underlying70 (by rfl) (by kernel_rfl)) rfl ⟨rfl, Q6.out⟩
end Go.Proofs.YtkkkhbgjnfkpaaaDoor
