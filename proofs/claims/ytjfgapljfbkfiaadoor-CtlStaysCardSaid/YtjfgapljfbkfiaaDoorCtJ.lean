/- Walks of count.State; of a machine's flag, delim, hold (a recessive bit), begins (not one's own frame). -/
import Derived.Test.YtjfgapljfbkfiaaDoorMgCtC
namespace Go.Proofs.YtjfgapljfbkfiaaDoor
open Go.ChangeShapes Go.WideShapes Go.ChangeAt Go.RowKit
open FP (Fr)

/-- How one stands that is counted so: 1: active, 2: passive, 3: off. -/
def stOf (tc rc : Int) (off : Bool) : Int := if off = true then 3 else if 127 < tc ∨ 127 < rc then 2 else 1

set_option maxRecDepth 100000 in
set_option maxHeartbeats 4000000 in
theorem cntState_ok (tc rc : Int) (off : Bool) (rs : Int) (w : World) (h : cntB tc rc off rs = true) : Calls Tryd.prog 43 #[.agg #[.int .i64 tc, .int .i64 rc, .bool off, .int .i64 rs]] w fun e w' => e = .returned (.tuple #[.int .i64 (stOf tc rc off), .int .i64 0]) ∧ Below w.heap.size w w' := by
  have CR := hide (fun W => h ▸ cntRight_any tc rc off rs W)
  have q0 : Below w.heap.size w (w.alloc (.cells #[.int .i64 tc, .int .i64 rc, .bool off, .int .i64 rs] 27)) := (Below.refl _ _).alloc (Nat.le_refl _) _
  have B0 := hide (World.alloc_heap_new w (.cells #[.int .i64 tc, .int .i64 rc, .bool off, .int .i64 rs] 27))
  obtain ⟨c0, c1, c2, c3⟩ := four_cells B0.out
  have Q0 := hide q0
  obtain ⟨s, hs⟩ : ∃ s, s = stOf tc rc off := ⟨_, rfl⟩
  rw [← hs]
  unfold stOf at hs
  have HS := hide hs
  clear q0 h hs
  generalize hw0 : w.alloc (.cells #[.int .i64 tc, .int .i64 rc, .bool off, .int .i64 rs] 27) = w0 at *
  go_enter Tryd.func43, Tryd.ntmps43
  go_upto_region 1 with fail
  clear hw0
  go_wp2_with fail
  (with_reducible refine (CR.out _).mono ?_)
  rintro e1 w1 ⟨rfl, q1⟩
  have B1 := hide (heap_below B0.out q1)
  have Q1 := hide (below_next Q0.out Q0.out.size q1)
  clear q1 B0 Q0 CR c0 c1 c2 c3
  obtain ⟨c0, c1, c2, c3⟩ := four_cells B1.out
  cases off with
  | true =>
    have E := hide (show s = 3 by rw [HS.out]; rfl)
    go_wp2_with fail
    go_ret2
    exact ⟨by rw [E.out]; rfl, Q1.out⟩
  | false =>
    by_cases hp : 127 < tc ∨ 127 < rc
    · have E := hide (show s = 2 by rw [HS.out, if_neg (by simp), if_pos hp])
      rcases Int.lt_or_le 127 tc with h1 | h1
      · clear hp
        go_wp2_with fail
        go_ret2
        exact ⟨by rw [E.out]; rfl, Q1.out⟩
      · have h2 : 127 < rc := by omega
        clear hp
        go_wp2_with fail
        go_ret2
        exact ⟨by rw [E.out]; rfl, Q1.out⟩
    · have E := hide (show s = 1 by rw [HS.out, if_neg (by simp), if_neg hp])
      have h1 : tc ≤ 127 := by omega
      have h2 : rc ≤ 127 := by omega
      clear hp
      go_wp2_with fail
      go_ret2
      exact ⟨by rw [E.out]; rfl, Q1.out⟩

/-- A bit of the flag of an error. -/
def Cl.flag1 (c : Cl) : Cl := if c.n = 5 then c.to 4 else { c with n := c.n + 1 }
set_option maxRecDepth 100000 in
set_option maxHeartbeats 4000000 in
theorem mcFlag_any (c : Cl) (ev : List Value) (b : Nat) (t : TypeId) (bus : Int) (w : World) (h : Hid (w.heap[b]? = some (.cells (mcL c ev).toArray t (0, 0)))) (h0 : 0 ≤ c.n) (h5 : c.n ≤ 5) :
    Calls Tryd.prog 25 #[.pointer (some ⟨b, 0, none⟩), .int .u8 bus] w fun e w' => (∃ v, e = .returned v) ∧ w'.heap[b]? = some (.cells (mcL c.flag1 ev).toArray t (0, 0)) ∧ Below b w w' := by
  have hb : b < w.heap.size := heap_lt h.out
  obtain ⟨_, ⟨_, c5, _⟩, _⟩ := mc_cells h.out
  have f5 := cl_froz h.out 5
  have H := mc_set h.out 5 (.int .i64 (c.n + 1))
  have HB := hide (show (w.setCell ⟨b, 5, none⟩ (.int .i64 (c.n + 1))).heap[b]? = some (.cells (mcL { c with n := c.n + 1 } ev).toArray t (0, 0)) by simpa [mcL, Cl.cs] using H)
  have Q1 := hide (below_set (Below.refl b w) 5 (.int .i64 (c.n + 1)))
  clear H
  by_cases e : c.n = 5
  · have EJ := hide (show c.flag1 = ({ c with n := c.n + 1 } : Cl).to 4 by unfold Cl.flag1; rw [if_pos e]; rfl)
    have TO := hide (mcTo_any { c with n := c.n + 1 } ev 4 b t (w.setCell ⟨b, 5, none⟩ (.int .i64 (c.n + 1))) HB)
    rw [e] at c5
    have e11 : c.n + 1 = 6 := by omega
    rw [e11] at TO HB Q1
    clear h0 h5 e h e11
    go_enter Tryd.func25, Tryd.ntmps25
    go_wp2_with fail
    (with_reducible refine (TO.out).mono ?_)
    rintro e1 w1 ⟨⟨v, rfl⟩, hB, q1⟩
    go_wp2_with fail
    go_end0
    exact ⟨⟨_, rfl⟩, by rw [EJ.out]; exact hB, Q1.out.trans q1⟩
  · have EJ := hide (show c.flag1 = { c with n := c.n + 1 } by unfold Cl.flag1; rw [if_neg e])
    have hne : ¬ c.n + 1 = 6 := by omega
    clear h
    go_enter Tryd.func25, Tryd.ntmps25
    go_wp2_with fail
    go_end0
    exact ⟨⟨_, rfl⟩, by rw [EJ.out]; exact HB.out, Q1.out⟩

/-- A bit of the delimiter: whether it is dominant. -/
def Cl.delim1 (c : Cl) (low : Bool) : Cl := if low = true then c.to 3 else if c.n = 7 then c.to 6 else { c with n := c.n + 1 }
set_option maxRecDepth 100000 in
set_option maxHeartbeats 4000000 in
theorem mcDelim_low (c : Cl) (ev : List Value) (b : Nat) (t : TypeId) (w : World) (h : Hid (w.heap[b]? = some (.cells (mcL c ev).toArray t (0, 0)))) (h0 : 0 ≤ c.n) (h7 : c.n ≤ 7) :
    Calls Tryd.prog 27 #[.pointer (some ⟨b, 0, none⟩), .int .u8 48] w fun e w' => (∃ v, e = .returned v) ∧ w'.heap[b]? = some (.cells (mcL (c.delim1 true) ev).toArray t (0, 0)) ∧ Below b w w' := by
  have hb : b < w.heap.size := heap_lt h.out
  obtain ⟨_, ⟨_, c5, _⟩, _⟩ := mc_cells h.out
  have f5 := cl_froz h.out 5
  have H := mc_set h.out 5 (.int .i64 (c.n + 1))
  have HB := hide (show (w.setCell ⟨b, 5, none⟩ (.int .i64 (c.n + 1))).heap[b]? = some (.cells (mcL { c with n := c.n + 1 } ev).toArray t (0, 0)) by simpa [mcL, Cl.cs] using H)
  have Q1 := hide (below_set (Below.refl b w) 5 (.int .i64 (c.n + 1)))
  have TO := hide (mcTo_any { c with n := c.n + 1 } ev 3 b t (w.setCell ⟨b, 5, none⟩ (.int .i64 (c.n + 1))) HB)
  clear H h
  go_enter Tryd.func27, Tryd.ntmps27
  go_wp2_with fail
  (with_reducible refine (TO.out).mono ?_)
  rintro e1 w1 ⟨⟨v, rfl⟩, hB, q1⟩
  go_wp2_with fail
  go_end0
  exact ⟨⟨_, rfl⟩, hB, Q1.out.trans q1⟩
set_option maxRecDepth 100000 in
set_option maxHeartbeats 4000000 in
theorem mcDelim_high (c : Cl) (ev : List Value) (b : Nat) (t : TypeId) (w : World) (h : Hid (w.heap[b]? = some (.cells (mcL c ev).toArray t (0, 0)))) (h0 : 0 ≤ c.n) (h7 : c.n ≤ 7) :
    Calls Tryd.prog 27 #[.pointer (some ⟨b, 0, none⟩), .int .u8 49] w fun e w' => (∃ v, e = .returned v) ∧ w'.heap[b]? = some (.cells (mcL (c.delim1 false) ev).toArray t (0, 0)) ∧ Below b w w' := by
  have hb : b < w.heap.size := heap_lt h.out
  obtain ⟨_, ⟨_, c5, _⟩, _⟩ := mc_cells h.out
  have f5 := cl_froz h.out 5
  have H := mc_set h.out 5 (.int .i64 (c.n + 1))
  have HB := hide (show (w.setCell ⟨b, 5, none⟩ (.int .i64 (c.n + 1))).heap[b]? = some (.cells (mcL { c with n := c.n + 1 } ev).toArray t (0, 0)) by simpa [mcL, Cl.cs] using H)
  have Q1 := hide (below_set (Below.refl b w) 5 (.int .i64 (c.n + 1)))
  clear H
  by_cases e : c.n = 7
  · have EJ := hide (show c.delim1 false = ({ c with n := c.n + 1 } : Cl).to 6 by unfold Cl.delim1; rw [if_neg (by simp), if_pos e]; rfl)
    have TO := hide (mcTo_any { c with n := c.n + 1 } ev 6 b t (w.setCell ⟨b, 5, none⟩ (.int .i64 (c.n + 1))) HB)
    rw [e] at c5
    have e11 : c.n + 1 = 8 := by omega
    rw [e11] at TO HB Q1
    clear h0 h7 e h e11
    go_enter Tryd.func27, Tryd.ntmps27
    go_wp2_with fail
    (with_reducible refine (TO.out).mono ?_)
    rintro e1 w1 ⟨⟨v, rfl⟩, hB, q1⟩
    go_wp2_with fail
    go_end0
    exact ⟨⟨_, rfl⟩, by rw [EJ.out]; exact hB, Q1.out.trans q1⟩
  · have EJ := hide (show c.delim1 false = { c with n := c.n + 1 } by unfold Cl.delim1; rw [if_neg (by simp), if_neg e])
    have hne : ¬ c.n + 1 = 8 := by omega
    clear h
    go_enter Tryd.func27, Tryd.ntmps27
    go_wp2_with fail
    go_end0
    exact ⟨⟨_, rfl⟩, by rw [EJ.out]; exact HB.out, Q1.out⟩

/-- A recessive bit comes to one that holds. -/
def Cl.hold1 (c : Cl) : Cl := if c.n = 7 then c.to 1 else { c with n := c.n + 1 }

set_option maxRecDepth 100000 in
set_option maxHeartbeats 4000000 in
theorem mcHold_high (c : Cl) (ev : List Value) (b : Nat) (t : TypeId) (w : World) (h : Hid (w.heap[b]? = some (.cells (mcL c ev).toArray t (0, 0)))) (h0 : 0 ≤ c.n) (h7 : c.n ≤ 7) :
    Calls Tryd.prog 29 #[.pointer (some ⟨b, 0, none⟩), .int .u8 49] w fun e w' => (∃ v, e = .returned v) ∧ w'.heap[b]? = some (.cells (mcL c.hold1 ev).toArray t (0, 0)) ∧ Below b w w' := by
  have hb : b < w.heap.size := heap_lt h.out
  obtain ⟨_, ⟨_, c5, _⟩, _⟩ := mc_cells h.out
  have f5 := cl_froz h.out 5
  have H := mc_set h.out 5 (.int .i64 (c.n + 1))
  have HB := hide (show (w.setCell ⟨b, 5, none⟩ (.int .i64 (c.n + 1))).heap[b]? = some (.cells (mcL { c with n := c.n + 1 } ev).toArray t (0, 0)) by simpa [mcL, Cl.cs] using H)
  have Q1 := hide (below_set (Below.refl b w) 5 (.int .i64 (c.n + 1)))
  clear H
  by_cases e : c.n = 7
  · have EJ := hide (show c.hold1 = ({ c with n := c.n + 1 } : Cl).to 1 by unfold Cl.hold1; rw [if_pos e]; rfl)
    have TO := hide (mcTo_any { c with n := c.n + 1 } ev 1 b t (w.setCell ⟨b, 5, none⟩ (.int .i64 (c.n + 1))) HB)
    rw [e] at c5
    have e11 : c.n + 1 = 8 := by omega
    rw [e11] at TO HB Q1
    clear h0 h7 e h e11
    go_enter Tryd.func29, Tryd.ntmps29
    go_wp2_with fail
    (with_reducible refine (TO.out).mono ?_)
    rintro e1 w1 ⟨⟨v, rfl⟩, hB, q1⟩
    go_wp2_with fail
    go_end0
    exact ⟨⟨_, rfl⟩, by rw [EJ.out]; exact hB, Q1.out.trans q1⟩
  · have EJ := hide (show c.hold1 = { c with n := c.n + 1 } by unfold Cl.hold1; rw [if_neg e])
    have hne : ¬ c.n + 1 = 8 := by omega
    clear h
    go_enter Tryd.func29, Tryd.ntmps29
    go_wp2_with fail
    go_end0
    exact ⟨⟨_, rfl⟩, by rw [EJ.out]; exact HB.out, Q1.out⟩

/-- Another one's frame begins. -/
def Cl.begin0 (c : Cl) : Cl := { c.to 2 with last := 48, sn := 1, got := ⟨#[48]⟩, was := false }
set_option maxRecDepth 100000 in
set_option maxHeartbeats 4000000 in
theorem mcBegins_no (c : Cl) (ev : List Value) (b : Nat) (t : TypeId) (w : World) (h : Hid (w.heap[b]? = some (.cells (mcL c ev).toArray t (0, 0)))) :
    Calls Tryd.prog 39 #[.pointer (some ⟨b, 0, none⟩), .bool false] w fun e w' => (∃ v, e = .returned v) ∧ w'.heap[b]? = some (.cells (mcL c.begin0 ev).toArray t (0, 0)) ∧ Below b w w' := by
  have TO := hide (mcTo_any c ev 2 b t w h)
  clear h
  go_enter Tryd.func39, Tryd.ntmps39
  go_wp2_with fail
  (with_reducible refine (TO.out).mono ?_)
  rintro e1 w1 ⟨⟨v, rfl⟩, hB, q1⟩
  have HB := hide hB
  have Q1 := hide q1
  have hb : b < w1.heap.size := heap_lt hB
  obtain ⟨_, ⟨_, _, c6, _⟩, ⟨d14, d15, d16, d17, d18, d19, d20, d21, d22⟩⟩ := mc_cells hB
  have f6 := cl_froz hB 6
  have f14 := cl_froz hB 14
  have f17 := cl_froz hB 17
  have f18 := cl_froz hB 18
  have f19 := cl_froz hB 19
  clear hB q1 TO d15 d16 d20 d21 d22
  go_wp2_with fail
  go_end0
  refine ⟨⟨_, rfl⟩, ?_, ?_⟩
  · have H := mc_set (mc_set (mc_set (mc_set (mc_set HB.out 17 (.int .u8 48)) 18 (.int .i64 1)) 19 (.string ⟨#[48]⟩)) 14 (.bool false)) 6 (.bool false)
    simpa [mcL, Cl.cs, Cl.begin0, Cl.to] using H
  · exact below_set (below_set (below_set (below_set (below_set Q1.out 17 _) 18 _) 19 _) 14 _) 6 _
end Go.Proofs.YtjfgapljfbkfiaaDoor
