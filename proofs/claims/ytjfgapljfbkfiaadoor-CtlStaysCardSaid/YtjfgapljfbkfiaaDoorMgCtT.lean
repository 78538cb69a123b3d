/- The walk of a machine's counts, of one that is off. -/
import Derived.Test.YtjfgapljfbkfiaaDoorMgCtM
import Derived.Test.YtjfgapljfbkfiaaDoorMgCtR
namespace Go.Proofs.YtjfgapljfbkfiaaDoor
open Go.ChangeShapes Go.WideShapes Go.ChangeAt Go.RowKit Go.Maps
open FP (Fr)

/-- One that is off has counted. -/
def Cl.rest (c : Cl) (what : Int) : Cl := if what = 7 then { c with off := !(c.rs - 1 == 0), rs := c.rs - 1 } else c
theorem cl_off {c : Cl} (h1 : c.tc = 0) (h2 : c.rc = 0) (h3 : c.off = true) : c = { c with tc := 0, rc := 0, off := true, rs := c.rs } := by
  obtain ⟨tc, rc, off, rs, st, n, was, hard, has, f, sends, out, at_, last, sn, got, en, tail, good⟩ := c
  dsimp only at h1 h2 h3
  subst h1 h2 h3
  rfl
theorem restL_right (what rs : Int) (h1 : 1 ≤ rs) (h2 : rs ≤ 128) : ∃ tc' rc' off' rs', restL what rs = cnL tc' rc' off' rs' ∧ cntB tc' rc' off' rs' = true := by
  unfold restL
  by_cases h : what = 7
  · rw [if_pos h]
    refine ⟨_, _, _, _, rfl, ?_⟩
    by_cases e : rs - 1 = 0
    · rw [show (rs - 1 == 0) = true by simpa using e, e]
      decide
    · rw [show (rs - 1 == 0) = false by simpa using e]
      unfold cntB
      simp
      omega
  · rw [if_neg h]
    refine ⟨_, _, _, _, rfl, ?_⟩
    unfold cntB
    simp
    omega

set_option maxRecDepth 100000 in
set_option maxHeartbeats 8000000 in
theorem mcCounts_off (c : Cl) (ev : List Value) (what : Int) (b : Nat) (t : TypeId) (w : World) (h : Hid (w.heap[b]? = some (.cells (mcL c ev).toArray t (0, 0)))) (hoff : c.off = true) (htc : c.tc = 0) (hrc : c.rc = 0) (hr1 : 1 ≤ c.rs) (hr2 : c.rs ≤ 128) (fid : Nat) (hf : stepF what = some fid) (hw : 0 ≤ what ∧ what ≤ 1000) :
    Calls Tryd.prog 42 #[.pointer (some ⟨b, 0, none⟩), .int .i64 what] w fun e w' => e = .returned (.int .i64 (stOf (c.rest what).tc (c.rest what).rc (c.rest what).off)) ∧ w'.heap[b]? = some (.cells (mcL (c.rest what) ev).toArray t (0, 0)) ∧ Below b w w' := by
  have hb : b < w.heap.size := heap_lt h.out
  obtain ⟨tc', rc', off', rs', hn, hr⟩ := restL_right what c.rs hr1 hr2
  have sp := cntStep_off what fid hf hw c.rs w hr1 hr2
  rw [hn] at sp
  have SP := hide (show Calls Tryd.prog 56 #[.agg #[.int .i64 0, .int .i64 0, .bool true, .int .i64 c.rs], .int .i64 what] w _ from sp)
  clear sp
  have HCC := hide (show (c.rest what).tc = tc' ∧ (c.rest what).rc = rc' ∧ (c.rest what).off = off' ∧ (c.rest what).rs = rs' ∧ c.rest what = { c with tc := tc', rc := rc', off := off', rs := rs' } from by
    unfold restL at hn
    unfold Cl.rest
    by_cases h : what = 7
    · rw [if_pos h] at hn ⊢
      simp only [cnL, List.cons.injEq, Value.int.injEq, Value.bool.injEq, and_true, true_and] at hn
      obtain ⟨rfl, rfl, rfl, rfl⟩ := hn
      exact ⟨htc, hrc, rfl, rfl, by rw [htc, hrc]⟩
    · rw [if_neg h] at hn ⊢
      simp only [cnL, List.cons.injEq, Value.int.injEq, Value.bool.injEq, and_true, true_and] at hn
      obtain ⟨rfl, rfl, rfl, rfl⟩ := hn
      exact ⟨htc, hrc, hoff, rfl, cl_off htc hrc hoff⟩)
  have SS := hide (fun W => cntState_ok tc' rc' off' rs' W hr)
  obtain ⟨e1, e2, e3, e4, e5⟩ := HCC.out
  rw [e1, e2, e3]
  have HC5 := hide e5
  obtain ⟨c0, c1, c2, c3⟩ : w.cell? ⟨b, 0, none⟩ = some (.int .i64 0) ∧ w.cell? ⟨b, 1, none⟩ = some (.int .i64 0) ∧ w.cell? ⟨b, 2, none⟩ = some (.bool true) ∧ w.cell? ⟨b, 3, none⟩ = some (.int .i64 c.rs) := by
    obtain ⟨⟨c0, c1, c2, c3⟩, _⟩ := mc_cells h.out
    rw [htc] at c0
    rw [hrc] at c1
    rw [hoff] at c2
    exact ⟨c0, c1, c2, c3⟩
  clear e1 e2 e3 e4 e5 HCC hn hr hw hf
  generalize stOf tc' rc' off' = sv at *
  go_enter Tryd.func42, Tryd.ntmps42
  go_wp2_with fail
  (with_reducible refine (SP.out).mono ?_)
  rintro e6 w1 ⟨rfl, q1⟩
  have B1 := hide (heap_below h.out q1)
  have TB := hide (there_sub (there_heap B1.out) 0 4 (by simp [mcL, Cl.cs]))
  clear c0 c1 c2 c3 SP
  go_wp2_with (refine wpList_store_hid (by rfl) 27 (.tmp 20) (.tmp 16) (by rfl) b 0 (cnL tc' rc' off' rs') (by rfl) (by rfl) (by exact TB.out) (by kernel_rfl) (by simp [Value.oneCell', cnL]) ?_)
  intro w2 e7
  have B2 := hide (show w2.heap[b]? = some (.cells (mcL (c.rest what) ev).toArray t (0, 0)) by
    rw [e7.out, HC5.out]
    have := set_heap (cnL tc' rc' off' rs') (mcL c ev) 0 w1 B1.out
    simpa [mcL, Cl.cs, cnL, setL] using this)
  have Q2 := hide (show Below b w w2 by rw [e7.out]; exact (q1.mono (Nat.le_of_lt hb)).trans (below_setCells _ _ _ (Nat.le_refl _)))
  have S2 := hide (SS.out w2)
  obtain ⟨d0, d1, d2, d3⟩ : w2.cell? ⟨b, 0, none⟩ = some (.int .i64 tc') ∧ w2.cell? ⟨b, 1, none⟩ = some (.int .i64 rc') ∧ w2.cell? ⟨b, 2, none⟩ = some (.bool off') ∧ w2.cell? ⟨b, 3, none⟩ = some (.int .i64 rs') := by
    obtain ⟨⟨d0, d1, d2, d3⟩, _⟩ := mc_cells B2.out
    rw [HC5.out] at d0 d1 d2 d3
    exact ⟨d0, d1, d2, d3⟩
  clear e7 TB B1 q1 SS
  go_wp2_with fail
  (with_reducible refine (S2.out).mono ?_)
  rintro e8 w3 ⟨rfl, q3⟩
  have hb2 : b < w2.heap.size := heap_lt B2.out
  have B3 := hide (heap_below B2.out q3)
  have Q3 := hide (Q2.out.trans (q3.mono (Nat.le_of_lt hb2)))
  clear q3 B2 Q2 S2 d0 d1 d2 d3
  go_wp2_with fail
  go_ret
  exact ⟨rfl, B3.out, Q3.out⟩
end Go.Proofs.YtjfgapljfbkfiaaDoor

/- The walk of a machine's off. -/
namespace Go.Proofs.YtjfgapljfbkfiaaDoor
open Go.ChangeShapes Go.WideShapes Go.ChangeAt Go.RowKit Go.Maps
open FP (Fr)

/-- A recessive bit comes to one that is off. -/
def Cl.offIdle (d : Cl) : Cl := if stOf d.tc d.rc d.off = 3 then d else d.to 1
def Cl.off1 (c : Cl) : Cl := if c.n = 10 then (({ c with n := 0 } : Cl).rest 7).offIdle else { c with n := c.n + 1 }
set_option maxRecDepth 100000 in
set_option maxHeartbeats 4000000 in
theorem mcOff_low (c : Cl) (ev : List Value) (b : Nat) (t : TypeId) (w : World) (h : Hid (w.heap[b]? = some (.cells (mcL c ev).toArray t (0, 0)))) (h0 : 0 ≤ c.n) (h10 : c.n ≤ 10) :
    Calls Tryd.prog 30 #[.pointer (some ⟨b, 0, none⟩), .int .u8 48] w fun e w' => (∃ v, e = .returned v) ∧ w'.heap[b]? = some (.cells (mcL { c with n := 0 } ev).toArray t (0, 0)) ∧ Below b w w' := by
  obtain ⟨_, ⟨_, c5, _⟩, _⟩ := mc_cells h.out
  have f5 := cl_froz h.out 5
  have H := hide (mc_set (mc_set h.out 5 (.int .i64 (c.n + 1))) 5 (.int .i64 0))
  have Q1 := hide (below_set (below_set (Below.refl b w) 5 (.int .i64 (c.n + 1))) 5 (.int .i64 0))
  clear h
  go_enter Tryd.func30, Tryd.ntmps30
  go_wp2_with fail
  refine bodyPost_ret (results_none (by rfl) _ _ _) rfl ⟨⟨_, rfl⟩, ?_, Q1.out⟩
  have := H.out
  simpa [mcL, Cl.cs] using this

set_option maxRecDepth 100000 in
set_option maxHeartbeats 8000000 in
theorem mcOff_high (c : Cl) (ev : List Value) (b : Nat) (t : TypeId) (w : World) (h : Hid (w.heap[b]? = some (.cells (mcL c ev).toArray t (0, 0)))) (h0 : 0 ≤ c.n) (h10 : c.n ≤ 10) (hoff : c.off = true) (htc : c.tc = 0) (hrc : c.rc = 0) (hr1 : 1 ≤ c.rs) (hr2 : c.rs ≤ 128) :
    Calls Tryd.prog 30 #[.pointer (some ⟨b, 0, none⟩), .int .u8 49] w fun e w' => (∃ v, e = .returned v) ∧ w'.heap[b]? = some (.cells (mcL c.off1 ev).toArray t (0, 0)) ∧ Below b w w' := by
  obtain ⟨_, ⟨_, c5, _⟩, _⟩ := mc_cells h.out
  have f5 := cl_froz h.out 5
  obtain ⟨fe, hfe⟩ : ∃ fe, fe = c.off1 := ⟨_, rfl⟩
  rw [← hfe]
  have HFE := hide hfe
  clear hfe
  by_cases e : c.n = 10
  · have HB := hide (show ((w.setCell ⟨b, 5, none⟩ (.int .i64 11)).setCell ⟨b, 5, none⟩ (.int .i64 0)).heap[b]? = some (.cells (mcL { c with n := 0 } ev).toArray t (0, 0)) by
      have := mc_set (mc_set h.out 5 (.int .i64 11)) 5 (.int .i64 0)
      simpa [mcL, Cl.cs] using this)
    have Q1 := hide (below_set (below_set (Below.refl b w) 5 (.int .i64 11)) 5 (.int .i64 0))
    have CO := hide (mcCounts_off { c with n := 0 } ev 7 b t ((w.setCell ⟨b, 5, none⟩ (.int .i64 11)).setCell ⟨b, 5, none⟩ (.int .i64 0)) HB hoff htc hrc hr1 hr2 87 rfl (by decide))
    have EF := hide (show fe = (({ c with n := 0 } : Cl).rest 7).offIdle by rw [HFE.out]; unfold Cl.off1; rw [if_pos e])
    rw [e] at c5
    clear h0 h10 e h HFE hoff htc hrc hr1 hr2 HB
    generalize ({ c with n := 0 } : Cl).rest 7 = d at *
    go_enter Tryd.func30, Tryd.ntmps30
    go_wp2_with fail
    (with_reducible refine (CO.out).mono ?_)
    rintro e3 w3 ⟨rfl, hB, q3⟩
    have B4 := hide hB
    have Q4 := hide (Q1.out.trans q3)
    clear hB q3 CO Q1 c5 f5
    have T1 := hide (mcTo_any d ev 1 b t w3 B4)
    unfold Cl.offIdle at EF
    generalize stOf d.tc d.rc d.off = s at *
    by_cases h3 : s = 3
    · have E2 := hide (show fe = d by rw [EF.out, if_pos h3])
      subst h3
      clear EF T1
      go_wp2_with fail
      go_end0
      exact ⟨⟨_, rfl⟩, by rw [E2.out]; exact B4.out, Q4.out⟩
    · have E2 := hide (show fe = d.to 1 by rw [EF.out, if_neg h3])
      have hs3 : (s != 3) = true := by simpa using h3
      clear EF
      go_wp2_with fail
      (with_reducible refine (T1.out).mono ?_)
      rintro e4 w4 ⟨⟨v, rfl⟩, hB, q4⟩
      go_wp2_with fail
      go_end0
      exact ⟨⟨_, rfl⟩, by rw [E2.out]; exact hB, Q4.out.trans q4⟩
  · have EF := hide (show fe = { c with n := c.n + 1 } by rw [HFE.out]; unfold Cl.off1; rw [if_neg e])
    have H := hide (mc_set h.out 5 (.int .i64 (c.n + 1)))
    have Q1 := hide (below_set (Below.refl b w) 5 (.int .i64 (c.n + 1)))
    have hlt : c.n + 1 < 11 := by omega
    clear h HFE
    go_enter Tryd.func30, Tryd.ntmps30
    go_wp2_with fail
    refine bodyPost_ret (results_none (by rfl) _ _ _) rfl ⟨⟨_, rfl⟩, ?_, Q1.out⟩
    rw [EF.out]
    have := H.out
    simpa [mcL, Cl.cs] using this
end Go.Proofs.YtjfgapljfbkfiaaDoor
