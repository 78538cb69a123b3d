/- The walk of a machine's counts, of one that is off. -/
import Derived.Test.YthkilodnghiocaaGreatDoorMgCtM
namespace Go.Proofs.YthkilodnghiocaaGreatDoor
open Go.ChangeShapes Go.WideShapes Go.ChangeAt Go.RowKit Go.Maps
open FP (Fr)

/-- One that is off has counted. -/
def Cl.rest (c : Cl) (what : Int) : Cl := if what = 7 then { c with off := !(c.rs - 1 == 0), rs := c.rs - 1 } else c
theorem cl_off {c : Cl} (h1 : c.tc = 0) (h2 : c.rc = 0) (h3 : c.off = true) : c = { c with tc := 0, rc := 0, off := true, rs := c.rs } := by
  obtain ⟨tc, rc, off, rs, st, n, was, hard, has, f, sends, out, at_, last, sn, got, en, tail, good⟩ := c
  dsimp only at h1 h2 h3
  subst h1 h2 h3
  rfl
theorem restL_right (what rs : Int) (h1 : 1 ≤ rs) (h2 : rs ≤ 128) : ∃ tc' rc' off' rs', restL what rs = cnL tc' rc' off' rs' ∧ cntB tc' rc' off' rs' = true := by
  unfold restL
  by_cases h : what = 7
  · rw [if_pos h]
    refine ⟨_, _, _, _, rfl, ?_⟩
    by_cases e : rs - 1 = 0
    · rw [show (rs - 1 == 0) = true by simpa using e, e]
      decide
    · rw [show (rs - 1 == 0) = false by simpa using e]
      unfold cntB
      simp
      omega
  · rw [if_neg h]
    refine ⟨_, _, _, _, rfl, ?_⟩
    unfold cntB
    simp
    omega

set_option maxRecDepth 100000 in
set_option maxHeartbeats 8000000 in
theorem mcCounts_off (c : Cl) (ev : List Value) (what : Int) (b : Nat) (t : TypeId) (w : World) (h : Hid (w.heap[b]? = some (.cells (mcL c ev).toArray t (0, 0)))) (hoff : c.off = true) (htc : c.tc = 0) (hrc : c.rc = 0) (hr1 : 1 ≤ c.rs) (hr2 : c.rs ≤ 128) (fid : Nat) (hf : stepF what = some fid) (hw : 0 ≤ what ∧ what ≤ 1000) :
    Calls Tryz.prog 100 #[.pointer (some ⟨b, 0, none⟩), .int .i64 what] w fun e w' => e = .returned (.int .i64 (stOf (c.rest what).tc (c.rest what).rc (c.rest what).off)) ∧ w'.heap[b]? = some (.cells (mcL (c.rest what) ev).toArray t (0, 0)) ∧ Below b w w' := by
  have hb : b < w.heap.size := heap_lt h.out
  obtain ⟨tc', rc', off', rs', hn, hr⟩ := restL_right what c.rs hr1 hr2
  have sp := cntStep_off what fid hf hw c.rs w hr1 hr2
  rw [hn] at sp
  have SP := hide (show Calls Tryz.prog 109 #[.agg #[.int .i64 0, .int .i64 0, .bool true, .int .i64 c.rs], .int .i64 what] w _ from sp)
  clear sp
  have HCC := hide (show (c.rest what).tc = tc' ∧ (c.rest what).rc = rc' ∧ (c.rest what).off = off' ∧ (c.rest what).rs = rs' ∧ c.rest what = { c with tc := tc', rc := rc', off := off', rs := rs' } from by
    unfold restL at hn
    unfold Cl.rest
    by_cases h : what = 7
    · rw [if_pos h] at hn ⊢
      simp only [cnL, List.cons.injEq, Value.int.injEq, Value.bool.injEq, and_true, true_and] at hn
      obtain ⟨rfl, rfl, rfl, rfl⟩ := hn
      exact ⟨htc, hrc, rfl, rfl, by rw [htc, hrc]⟩
    · rw [if_neg h] at hn ⊢
      simp only [cnL, List.cons.injEq, Value.int.injEq, Value.bool.injEq, and_true, true_and] at hn
      obtain ⟨rfl, rfl, rfl, rfl⟩ := hn
      exact ⟨htc, hrc, hoff, rfl, cl_off htc hrc hoff⟩)
  have SS := hide (fun W => cntState_ok tc' rc' off' rs' W hr)
  obtain ⟨e1, e2, e3, e4, e5⟩ := HCC.out
  rw [e1, e2, e3]
  have HC5 := hide e5
  obtain ⟨c0, c1, c2, c3⟩ : w.cell? ⟨b, 0, none⟩ = some (.int .i64 0) ∧ w.cell? ⟨b, 1, none⟩ = some (.int .i64 0) ∧ w.cell? ⟨b, 2, none⟩ = some (.bool true) ∧ w.cell? ⟨b, 3, none⟩ = some (.int .i64 c.rs) := by
    obtain ⟨⟨c0, c1, c2, c3⟩, _⟩ := mc_cells h.out
    rw [htc] at c0
    rw [hrc] at c1
    rw [hoff] at c2
    exact ⟨c0, c1, c2, c3⟩
  clear e1 e2 e3 e4 e5 HCC hn hr hw hf
  generalize stOf tc' rc' off' = sv at *
  go_enter Tryz.func100, Tryz.ntmps100
  go_wp2_with fail
  (with_reducible refine (SP.out).mono ?_)
  rintro e6 w1 ⟨rfl, q1⟩
  have B1 := hide (heap_below h.out q1)
  have TB := hide (there_sub (there_heap B1.out) 0 4 (by simp [mcL, Cl.cs]))
  clear c0 c1 c2 c3 SP
  go_wp2_with (refine wpList_store_hid (by rfl) 69 (.tmp 20) (.tmp 16) (by rfl) b 0 (cnL tc' rc' off' rs') (by rfl) (by rfl) (by exact TB.out) (by kernel_rfl) (by simp [Value.oneCell', cnL]) ?_)
  intro w2 e7
  have B2 := hide (show w2.heap[b]? = some (.cells (mcL (c.rest what) ev).toArray t (0, 0)) by
    rw [e7.out, HC5.out]
    have := set_heap (cnL tc' rc' off' rs') (mcL c ev) 0 w1 B1.out
    simpa [mcL, Cl.cs, cnL, setL] using this)
  have Q2 := hide (show Below b w w2 by rw [e7.out]; exact (q1.mono (Nat.le_of_lt hb)).trans (below_setCells _ _ _ (Nat.le_refl _)))
  have S2 := hide (SS.out w2)
  obtain ⟨d0, d1, d2, d3⟩ : w2.cell? ⟨b, 0, none⟩ = some (.int .i64 tc') ∧ w2.cell? ⟨b, 1, none⟩ = some (.int .i64 rc') ∧ w2.cell? ⟨b, 2, none⟩ = some (.bool off') ∧ w2.cell? ⟨b, 3, none⟩ = some (.int .i64 rs') := by
    obtain ⟨⟨d0, d1, d2, d3⟩, _⟩ := mc_cells B2.out
    rw [HC5.out] at d0 d1 d2 d3
    exact ⟨d0, d1, d2, d3⟩
  clear e7 TB B1 q1 SS
  go_wp2_with fail
  (with_reducible refine (S2.out).mono ?_)
  rintro e8 w3 ⟨rfl, q3⟩
  have hb2 : b < w2.heap.size := heap_lt B2.out
  have B3 := hide (heap_below B2.out q3)
  have Q3 := hide (Q2.out.trans (q3.mono (Nat.le_of_lt hb2)))
  clear q3 B2 Q2 S2 d0 d1 d2 d3
  go_wp2_with fail
  go_ret
  exact ⟨rfl, B3.out, Q3.out⟩
end Go.Proofs.YthkilodnghiocaaGreatDoor

/- The walk of a machine's off. -/
namespace Go.Proofs.YthkilodnghiocaaGreatDoor
open Go.ChangeShapes Go.WideShapes Go.ChangeAt Go.RowKit Go.Maps
open FP (Fr)

/-- A recessive bit comes to one that is off. -/
def Cl.offIdle (d : Cl) : Cl := if stOf d.tc d.rc d.off = 3 then d else d.to 1
def Cl.off1 (c : Cl) : Cl := if c.n = 10 then (({ c with n := 0 } : Cl).rest 7).offIdle else { c with n := c.n + 1 }
set_option maxRecDepth 100000 in
set_option maxHeartbeats 4000000 in
theorem mcOff_low (c : Cl) (ev : List Value) (b : Nat) (t : TypeId) (w : World) (h : Hid (w.heap[b]? = some (.cells (mcL c ev).toArray t (0, 0)))) (h0 : 0 ≤ c.n) (h10 : c.n ≤ 10) :
    Calls Tryz.prog 86 #[.pointer (some ⟨b, 0, none⟩), .int .u8 48] w fun e w' => (∃ v, e = .returned v) ∧ w'.heap[b]? = some (.cells (mcL { c with n := 0 } ev).toArray t (0, 0)) ∧ Below b w w' := by
  obtain ⟨_, ⟨_, c5, _⟩, _⟩ := mc_cells h.out
  have f5 := cl_froz h.out 5
  have H := hide (mc_set (mc_set h.out 5 (.int .i64 (c.n + 1))) 5 (.int .i64 0))
  have Q1 := hide (below_set (below_set (Below.refl b w) 5 (.int .i64 (c.n + 1))) 5 (.int .i64 0))
  clear h
  go_enter Tryz.func86, Tryz.ntmps86
  go_wp2_with fail
  refine bodyPost_ret (results_none (by rfl) _ _ _) rfl ⟨⟨_, rfl⟩, ?_, Q1.out⟩
  have := H.out
  simpa [mcL, Cl.cs] using this

set_option maxRecDepth 100000 in
set_option maxHeartbeats 8000000 in
theorem mcOff_high (c : Cl) (ev : List Value) (b : Nat) (t : TypeId) (w : World) (h : Hid (w.heap[b]? = some (.cells (mcL c ev).toArray t (0, 0)))) (h0 : 0 ≤ c.n) (h10 : c.n ≤ 10) (hoff : c.off = true) (htc : c.tc = 0) (hrc : c.rc = 0) (hr1 : 1 ≤ c.rs) (hr2 : c.rs ≤ 128) :
    Calls Tryz.prog 86 #[.pointer (some ⟨b, 0, none⟩), .int .u8 49] w fun e w' => (∃ v, e = .returned v) ∧ w'.heap[b]? = some (.cells (mcL c.off1 ev).toArray t (0, 0)) ∧ Below b w w' := by
  obtain ⟨_, ⟨_, c5, _⟩, _⟩ := mc_cells h.out
  have f5 := cl_froz h.out 5
  obtain ⟨fe, hfe⟩ : ∃ fe, fe = c.off1 := ⟨_, rfl⟩
  rw [← hfe]
  have HFE := hide hfe
  clear hfe
  by_cases e : c.n = 10
  · have HB := hide (show ((w.setCell ⟨b, 5, none⟩ (.int .i64 11)).setCell ⟨b, 5, none⟩ (.int .i64 0)).heap[b]? = some (.cells (mcL { c with n := 0 } ev).toArray t (0, 0)) by
      have := mc_set (mc_set h.out 5 (.int .i64 11)) 5 (.int .i64 0)
      simpa [mcL, Cl.cs] using this)
    have Q1 := hide (below_set (below_set (Below.refl b w) 5 (.int .i64 11)) 5 (.int .i64 0))
    have CO := hide (mcCounts_off { c with n := 0 } ev 7 b t ((w.setCell ⟨b, 5, none⟩ (.int .i64 11)).setCell ⟨b, 5, none⟩ (.int .i64 0)) HB hoff htc hrc hr1 hr2 125 rfl (by decide))
    have EF := hide (show fe = (({ c with n := 0 } : Cl).rest 7).offIdle by rw [HFE.out]; unfold Cl.off1; rw [if_pos e])
    rw [e] at c5
    clear h0 h10 e h HFE hoff htc hrc hr1 hr2 HB
    generalize ({ c with n := 0 } : Cl).rest 7 = d at *
    go_enter Tryz.func86, Tryz.ntmps86
    go_wp2_with fail
    (with_reducible refine (CO.out).mono ?_)
    rintro e3 w3 ⟨rfl, hB, q3⟩
    have B4 := hide hB
    have Q4 := hide (Q1.out.trans q3)
    clear hB q3 CO Q1 c5 f5
    have T1 := hide (mcTo_any d ev 1 b t w3 B4)
    unfold Cl.offIdle at EF
    generalize stOf d.tc d.rc d.off = s at *
    by_cases h3 : s = 3
    · have E2 := hide (show fe = d by rw [EF.out, if_pos h3])
      subst h3
      clear EF T1
      go_wp2_with fail
      go_end0
      exact ⟨⟨_, rfl⟩, by rw [E2.out]; exact B4.out, Q4.out⟩
    · have E2 := hide (show fe = d.to 1 by rw [EF.out, if_neg h3])
      have hs3 : (s != 3) = true := by simpa using h3
      clear EF
      go_wp2_with fail
      (with_reducible refine (T1.out).mono ?_)
      rintro e4 w4 ⟨⟨v, rfl⟩, hB, q4⟩
      go_wp2_with fail
      go_end0
      exact ⟨⟨_, rfl⟩, by rw [E2.out]; exact hB, Q4.out.trans q4⟩
  · have EF := hide (show fe = { c with n := c.n + 1 } by rw [HFE.out]; unfold Cl.off1; rw [if_neg e])
    have H := hide (mc_set h.out 5 (.int .i64 (c.n + 1)))
    have Q1 := hide (below_set (Below.refl b w) 5 (.int .i64 (c.n + 1)))
    have hlt : c.n + 1 < 11 := by omega
    clear h HFE
    go_enter Tryz.func86, Tryz.ntmps86
    go_wp2_with fail
    refine bodyPost_ret (results_none (by rfl) _ _ _) rfl ⟨⟨_, rfl⟩, ?_, Q1.out⟩
    rw [EF.out]
    have := H.out
    simpa [mcL, Cl.cs] using this
end Go.Proofs.YthkilodnghiocaaGreatDoor

/- The walk of a machine's ends: a dominant bit; the end of another one's frame. -/
namespace Go.Proofs.YthkilodnghiocaaGreatDoor
open Go.ChangeShapes Go.WideShapes Go.ChangeAt Go.RowKit Go.Maps
open FP (Fr)

set_option maxRecDepth 100000 in
set_option maxHeartbeats 4000000 in
theorem mcEnds_low (c : Cl) (ev : List Value) (b : Nat) (t : TypeId) (w : World) (h : Hid (w.heap[b]? = some (.cells (mcL c ev).toArray t (0, 0)))) :
    Calls Tryz.prog 107 #[.pointer (some ⟨b, 0, none⟩), .bool true] w fun e w' => (∃ v, e = .returned v) ∧ w'.heap[b]? = some (.cells (mcL { c.to 3 with hard := true } ev).toArray t (0, 0)) ∧ Below b w w' := by
  obtain ⟨_, _, ⟨c14, _⟩⟩ := mc_cells h.out
  have TO := hide (mcTo_any c ev 6 b t w h)
  clear h
  go_enter Tryz.func107, Tryz.ntmps107
  go_wp2_with fail
  (with_reducible refine (TO.out).mono ?_)
  rintro e1 w1 ⟨⟨v, rfl⟩, hB, q1⟩
  have T3 := hide (mcTo_any (c.to 6) ev 3 b t w1 (hide hB))
  have Q1 := hide q1
  clear TO c14 hB q1
  go_wp2_with fail
  (with_reducible refine (T3.out).mono ?_)
  rintro e2 w2 ⟨⟨v, rfl⟩, hB, q2⟩
  obtain ⟨_, ⟨_, _, _, c7, _⟩, _⟩ := mc_cells hB
  have f7 := cl_froz hB 7
  have H := hide (mc_set hB 7 (.bool true))
  have Q2 := hide (below_set (Q1.out.trans q2) 7 (.bool true))
  clear hB q2 T3
  go_wp2_with fail
  go_end0
  refine ⟨⟨_, rfl⟩, ?_, Q2.out⟩
  have := H.out
  simpa [mcL, Cl.cs, Cl.to] using this

set_option maxRecDepth 100000 in
set_option maxHeartbeats 4000000 in
theorem mcEnds_came (c : Cl) (ev : List Value) (b : Nat) (t : TypeId) (w : World) (h : Hid (w.heap[b]? = some (.cells (mcL c ev).toArray t (0, 0)))) (hs : c.sends = false) :
    Calls Tryz.prog 107 #[.pointer (some ⟨b, 0, none⟩), .bool false] w fun e w' => (∃ v, e = .returned v) ∧ w'.heap[b]? = some (.cells (mcL (c.to 6) ev).toArray t (0, 0)) ∧ Below b w w' := by
  obtain ⟨_, _, ⟨c14, _⟩⟩ := mc_cells h.out
  rw [hs] at c14
  have TO := hide (mcTo_any c ev 6 b t w h)
  clear h hs
  go_enter Tryz.func107, Tryz.ntmps107
  go_wp2_with fail
  (with_reducible refine (TO.out).mono ?_)
  rintro e1 w1 ⟨⟨v, rfl⟩, hB, q1⟩
  go_wp2_with fail
  go_end0
  exact ⟨⟨_, rfl⟩, hB, q1⟩
end Go.Proofs.YthkilodnghiocaaGreatDoor

/- The walk of a machine's ends: the end of one's own frame. -/
namespace Go.Proofs.YthkilodnghiocaaGreatDoor
open Go.ChangeShapes Go.WideShapes Go.ChangeAt Go.RowKit Go.Maps
open FP (Fr)

theorem mc_fr {W : World} {B : Nat} {c : Cl} {ev : List Value} {t : TypeId} {fz : Nat × Nat} (h : W.heap[B]? = some (.cells (mcL c ev).toArray t fz)) :
    W.cell? ⟨B, 9, none⟩ = some (.int .u32 c.f.id) ∧ W.cell? ⟨B, 10, none⟩ = some (.bool c.f.ext) ∧ W.cell? ⟨B, 11, none⟩ = some (.bool c.f.rem) ∧ W.cell? ⟨B, 12, none⟩ = some (.int .i64 c.f.dlc) ∧ W.cell? ⟨B, 13, none⟩ = some (.string c.f.data) := by
  simp [World.cell?, h, mcL, Cl.cs]
/-- One's own frame is sent. -/
def Cl.sent (c : Cl) : Cl := { (c.to 6).count 1 with has := false, f := zFr }

set_option maxRecDepth 100000 in
set_option maxHeartbeats 8000000 in
theorem mcEnds_sent (c : Cl) (ev : List Value) (b : Nat) (t : TypeId) (w : World) (h : Hid (w.heap[b]? = some (.cells (mcL c ev).toArray t (0, 0)))) (hev : ev.length = 7) (hs : c.sends = true) (hoff : c.off = false) (hrs : c.rs = 0) (hc : cntB c.tc c.rc false 0 = true) :
    Calls Tryz.prog 107 #[.pointer (some ⟨b, 0, none⟩), .bool false] w fun e w' => (∃ v, e = .returned v) ∧ w'.heap[b]? = some (.cells (mcL c.sent (evL 1 c.f 0)).toArray t (0, 0)) ∧ Below b w w' := by
  obtain ⟨_, _, ⟨c14, _⟩⟩ := mc_cells h.out
  rw [hs] at c14
  have TO := hide (mcTo_any c ev 6 b t w h)
  have CC := hide (fun W hh => mcCounts_on (c.to 6) ev 1 b t W hh hoff hrs hc (by decide))
  obtain ⟨d, hd⟩ : ∃ d, d = (c.to 6).count 1 := ⟨_, rfl⟩
  have HF := hide (show d.f = c.f by rw [hd]; unfold Cl.count; split <;> rfl)
  have HS := hide (show c.sent = { d with has := false, f := zFr } by rw [hd]; rfl)
  rw [← hd] at CC
  obtain ⟨s, hs2⟩ : ∃ s, s = c.sent := ⟨_, rfl⟩
  rw [← hs2] at HS ⊢
  clear h hs hoff hrs hc hd hs2
  go_enter Tryz.func107, Tryz.ntmps107
  go_wp2_with fail
  (with_reducible refine (TO.out).mono ?_)
  rintro e1 w1 ⟨⟨v, rfl⟩, hB, q1⟩
  have C1 := hide (CC.out w1 (hide hB))
  have Q1 := hide q1
  clear TO CC hB q1 c14
  go_wp2_with fail
  (with_reducible refine (C1.out).mono ?_)
  rintro e2 w2 ⟨rfl, hB, q2⟩
  have B2 := hide hB
  have Q2 := hide (Q1.out.trans q2)
  obtain ⟨c9, c10, c11, c12, c13⟩ := mc_fr hB
  rw [HF.out] at c9 c10 c11 c12 c13
  have T2 := hide (there_sub (there_heap hB) 23 7 (by unfold mcL; rw [List.length_append, hev]; show 23 + 7 ≤ 23 + 7; omega))
  have HW := hide (show ∀ w3, w3 = w2.setCells b 23 (evL 1 c.f 0) → w3.heap[b]? = some (.cells (mcL d (evL 1 c.f 0)).toArray t (0, 0)) from fun w3 e => by
    rw [e]
    have := set_heap (evL 1 c.f 0) (mcL d ev) 23 w2 hB
    match ev, hev with
    | [a0, a1, a2, a3, a4, a5, a6], _ => simpa [mcL, Cl.cs, evL, setL] using this)
  clear C1 hB q2 Q1 B2 hev HF
  go_wp2_with (refine wpList_store_hid (by rfl) 50 (.tmp 32) (.tmp 30) (by rfl) b 23 (evL 1 c.f 0) (by rfl) (by rfl) (by exact T2.out) (by kernel_rfl) (by simp [Value.oneCell', evL]) ?_)
  intro w3 e3
  have B3 := hide (HW.out w3 e3.out)
  have Q3 := hide (show Below b w w3 by rw [e3.out]; exact Q2.out.trans (below_setCells _ _ _ (Nat.le_refl _)))
  clear e3 T2 HW Q2 c9 c10 c11 c12 c13
  obtain ⟨_, ⟨_, _, _, _, c8⟩, _⟩ := mc_cells B3.out
  have f8 := cl_froz B3.out 8
  have B4 := hide (show (w3.setCell ⟨b, 8, none⟩ (.bool false)).heap[b]? = some (.cells (mcL { d with has := false } (evL 1 c.f 0)).toArray t (0, 0)) by
    have := mc_set B3.out 8 (.bool false)
    simpa [mcL, Cl.cs] using this)
  have Q4 := hide (below_set Q3.out 8 (.bool false))
  have T4 := hide (there_sub (there_heap B4.out) 9 5 (by simp [mcL, Cl.cs, evL]))
  clear Q3 B3
  go_wp2_with (refine wpList_store_hid (by rfl) 45 (.tmp 41) (.tmp 35) (by rfl) b 9 (frc zFr) (by rfl) (by rfl) (by exact T4.out) (by kernel_rfl) (by simp [Value.oneCell', frc]) ?_)
  intro w5 e5
  have B5 := hide (show w5.heap[b]? = some (.cells (mcL s (evL 1 c.f 0)).toArray t (0, 0)) by
    rw [e5.out, HS.out]
    have := set_heap (frc zFr) (mcL { d with has := false } (evL 1 c.f 0)) 9 _ B4.out
    simpa [mcL, Cl.cs, frc, setL] using this)
  have Q5 := hide (show Below b w w5 by rw [e5.out]; exact Q4.out.trans (below_setCells _ _ _ (Nat.le_refl _)))
  clear e5 T4 B4 Q4
  go_wp2_with fail
  go_end0
  exact ⟨⟨_, rfl⟩, B5.out, Q5.out⟩
end Go.Proofs.YthkilodnghiocaaGreatDoor

/- Walks of a machine's gap (a recessive bit), fails (of one that is not off). -/
namespace Go.Proofs.YthkilodnghiocaaGreatDoor
open Go.ChangeShapes Go.WideShapes Go.ChangeAt Go.RowKit Go.Maps
open FP (Fr)

/-- A recessive bit comes between frames. -/
def Cl.gap1 (c : Cl) : Cl := if c.n = 2 then (if c.was = true ∧ stOf c.tc c.rc c.off = 2 then c.to 7 else c.to 1) else { c with n := c.n + 1 }
set_option maxRecDepth 100000 in
set_option maxHeartbeats 8000000 in
theorem mcGap_high (c : Cl) (ev : List Value) (b : Nat) (t : TypeId) (w : World) (h : Hid (w.heap[b]? = some (.cells (mcL c ev).toArray t (0, 0)))) (h0 : 0 ≤ c.n) (h2 : c.n ≤ 2) (hc : cntB c.tc c.rc c.off c.rs = true) :
    Calls Tryz.prog 84 #[.pointer (some ⟨b, 0, none⟩), .int .u8 49] w fun e w' => (∃ v, e = .returned v) ∧ w'.heap[b]? = some (.cells (mcL c.gap1 ev).toArray t (0, 0)) ∧ Below b w w' := by
  have hb : b < w.heap.size := heap_lt h.out
  obtain ⟨_, ⟨_, c5, _⟩, _⟩ := mc_cells h.out
  have f5 := cl_froz h.out 5
  have H := mc_set h.out 5 (.int .i64 (c.n + 1))
  have HB := hide (show (w.setCell ⟨b, 5, none⟩ (.int .i64 (c.n + 1))).heap[b]? = some (.cells (mcL { c with n := c.n + 1 } ev).toArray t (0, 0)) by simpa [mcL, Cl.cs] using H)
  have Q1 := hide (below_set (Below.refl b w) 5 (.int .i64 (c.n + 1)))
  clear H
  by_cases e : c.n = 2
  · have EJ := hide (show c.gap1 = if c.was = true ∧ stOf c.tc c.rc c.off = 2 then c.to 7 else c.to 1 by unfold Cl.gap1; rw [if_pos e])
    have TO := hide (mcTo_any { c with n := c.n + 1 } ev 1 b t (w.setCell ⟨b, 5, none⟩ (.int .i64 (c.n + 1))) HB)
    have SS := hide (fun W => cntState_ok c.tc c.rc c.off c.rs W hc)
    rw [e] at c5
    have e11 : c.n + 1 = 3 := by omega
    rw [e11] at TO HB Q1
    clear h0 h2 e h e11 hc
    go_enter Tryz.func84, Tryz.ntmps84
    go_wp2_with fail
    (with_reducible refine (TO.out).mono ?_)
    rintro e1 w1 ⟨⟨v, rfl⟩, hB, q1⟩
    have B1 := hide (show w1.heap[b]? = some (.cells (mcL (c.to 1) ev).toArray t (0, 0)) from hB)
    replace Q1 := hide (Q1.out.trans q1)
    obtain ⟨⟨d0, d1, d2, d3⟩, _⟩ := mc_cells B1.out
    have S1 := hide (SS.out w1)
    clear hB q1 TO HB c5 f5
    have e0 : (c.to 1).tc = c.tc ∧ (c.to 1).rc = c.rc ∧ (c.to 1).off = c.off ∧ (c.to 1).rs = c.rs := ⟨rfl, rfl, rfl, rfl⟩
    rw [e0.1] at d0
    rw [e0.2.1] at d1
    rw [e0.2.2.1] at d2
    rw [e0.2.2.2] at d3
    clear e0
    go_wp2_with fail
    (with_reducible refine (S1.out).mono ?_)
    rintro e2 w2 ⟨rfl, q2⟩
    have hb1 : b < w1.heap.size := heap_lt B1.out
    have B2 := hide (heap_below B1.out q2)
    have Q2 := hide (Q1.out.trans (q2.mono (Nat.le_of_lt hb1)))
    clear q2 B1 Q1 S1 SS d0 d1 d2 d3
    obtain ⟨_, ⟨_, _, d6, _⟩, _⟩ := mc_cells B2.out
    have d6' : w2.cell? ⟨b, 6, none⟩ = some (.bool c.was) := d6
    clear d6
    have T7 := hide (mcTo_any (c.to 1) ev 7 b t w2 B2)
    generalize stOf c.tc c.rc c.off = sv at *
    obtain ⟨wv, hwv⟩ : ∃ wv, wv = c.was := ⟨_, rfl⟩
    rw [← hwv] at d6' EJ
    clear hwv
    cases wv with
    | false =>
      have EE := hide (show c.gap1 = c.to 1 by rw [EJ.out, if_neg (by simp)])
      clear EJ
      go_wp2_with fail
      go_end0
      exact ⟨⟨_, rfl⟩, by rw [EE.out]; exact B2.out, Q2.out⟩
    | true =>
      by_cases hs : sv = 2
      · have EE := hide (show c.gap1 = c.to 7 by rw [EJ.out, if_pos ⟨rfl, hs⟩])
        subst hs
        clear EJ
        go_wp2_with fail
        (with_reducible refine (T7.out).mono ?_)
        rintro e3 w3 ⟨⟨v, rfl⟩, hB, q3⟩
        go_wp2_with fail
        go_end0
        exact ⟨⟨_, rfl⟩, by rw [EE.out]; exact hB, Q2.out.trans q3⟩
      · have EE := hide (show c.gap1 = c.to 1 by rw [EJ.out, if_neg (fun h => hs h.2)])
        clear EJ
        go_wp2_with fail
        go_end0
        exact ⟨⟨_, rfl⟩, by rw [EE.out]; exact B2.out, Q2.out⟩
  · have EJ := hide (show c.gap1 = { c with n := c.n + 1 } by unfold Cl.gap1; rw [if_neg e])
    have hne : ¬ c.n + 1 = 3 := by omega
    clear h hc
    go_enter Tryz.func84, Tryz.ntmps84
    go_wp2_with fail
    go_end0
    exact ⟨⟨_, rfl⟩, by rw [EJ.out]; exact HB.out, Q1.out⟩
end Go.Proofs.YthkilodnghiocaaGreatDoor
