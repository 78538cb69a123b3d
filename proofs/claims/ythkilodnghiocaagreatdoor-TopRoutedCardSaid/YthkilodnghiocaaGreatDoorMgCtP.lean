/- The walk of a machine's fails, of one that is not off. -/
import Derived.Test.YthkilodnghiocaaGreatDoorMgCtT
import Derived.Test.YthkilodnghiocaaGreatDoorMgFrPlain
namespace Go.Proofs.YthkilodnghiocaaGreatDoor
open Go.ChangeShapes Go.WideShapes Go.ChangeAt Go.RowKit Go.Maps
open FP (Fr)

/-- Behind an error is counted, or not. -/
def Cl.failC (c : Cl) (bad : Int) : Cl := if bad = 14 ∧ stOf c.tc c.rc c.off = 2 then { c with was := c.sends } else ({ c with was := c.sends } : Cl).count (if c.sends = true then 3 else 4)
/-- It stands so, then. -/
def Cl.failS (d : Cl) : Cl := if stOf d.tc d.rc d.off = 3 then d.to 8 else { d.to 3 with hard := stOf d.tc d.rc d.off == 1 }
def Cl.fail (c : Cl) (bad : Int) : Cl := (c.failC bad).failS

set_option maxRecDepth 100000 in
set_option maxHeartbeats 16000000 in
theorem mcFails_on (c : Cl) (ev : List Value) (bad : Int) (b : Nat) (t : TypeId) (w : World) (h : Hid (w.heap[b]? = some (.cells (mcL c ev).toArray t (0, 0)))) (hev : ev.length = 7) (hoff : c.off = false) (hrs : c.rs = 0) (hc : cntB c.tc c.rc false 0 = true) :
    Calls Tryz.prog 106 #[.pointer (some ⟨b, 0, none⟩), .int .i64 bad] w fun e w' => (∃ v, e = .returned v) ∧ w'.heap[b]? = some (.cells (mcL (c.fail bad) (evL 3 zFr bad)).toArray t (0, 0)) ∧ Below b w w' := by
  have hb : b < w.heap.size := heap_lt h.out
  have T0 := hide (there_sub (there_heap h.out) 23 7 (by unfold mcL; rw [List.length_append, hev]; show 23 + 7 ≤ 23 + 7; omega))
  have HW := hide (show ∀ w1, w1 = w.setCells b 23 (evL 3 zFr bad) → w1.heap[b]? = some (.cells (mcL c (evL 3 zFr bad)).toArray t (0, 0)) from fun w1 e => by
    rw [e]
    have := set_heap (evL 3 zFr bad) (mcL c ev) 23 w h.out
    match ev, hev with
    | [a0, a1, a2, a3, a4, a5, a6], _ => simpa [mcL, Cl.cs, evL, setL] using this)
  clear h hev
  obtain ⟨fe, hfe⟩ : ∃ fe, fe = c.fail bad := ⟨_, rfl⟩
  rw [← hfe]
  have HFE := hide hfe
  clear hfe
  go_enter Tryz.func106, Tryz.ntmps106
  go_wp2_with (refine wpList_store_hid (by rfl) 50 (.tmp 10) (.tmp 8) (by rfl) b 23 (evL 3 zFr bad) (by rfl) (by rfl) (by exact T0.out) (by kernel_rfl) (by simp [Value.oneCell', evL]) ?_)
  intro w1 e1
  have B1 := hide (HW.out w1 e1.out)
  have Q1 := hide (show Below b w w1 by rw [e1.out]; exact below_setCells _ _ _ (Nat.le_refl _))
  have SS := hide (show Calls Tryz.prog 101 #[.agg #[.int .i64 c.tc, .int .i64 c.rc, .bool false, .int .i64 0]] w1 _ from cntState_ok c.tc c.rc false 0 w1 hc)
  obtain ⟨⟨d0, d1, d2, d3⟩, _⟩ := mc_cells B1.out
  rw [hoff] at d2
  rw [hrs] at d3
  clear e1 T0 HW
  have HST := hide (show stOf c.tc c.rc c.off = stOf c.tc c.rc false by rw [hoff])
  generalize stOf c.tc c.rc false = sv at *
  go_wp2_with fail
  (with_reducible refine (SS.out).mono ?_)
  rintro e2 w2 ⟨rfl, q2⟩
  have hb1 : b < w1.heap.size := heap_lt B1.out
  have B2 := hide (heap_below B1.out q2)
  have Q2 := hide (Q1.out.trans (q2.mono (Nat.le_of_lt hb1)))
  clear q2 B1 Q1 SS d0 d1 d2 d3
  obtain ⟨_, ⟨_, _, c6, c7, _⟩, ⟨c14, _⟩⟩ := mc_cells B2.out
  have f6 := cl_froz B2.out 6
  have B3 := hide (show (w2.setCell ⟨b, 6, none⟩ (.bool c.sends)).heap[b]? = some (.cells (mcL { c with was := c.sends } (evL 3 zFr bad)).toArray t (0, 0)) by
    have := mc_set B2.out 6 (.bool c.sends)
    simpa [mcL, Cl.cs] using this)
  have Q3 := hide (below_set Q2.out 6 (.bool c.sends))
  have hb2 : b < w2.heap.size := heap_lt B2.out
  clear B2 Q2
  have HST := hide (show stOf c.tc c.rc c.off = sv from HST.out)
  have CO := hide (fun what (hw : 1 ≤ what ∧ what ≤ 7) => mcCounts_on { c with was := c.sends } (evL 3 zFr bad) what b t (w2.setCell ⟨b, 6, none⟩ (.bool c.sends)) B3 hoff hrs hc hw)
  by_cases hA : bad = 14 ∧ sv = 2
  · have TO := hide (mcTo_any { c with was := c.sends } (evL 3 zFr bad) 3 b t (w2.setCell ⟨b, 6, none⟩ (.bool c.sends)) B3)
    have EE := hide (show fe = { ({ c with was := c.sends } : Cl).to 3 with hard := false } by
      rw [HFE.out]
      unfold Cl.fail Cl.failC
      rw [HST.out, if_pos hA]
      unfold Cl.failS
      have e : stOf ({ c with was := c.sends } : Cl).tc ({ c with was := c.sends } : Cl).rc ({ c with was := c.sends } : Cl).off = 2 := HST.out.trans hA.2
      rw [e]
      rfl)
    obtain ⟨rfl, rfl⟩ := hA
    clear HFE HST CO
    go_wp2_with fail
    (with_reducible refine (TO.out).mono ?_)
    rintro e3 w3 ⟨⟨v, rfl⟩, hB, q3⟩
    obtain ⟨_, ⟨_, _, _, c7', _⟩, _⟩ := mc_cells hB
    have f7 := cl_froz hB 7
    have H7 := hide (mc_set hB 7 (.bool false))
    have Q5 := hide (below_set (Q3.out.trans q3) 7 (.bool false))
    clear hB q3 TO
    go_wp2_with fail
    go_end0
    refine ⟨⟨_, rfl⟩, ?_, Q5.out⟩
    rw [EE.out]
    have := H7.out
    simpa [mcL, Cl.cs] using this
  · have TOF := hide (fun s => mcTo_any { c with was := c.sends } (evL 3 zFr bad) s b t (w2.setCell ⟨b, 6, none⟩ (.bool c.sends)) B3)
    clear TOF
    rcases Bool.eq_false_or_eq_true c.sends with hs | hs
    · rw [hs] at c14
      have EE := hide (show fe = (({ c with was := c.sends } : Cl).count 3).failS by rw [HFE.out]; unfold Cl.fail Cl.failC; rw [HST.out, if_neg hA, hs]; rfl)
      have C1 := hide (CO.out 3 (by decide))
      have hbs : bad = 14 → ¬ sv = 2 := fun h1 h2 => hA ⟨h1, h2⟩
      clear CO HFE HST hA B3
      generalize ({ c with was := c.sends } : Cl).count 3 = d at *
      rw [hs] at C1 Q3
      clear hs
      by_cases h14 : bad = 14
      · have hs2 := hbs h14
        have hb1' : (bad == 14) = true := by simpa using h14
        have hb2' : (sv == 2) = false := by simpa using hs2
        clear hbs h14 hs2
        go_wp2_with fail
        (with_reducible refine (C1.out).mono ?_)
        rintro e3 w3 ⟨rfl, hB, q3⟩
        have B4 := hide hB
        have Q4 := hide (Q3.out.trans q3)
        clear hB q3 C1 Q3
        have TO := hide (fun s => mcTo_any d (evL 3 zFr bad) s b t w3 B4)
        have FS := hide (show (stOf d.tc d.rc d.off = 3 → d.failS = d.to 8) ∧ (stOf d.tc d.rc d.off ≠ 3 → d.failS = { d.to 3 with hard := stOf d.tc d.rc d.off == 1 }) from ⟨fun h => by unfold Cl.failS; rw [if_pos h], fun h => by unfold Cl.failS; rw [if_neg h]⟩)
        generalize stOf d.tc d.rc d.off = s at *
        by_cases h3 : s = 3
        · have E2 := hide (EE.out.trans (FS.out.1 h3))
          have T8 := hide (TO.out 8)
          subst h3
          clear EE FS TO
          go_wp2_with fail
          (with_reducible refine (T8.out).mono ?_)
          rintro e4 w4 ⟨⟨v, rfl⟩, hB, q4⟩
          go_wp2_with fail
          refine bodyPost_ret (results_none (by rfl) _ _ _) rfl ⟨⟨_, rfl⟩, by rw [E2.out]; exact hB, Q4.out.trans q4⟩
        · have E2 := hide (EE.out.trans (FS.out.2 h3))
          have T3 := hide (TO.out 3)
          have hs3 : (s == 3) = false := by simpa using h3
          clear EE FS TO
          go_wp2_with fail
          (with_reducible refine (T3.out).mono ?_)
          rintro e4 w4 ⟨⟨v, rfl⟩, hB, q4⟩
          obtain ⟨_, ⟨_, _, _, c7', _⟩, _⟩ := mc_cells hB
          have f7 := cl_froz hB 7
          have H7 := hide (mc_set hB 7 (.bool (s == 1)))
          have Q5 := hide (below_set (Q4.out.trans q4) 7 (.bool (s == 1)))
          clear hB q4
          go_wp2_with fail
          go_end0
          refine ⟨⟨_, rfl⟩, ?_, Q5.out⟩
          rw [E2.out]
          have := H7.out
          simpa [mcL, Cl.cs] using this
      · have hb1' : (bad == 14) = false := by simpa using h14
        clear hbs h14
        go_wp2_with fail
        (with_reducible refine (C1.out).mono ?_)
        rintro e3 w3 ⟨rfl, hB, q3⟩
        have B4 := hide hB
        have Q4 := hide (Q3.out.trans q3)
        clear hB q3 C1 Q3
        have TO := hide (fun s => mcTo_any d (evL 3 zFr bad) s b t w3 B4)
        have FS := hide (show (stOf d.tc d.rc d.off = 3 → d.failS = d.to 8) ∧ (stOf d.tc d.rc d.off ≠ 3 → d.failS = { d.to 3 with hard := stOf d.tc d.rc d.off == 1 }) from ⟨fun h => by unfold Cl.failS; rw [if_pos h], fun h => by unfold Cl.failS; rw [if_neg h]⟩)
        generalize stOf d.tc d.rc d.off = s at *
        by_cases h3 : s = 3
        · have E2 := hide (EE.out.trans (FS.out.1 h3))
          have T8 := hide (TO.out 8)
          subst h3
          clear EE FS TO
          go_wp2_with fail
          (with_reducible refine (T8.out).mono ?_)
          rintro e4 w4 ⟨⟨v, rfl⟩, hB, q4⟩
          go_wp2_with fail
          refine bodyPost_ret (results_none (by rfl) _ _ _) rfl ⟨⟨_, rfl⟩, by rw [E2.out]; exact hB, Q4.out.trans q4⟩
        · have E2 := hide (EE.out.trans (FS.out.2 h3))
          have T3 := hide (TO.out 3)
          have hs3 : (s == 3) = false := by simpa using h3
          clear EE FS TO
          go_wp2_with fail
          (with_reducible refine (T3.out).mono ?_)
          rintro e4 w4 ⟨⟨v, rfl⟩, hB, q4⟩
          obtain ⟨_, ⟨_, _, _, c7', _⟩, _⟩ := mc_cells hB
          have f7 := cl_froz hB 7
          have H7 := hide (mc_set hB 7 (.bool (s == 1)))
          have Q5 := hide (below_set (Q4.out.trans q4) 7 (.bool (s == 1)))
          clear hB q4
          go_wp2_with fail
          go_end0
          refine ⟨⟨_, rfl⟩, ?_, Q5.out⟩
          rw [E2.out]
          have := H7.out
          simpa [mcL, Cl.cs] using this
    · rw [hs] at c14
      have EE := hide (show fe = (({ c with was := c.sends } : Cl).count 4).failS by rw [HFE.out]; unfold Cl.fail Cl.failC; rw [HST.out, if_neg hA, hs]; rfl)
      have C1 := hide (CO.out 4 (by decide))
      have hbs : bad = 14 → ¬ sv = 2 := fun h1 h2 => hA ⟨h1, h2⟩
      clear CO HFE HST hA B3
      generalize ({ c with was := c.sends } : Cl).count 4 = d at *
      rw [hs] at C1 Q3
      clear hs
      by_cases h14 : bad = 14
      · have hs2 := hbs h14
        have hb1' : (bad == 14) = true := by simpa using h14
        have hb2' : (sv == 2) = false := by simpa using hs2
        clear hbs h14 hs2
        go_wp2_with fail
        (with_reducible refine (C1.out).mono ?_)
        rintro e3 w3 ⟨rfl, hB, q3⟩
        have B4 := hide hB
        have Q4 := hide (Q3.out.trans q3)
        clear hB q3 C1 Q3
        have TO := hide (fun s => mcTo_any d (evL 3 zFr bad) s b t w3 B4)
        have FS := hide (show (stOf d.tc d.rc d.off = 3 → d.failS = d.to 8) ∧ (stOf d.tc d.rc d.off ≠ 3 → d.failS = { d.to 3 with hard := stOf d.tc d.rc d.off == 1 }) from ⟨fun h => by unfold Cl.failS; rw [if_pos h], fun h => by unfold Cl.failS; rw [if_neg h]⟩)
        generalize stOf d.tc d.rc d.off = s at *
        by_cases h3 : s = 3
        · have E2 := hide (EE.out.trans (FS.out.1 h3))
          have T8 := hide (TO.out 8)
          subst h3
          clear EE FS TO
          go_wp2_with fail
          (with_reducible refine (T8.out).mono ?_)
          rintro e4 w4 ⟨⟨v, rfl⟩, hB, q4⟩
          go_wp2_with fail
          refine bodyPost_ret (results_none (by rfl) _ _ _) rfl ⟨⟨_, rfl⟩, by rw [E2.out]; exact hB, Q4.out.trans q4⟩
        · have E2 := hide (EE.out.trans (FS.out.2 h3))
          have T3 := hide (TO.out 3)
          have hs3 : (s == 3) = false := by simpa using h3
          clear EE FS TO
          go_wp2_with fail
          (with_reducible refine (T3.out).mono ?_)
          rintro e4 w4 ⟨⟨v, rfl⟩, hB, q4⟩
          obtain ⟨_, ⟨_, _, _, c7', _⟩, _⟩ := mc_cells hB
          have f7 := cl_froz hB 7
          have H7 := hide (mc_set hB 7 (.bool (s == 1)))
          have Q5 := hide (below_set (Q4.out.trans q4) 7 (.bool (s == 1)))
          clear hB q4
          go_wp2_with fail
          go_end0
          refine ⟨⟨_, rfl⟩, ?_, Q5.out⟩
          rw [E2.out]
          have := H7.out
          simpa [mcL, Cl.cs] using this
      · have hb1' : (bad == 14) = false := by simpa using h14
        clear hbs h14
        go_wp2_with fail
        (with_reducible refine (C1.out).mono ?_)
        rintro e3 w3 ⟨rfl, hB, q3⟩
        have B4 := hide hB
        have Q4 := hide (Q3.out.trans q3)
        clear hB q3 C1 Q3
        have TO := hide (fun s => mcTo_any d (evL 3 zFr bad) s b t w3 B4)
        have FS := hide (show (stOf d.tc d.rc d.off = 3 → d.failS = d.to 8) ∧ (stOf d.tc d.rc d.off ≠ 3 → d.failS = { d.to 3 with hard := stOf d.tc d.rc d.off == 1 }) from ⟨fun h => by unfold Cl.failS; rw [if_pos h], fun h => by unfold Cl.failS; rw [if_neg h]⟩)
        generalize stOf d.tc d.rc d.off = s at *
        by_cases h3 : s = 3
        · have E2 := hide (EE.out.trans (FS.out.1 h3))
          have T8 := hide (TO.out 8)
          subst h3
          clear EE FS TO
          go_wp2_with fail
          (with_reducible refine (T8.out).mono ?_)
          rintro e4 w4 ⟨⟨v, rfl⟩, hB, q4⟩
          go_wp2_with fail
          refine bodyPost_ret (results_none (by rfl) _ _ _) rfl ⟨⟨_, rfl⟩, by rw [E2.out]; exact hB, Q4.out.trans q4⟩
        · have E2 := hide (EE.out.trans (FS.out.2 h3))
          have T3 := hide (TO.out 3)
          have hs3 : (s == 3) = false := by simpa using h3
          clear EE FS TO
          go_wp2_with fail
          (with_reducible refine (T3.out).mono ?_)
          rintro e4 w4 ⟨⟨v, rfl⟩, hB, q4⟩
          obtain ⟨_, ⟨_, _, _, c7', _⟩, _⟩ := mc_cells hB
          have f7 := cl_froz hB 7
          have H7 := hide (mc_set hB 7 (.bool (s == 1)))
          have Q5 := hide (below_set (Q4.out.trans q4) 7 (.bool (s == 1)))
          clear hB q4
          go_wp2_with fail
          go_end0
          refine ⟨⟨_, rfl⟩, ?_, Q5.out⟩
          rw [E2.out]
          have := H7.out
          simpa [mcL, Cl.cs] using this
end Go.Proofs.YthkilodnghiocaaGreatDoor

/- Walks of a machine's echo (a recessive bit), hold and gap (a dominant one). -/
namespace Go.Proofs.YthkilodnghiocaaGreatDoor
open Go.ChangeShapes Go.WideShapes Go.ChangeAt Go.RowKit Go.Maps
open FP (Fr)

/-- The first recessive bit behind a flag. -/
def Cl.echo1 (c : Cl) : Cl := { c.to 5 with n := 1 }
set_option maxRecDepth 100000 in
set_option maxHeartbeats 4000000 in
theorem mcEcho_high (c : Cl) (ev : List Value) (b : Nat) (t : TypeId) (w : World) (h : Hid (w.heap[b]? = some (.cells (mcL c ev).toArray t (0, 0)))) :
    Calls Tryz.prog 82 #[.pointer (some ⟨b, 0, none⟩), .int .u8 49] w fun e w' => (∃ v, e = .returned v) ∧ w'.heap[b]? = some (.cells (mcL c.echo1 ev).toArray t (0, 0)) ∧ Below b w w' := by
  have TO := hide (mcTo_any c ev 5 b t w h)
  clear h
  go_enter Tryz.func82, Tryz.ntmps82
  go_wp2_with fail
  (with_reducible refine (TO.out).mono ?_)
  rintro e1 w1 ⟨⟨v, rfl⟩, hB, q1⟩
  obtain ⟨_, ⟨_, c5, _⟩, _⟩ := mc_cells hB
  have f5 := cl_froz hB 5
  have H := hide (mc_set hB 5 (.int .i64 1))
  have Q1 := hide (below_set q1 5 (.int .i64 1))
  clear hB q1 TO
  go_wp2_with fail
  refine bodyPost_ret (results_none (by rfl) _ _ _) rfl ⟨⟨_, rfl⟩, ?_, Q1.out⟩
  have := H.out
  simpa [mcL, Cl.cs, Cl.echo1] using this

set_option maxRecDepth 100000 in
set_option maxHeartbeats 4000000 in
theorem mcHold_low (c : Cl) (ev : List Value) (b : Nat) (t : TypeId) (w : World) (h : Hid (w.heap[b]? = some (.cells (mcL c ev).toArray t (0, 0)))) (h0 : 0 ≤ c.n) (h7 : c.n ≤ 7) :
    Calls Tryz.prog 85 #[.pointer (some ⟨b, 0, none⟩), .int .u8 48] w fun e w' => (∃ v, e = .returned v) ∧ w'.heap[b]? = some (.cells (mcL c.begin0 ev).toArray t (0, 0)) ∧ Below b w w' := by
  obtain ⟨_, ⟨_, c5, _⟩, _⟩ := mc_cells h.out
  have f5 := cl_froz h.out 5
  have H := mc_set h.out 5 (.int .i64 (c.n + 1))
  have HB := hide (show (w.setCell ⟨b, 5, none⟩ (.int .i64 (c.n + 1))).heap[b]? = some (.cells (mcL { c with n := c.n + 1 } ev).toArray t (0, 0)) by simpa [mcL, Cl.cs] using H)
  have Q1 := hide (below_set (Below.refl b w) 5 (.int .i64 (c.n + 1)))
  have BG := hide (mcBegins_no { c with n := c.n + 1 } ev b t (w.setCell ⟨b, 5, none⟩ (.int .i64 (c.n + 1))) HB)
  clear H h HB
  go_enter Tryz.func85, Tryz.ntmps85
  go_wp2_with fail
  (with_reducible refine (BG.out).mono ?_)
  rintro e1 w1 ⟨⟨v, rfl⟩, hB, q1⟩
  go_wp2_with fail
  go_end0
  exact ⟨⟨_, rfl⟩, hB, Q1.out.trans q1⟩

/-- A dominant bit comes between frames. -/
def Cl.gap0 (c : Cl) : Cl := if c.n = 2 then c.begin0 else { c.to 3 with hard := true }
set_option maxRecDepth 100000 in
set_option maxHeartbeats 4000000 in
theorem mcGap_low (c : Cl) (ev : List Value) (b : Nat) (t : TypeId) (w : World) (h : Hid (w.heap[b]? = some (.cells (mcL c ev).toArray t (0, 0)))) (h0 : 0 ≤ c.n) (h2 : c.n ≤ 2) :
    Calls Tryz.prog 84 #[.pointer (some ⟨b, 0, none⟩), .int .u8 48] w fun e w' => (∃ v, e = .returned v) ∧ w'.heap[b]? = some (.cells (mcL c.gap0 ev).toArray t (0, 0)) ∧ Below b w w' := by
  obtain ⟨_, ⟨_, c5, _⟩, _⟩ := mc_cells h.out
  have f5 := cl_froz h.out 5
  have H := mc_set h.out 5 (.int .i64 (c.n + 1))
  have HB := hide (show (w.setCell ⟨b, 5, none⟩ (.int .i64 (c.n + 1))).heap[b]? = some (.cells (mcL { c with n := c.n + 1 } ev).toArray t (0, 0)) by simpa [mcL, Cl.cs] using H)
  have Q1 := hide (below_set (Below.refl b w) 5 (.int .i64 (c.n + 1)))
  clear H h
  by_cases e : c.n = 2
  · have EG := hide (show c.gap0 = ({ c with n := c.n + 1 } : Cl).begin0 by unfold Cl.gap0; rw [if_pos e]; rfl)
    have BG := hide (mcBegins_no { c with n := c.n + 1 } ev b t (w.setCell ⟨b, 5, none⟩ (.int .i64 (c.n + 1))) HB)
    rw [e] at c5
    have e11 : c.n + 1 = 3 := by omega
    rw [e11] at BG Q1 EG
    clear h0 h2 e e11 HB
    go_enter Tryz.func84, Tryz.ntmps84
    go_wp2_with fail
    (with_reducible refine (BG.out).mono ?_)
    rintro e1 w1 ⟨⟨v, rfl⟩, hB, q1⟩
    go_wp2_with fail
    go_end0
    exact ⟨⟨_, rfl⟩, by rw [EG.out]; exact hB, Q1.out.trans q1⟩
  · have EG := hide (show c.gap0 = { ({ c with n := c.n + 1 } : Cl).to 3 with hard := true } by unfold Cl.gap0; rw [if_neg e]; rfl)
    have TO := hide (mcTo_any { c with n := c.n + 1 } ev 3 b t (w.setCell ⟨b, 5, none⟩ (.int .i64 (c.n + 1))) HB)
    have hne : ¬ c.n + 1 = 3 := by omega
    clear HB
    go_enter Tryz.func84, Tryz.ntmps84
    go_wp2_with fail
    (with_reducible refine (TO.out).mono ?_)
    rintro e1 w1 ⟨⟨v, rfl⟩, hB, q1⟩
    obtain ⟨_, ⟨_, _, _, c7', _⟩, _⟩ := mc_cells hB
    have f7 := cl_froz hB 7
    have H7 := hide (mc_set hB 7 (.bool true))
    have Q5 := hide (below_set (Q1.out.trans q1) 7 (.bool true))
    clear hB q1 TO
    go_wp2_with fail
    go_end0
    refine ⟨⟨_, rfl⟩, ?_, Q5.out⟩
    rw [EG.out]
    have := H7.out
    simpa [mcL, Cl.cs] using this
end Go.Proofs.YthkilodnghiocaaGreatDoor

/- Plain mathematics of stuffing; nothing of the program. -/
namespace Go.Proofs.YthkilodnghiocaaGreatDoor.FP

/-- What is known behind some bits: the last one, how many are equal, what was put out, and from where on they are counted. -/
structure SS where
  last : UInt8
  n : Nat
  out : List UInt8
  fr : Nat
def oth (c : UInt8) : UInt8 := c ^^^ 48 ^^^ 49
/-- How many are equal with one more. -/
def ssN (s : SS) (c : UInt8) : Nat := if c = s.last then s.n + 1 else 1
def ssStep (s : SS) (c : UInt8) : SS :=
  if ssN s c = 5 then ⟨oth c, 1, (s.out ++ [c]) ++ [oth c], s.out.length + 1⟩ else ⟨c, ssN s c, s.out ++ [c], s.fr⟩
def ss0 : SS := ⟨0, 0, [], 0⟩
def stuffS (l : List UInt8) : SS := l.foldl ssStep ss0
def stuffF (l : List UInt8) : List UInt8 := (stuffS l).out
theorem stuffS_snoc (l : List UInt8) (c : UInt8) : stuffS (l ++ [c]) = ssStep (stuffS l) c := by simp [stuffS]

/-- Do the last five stand alike, and were none put in within them? -/
def equalB (s : List UInt8) (fr : Nat) : Bool := decide (5 ≤ s.length - fr) && (List.range 5).all (fun j => s[s.length - 1 - j]? == s[s.length - 1]?)

structure SInv (s : SS) (i : Nat) : Prop where
  n5 : s.n < 5
  fr : s.fr + s.n ≤ s.out.length
  same : ∀ j, j < s.n → s.out[s.out.length - 1 - j]? = some s.last
  end_ : s.fr + s.n < s.out.length → s.out[s.out.length - 1 - s.n]? ≠ some s.last
  bit : s.n = 0 ∧ s.last = 0 ∧ i = 0 ∨ (1 ≤ s.n ∧ (s.last = 48 ∨ s.last = 49) ∧ 1 ≤ i)
  all : ∀ c ∈ s.out, c = 48 ∨ c = 49
  len : 4 * (s.out.length - i) + s.n ≤ i ∧ i ≤ s.out.length

theorem ssStep_five {s : SS} {c : UInt8} (h : ssN s c = 5) : (ssStep s c).last = oth c ∧ (ssStep s c).n = 1 ∧ (ssStep s c).out = (s.out ++ [c]) ++ [oth c] ∧ (ssStep s c).fr = s.out.length + 1 := by
  unfold ssStep; rw [if_pos h]; exact ⟨rfl, rfl, rfl, rfl⟩
theorem ssStep_less {s : SS} {c : UInt8} (h : ssN s c ≠ 5) : (ssStep s c).last = c ∧ (ssStep s c).n = ssN s c ∧ (ssStep s c).out = s.out ++ [c] ∧ (ssStep s c).fr = s.fr := by
  unfold ssStep; rw [if_neg h]; exact ⟨rfl, rfl, rfl, rfl⟩

theorem oth_bit {c : UInt8} (h : c = 48 ∨ c = 49) : oth c = 48 ∧ c = 49 ∨ oth c = 49 ∧ c = 48 := by
  rcases h with rfl | rfl
  · right; decide
  · left; decide
theorem oth_is {c : UInt8} (h : c = 48 ∨ c = 49) : oth c = 48 ∨ oth c = 49 := by
  rcases oth_bit h with h | h
  · exact .inl h.1
  · exact .inr h.1

theorem ss_inv0 : SInv ss0 0 := ⟨by decide, by decide, fun j h => absurd h (by simp [ss0]), fun h => absurd h (by simp [ss0]), .inl ⟨rfl, rfl, rfl⟩, fun c h => absurd h (by simp [ss0]), by simp [ss0]⟩

theorem snoc_last {α : Type} (l : List α) (c : α) : (l ++ [c])[l.length]? = some c := by simp
theorem snoc_lt {α : Type} (l : List α) (c : α) {j : Nat} (h : j < l.length) : (l ++ [c])[j]? = l[j]? := List.getElem?_append_left h

theorem SInv.last {s : SS} {i : Nat} (h : SInv s i) (hn : 1 ≤ s.out.length) : s.out[s.out.length - 1]? = some s.last ∧ 1 ≤ s.n := by
  rcases h.bit with ⟨h0, _, hi⟩ | ⟨h1, _, _⟩
  · have := h.len; omega
  · exact ⟨by have := h.same 0 (by omega); simpa using this, h1⟩

theorem SInv.step {s : SS} {i : Nat} (h : SInv s i) {c : UInt8} (hc : c = 48 ∨ c = 49) : SInv (ssStep s c) (i + 1) := by
  obtain ⟨last, n, out, fr⟩ := s
  have hl := fun hn => h.last hn
  obtain ⟨n5, hfr, same, end_, bit, all, len⟩ := h
  simp only at *
  unfold ssStep
  simp only
  by_cases h5 : ssN ⟨last, n, out, fr⟩ c = 5
  · rw [if_pos h5]
    have e : n + 1 = 5 := by
      unfold ssN at h5
      split at h5
      · exact h5
      · omega
    refine ⟨by simp, by simp, ?_, ?_, ?_, ?_, ?_⟩
    · intro j hj
      have : j = 0 := by simp only at hj; omega
      subst this
      simp
    · intro hj; simp at hj
    · exact .inr ⟨by simp, oth_is hc, by omega⟩
    · intro x hx
      simp only [List.mem_append, List.mem_singleton] at hx
      rcases hx with (hx | rfl) | rfl
      · exact all x hx
      · exact hc
      · exact oth_is hc
    · simp only [List.length_append, List.length_cons, List.length_nil]; omega
  · rw [if_neg h5]
    have hall : ∀ x ∈ out ++ [c], x = 48 ∨ x = 49 := by
      intro x hx
      simp only [List.mem_append, List.mem_singleton] at hx
      rcases hx with hx | rfl
      · exact all x hx
      · exact hc
    by_cases hcl : c = last
    · have e : ssN ⟨last, n, out, fr⟩ c = n + 1 := by unfold ssN; rw [if_pos hcl]
      rw [e] at h5 ⊢
      refine ⟨by simp only; omega, by simp; omega, ?_, ?_, ?_, hall, ?_⟩
      · intro j hj
        simp only [List.length_append, List.length_cons, List.length_nil] at *
        rcases Nat.eq_zero_or_pos j with h0 | h0
        · subst h0; simp
        · rw [show out.length + (0 + 1) - 1 - j = out.length - 1 - (j - 1) by omega, snoc_lt _ _ (by omega), same (j - 1) (by omega), hcl]
      · intro hj
        simp only [List.length_append, List.length_cons, List.length_nil] at *
        rw [show out.length + (0 + 1) - 1 - (n + 1) = out.length - 1 - n by omega, snoc_lt _ _ (by omega), hcl]
        exact end_ (by omega)
      · exact .inr ⟨by simp, hc, by omega⟩
      · simp only [List.length_append, List.length_cons, List.length_nil]; omega
    · have e : ssN ⟨last, n, out, fr⟩ c = 1 := by unfold ssN; rw [if_neg hcl]
      rw [e] at h5 ⊢
      refine ⟨by simp, by simp; omega, ?_, ?_, ?_, hall, ?_⟩
      · intro j hj
        have : j = 0 := by simp only at hj; omega
        subst this
        simp
      · intro hj
        simp only [List.length_append, List.length_cons, List.length_nil] at *
        rw [show out.length + (0 + 1) - 1 - 1 = out.length - 1 by omega, snoc_lt _ _ (by omega), (hl (by omega)).1]
        intro he
        exact hcl (Option.some.inj he).symm
      · exact .inr ⟨by simp, hc, by omega⟩
      · simp only [List.length_append, List.length_cons, List.length_nil]; omega

theorem SInv.equal {s : SS} {i : Nat} (h : SInv s i) (c : UInt8) : equalB (s.out ++ [c]) s.fr = decide (ssN s c = 5) := by
  obtain ⟨last, n, out, fr⟩ := s
  have hl := fun hn => h.last hn
  obtain ⟨n5, hfr, same, end_, bit, all, len⟩ := h
  simp only at *
  have eL : (out ++ [c]).length - 1 = out.length := by simp
  unfold equalB
  by_cases h5 : ssN ⟨last, n, out, fr⟩ c = 5
  · rw [decide_eq_true h5]
    unfold ssN at h5
    split at h5
    · rename_i hcl
      simp only at hcl h5
      rw [Bool.and_eq_true]
      refine ⟨by simp; omega, List.all_eq_true.2 fun j hj => ?_⟩
      rw [List.mem_range] at hj
      rw [eL, snoc_last]
      rcases Nat.eq_zero_or_pos j with h0 | h0
      · subst h0; simp
      · rw [show out.length - j = out.length - 1 - (j - 1) by omega, snoc_lt _ _ (by omega), same (j - 1) (by omega), hcl]
        simp
    · omega
  · rw [decide_eq_false h5]
    rw [Bool.and_eq_false_iff]
    by_cases hL : 5 ≤ (out ++ [c]).length - fr
    · right
      rw [List.all_eq_false]
      simp only [List.length_append, List.length_cons, List.length_nil] at hL
      unfold ssN at h5
      split at h5
      · rename_i hcl
        simp only at hcl h5
        refine ⟨n + 1, by rw [List.mem_range]; omega, ?_⟩
        rw [eL, snoc_last, show out.length - (n + 1) = out.length - 1 - n by omega, snoc_lt _ _ (by omega), hcl]
        have := end_ (by omega)
        simpa using this
      · rename_i hcl
        simp only at hcl h5
        refine ⟨1, by decide, ?_⟩
        rw [eL, snoc_last, snoc_lt _ _ (by omega), (hl (by omega)).1]
        simpa using fun h : last = c => hcl h.symm
    · left; exact decide_eq_false hL

theorem stuff_inv (l : List UInt8) (hl : ∀ c ∈ l, c = 48 ∨ c = 49) : SInv (stuffS l) l.length := by
  have : ∀ i, i ≤ l.length → SInv (stuffS (l.take i)) i := by
    intro i
    induction i with
    | zero => intro _; simpa [stuffS] using ss_inv0
    | succ i ih =>
      intro hi
      rw [List.take_succ_eq_append_getElem hi, stuffS_snoc]
      exact (ih (by omega)).step (hl _ (List.getElem_mem hi))
  have h := this l.length (Nat.le_refl _)
  rwa [List.take_of_length_le (Nat.le_refl _)] at h

theorem stuff_len (l : List UInt8) (hl : ∀ c ∈ l, c = 48 ∨ c = 49) : l.length ≤ (stuffF l).length ∧ (stuffF l).length ≤ l.length + (l.length - 1) / 4 := by
  have h := stuff_inv l hl
  refine ⟨h.len.2, ?_⟩
  have h1 := h.len.1
  have h2 := h.len.2
  unfold stuffF
  rcases h.bit with ⟨h0, _, hi⟩ | ⟨h0, _, hi⟩ <;> omega
end Go.Proofs.YthkilodnghiocaaGreatDoor.FP
