/- The walk of a machine's fails, of one that is not off. -/
import Derived.Test.YtjfgapljfbkfiaaDoorMgCtV
namespace Go.Proofs.YtjfgapljfbkfiaaDoor
open Go.ChangeShapes Go.WideShapes Go.ChangeAt Go.RowKit Go.Maps
open FP (Fr)

/-- Behind an error is counted, or not. -/
def Cl.failC (c : Cl) (bad : Int) : Cl := if bad = 14 ∧ stOf c.tc c.rc c.off = 2 then { c with was := c.sends } else ({ c with was := c.sends } : Cl).count (if c.sends = true then 3 else 4)
/-- It stands so, then. -/
def Cl.failS (d : Cl) : Cl := if stOf d.tc d.rc d.off = 3 then d.to 8 else { d.to 3 with hard := stOf d.tc d.rc d.off == 1 }
def Cl.fail (c : Cl) (bad : Int) : Cl := (c.failC bad).failS

set_option maxRecDepth 100000 in
set_option maxHeartbeats 16000000 in
theorem mcFails_on (c : Cl) (ev : List Value) (bad : Int) (b : Nat) (t : TypeId) (w : World) (h : Hid (w.heap[b]? = some (.cells (mcL c ev).toArray t (0, 0)))) (hev : ev.length = 7) (hoff : c.off = false) (hrs : c.rs = 0) (hc : cntB c.tc c.rc false 0 = true) :
    Calls Tryd.prog 53 #[.pointer (some ⟨b, 0, none⟩), .int .i64 bad] w fun e w' => (∃ v, e = .returned v) ∧ w'.heap[b]? = some (.cells (mcL (c.fail bad) (evL 3 zFr bad)).toArray t (0, 0)) ∧ Below b w w' := by
  have hb : b < w.heap.size := heap_lt h.out
  have T0 := hide (there_sub (there_heap h.out) 23 7 (by unfold mcL; rw [List.length_append, hev]; show 23 + 7 ≤ 23 + 7; omega))
  have HW := hide (show ∀ w1, w1 = w.setCells b 23 (evL 3 zFr bad) → w1.heap[b]? = some (.cells (mcL c (evL 3 zFr bad)).toArray t (0, 0)) from fun w1 e => by
    rw [e]
    have := set_heap (evL 3 zFr bad) (mcL c ev) 23 w h.out
    match ev, hev with
    | [a0, a1, a2, a3, a4, a5, a6], _ => simpa [mcL, Cl.cs, evL, setL] using this)
  clear h hev
  obtain ⟨fe, hfe⟩ : ∃ fe, fe = c.fail bad := ⟨_, rfl⟩
  rw [← hfe]
  have HFE := hide hfe
  clear hfe
  go_enter Tryd.func53, Tryd.ntmps53
  go_wp2_with (refine wpList_store_hid (by rfl) 45 (.tmp 10) (.tmp 8) (by rfl) b 23 (evL 3 zFr bad) (by rfl) (by rfl) (by exact T0.out) (by kernel_rfl) (by simp [Value.oneCell', evL]) ?_)
  intro w1 e1
  have B1 := hide (HW.out w1 e1.out)
  have Q1 := hide (show Below b w w1 by rw [e1.out]; exact below_setCells _ _ _ (Nat.le_refl _))
  have SS := hide (show Calls Tryd.prog 43 #[.agg #[.int .i64 c.tc, .int .i64 c.rc, .bool false, .int .i64 0]] w1 _ from cntState_ok c.tc c.rc false 0 w1 hc)
  obtain ⟨⟨d0, d1, d2, d3⟩, _⟩ := mc_cells B1.out
  rw [hoff] at d2
  rw [hrs] at d3
  clear e1 T0 HW
  have HST := hide (show stOf c.tc c.rc c.off = stOf c.tc c.rc false by rw [hoff])
  generalize stOf c.tc c.rc false = sv at *
  go_wp2_with fail
  (with_reducible refine (SS.out).mono ?_)
  rintro e2 w2 ⟨rfl, q2⟩
  have hb1 : b < w1.heap.size := heap_lt B1.out
  have B2 := hide (heap_below B1.out q2)
  have Q2 := hide (Q1.out.trans (q2.mono (Nat.le_of_lt hb1)))
  clear q2 B1 Q1 SS d0 d1 d2 d3
  obtain ⟨_, ⟨_, _, c6, c7, _⟩, ⟨c14, _⟩⟩ := mc_cells B2.out
  have f6 := cl_froz B2.out 6
  have B3 := hide (show (w2.setCell ⟨b, 6, none⟩ (.bool c.sends)).heap[b]? = some (.cells (mcL { c with was := c.sends } (evL 3 zFr bad)).toArray t (0, 0)) by
    have := mc_set B2.out 6 (.bool c.sends)
    simpa [mcL, Cl.cs] using this)
  have Q3 := hide (below_set Q2.out 6 (.bool c.sends))
  have hb2 : b < w2.heap.size := heap_lt B2.out
  clear B2 Q2
  have HST := hide (show stOf c.tc c.rc c.off = sv from HST.out)
  have CO := hide (fun what (hw : 1 ≤ what ∧ what ≤ 7) => mcCounts_on { c with was := c.sends } (evL 3 zFr bad) what b t (w2.setCell ⟨b, 6, none⟩ (.bool c.sends)) B3 hoff hrs hc hw)
  by_cases hA : bad = 14 ∧ sv = 2
  · have TO := hide (mcTo_any { c with was := c.sends } (evL 3 zFr bad) 3 b t (w2.setCell ⟨b, 6, none⟩ (.bool c.sends)) B3)
    have EE := hide (show fe = { ({ c with was := c.sends } : Cl).to 3 with hard := false } by
      rw [HFE.out]
      unfold Cl.fail Cl.failC
      rw [HST.out, if_pos hA]
      unfold Cl.failS
      have e : stOf ({ c with was := c.sends } : Cl).tc ({ c with was := c.sends } : Cl).rc ({ c with was := c.sends } : Cl).off = 2 := HST.out.trans hA.2
      rw [e]
      rfl)
    obtain ⟨rfl, rfl⟩ := hA
    clear HFE HST CO
    go_wp2_with fail
    (with_reducible refine (TO.out).mono ?_)
    rintro e3 w3 ⟨⟨v, rfl⟩, hB, q3⟩
    obtain ⟨_, ⟨_, _, _, c7', _⟩, _⟩ := mc_cells hB
    have f7 := cl_froz hB 7
    have H7 := hide (mc_set hB 7 (.bool false))
    have Q5 := hide (below_set (Q3.out.trans q3) 7 (.bool false))
    clear hB q3 TO
    go_wp2_with fail
    go_end0
    refine ⟨⟨_, rfl⟩, ?_, Q5.out⟩
    rw [EE.out]
    have := H7.out
    simpa [mcL, Cl.cs] using this
  · have TOF := hide (fun s => mcTo_any { c with was := c.sends } (evL 3 zFr bad) s b t (w2.setCell ⟨b, 6, none⟩ (.bool c.sends)) B3)
    clear TOF
    rcases Bool.eq_false_or_eq_true c.sends with hs | hs
    · rw [hs] at c14
      have EE := hide (show fe = (({ c with was := c.sends } : Cl).count 3).failS by rw [HFE.out]; unfold Cl.fail Cl.failC; rw [HST.out, if_neg hA, hs]; rfl)
      have C1 := hide (CO.out 3 (by decide))
      have hbs : bad = 14 → ¬ sv = 2 := fun h1 h2 => hA ⟨h1, h2⟩
      clear CO HFE HST hA B3
      generalize ({ c with was := c.sends } : Cl).count 3 = d at *
      rw [hs] at C1 Q3
      clear hs
      by_cases h14 : bad = 14
      · have hs2 := hbs h14
        have hb1' : (bad == 14) = true := by simpa using h14
        have hb2' : (sv == 2) = false := by simpa using hs2
        clear hbs h14 hs2
        go_wp2_with fail
        (with_reducible refine (C1.out).mono ?_)
        rintro e3 w3 ⟨rfl, hB, q3⟩
        have B4 := hide hB
        have Q4 := hide (Q3.out.trans q3)
        clear hB q3 C1 Q3
        have TO := hide (fun s => mcTo_any d (evL 3 zFr bad) s b t w3 B4)
        have FS := hide (show (stOf d.tc d.rc d.off = 3 → d.failS = d.to 8) ∧ (stOf d.tc d.rc d.off ≠ 3 → d.failS = { d.to 3 with hard := stOf d.tc d.rc d.off == 1 }) from ⟨fun h => by unfold Cl.failS; rw [if_pos h], fun h => by unfold Cl.failS; rw [if_neg h]⟩)
        generalize stOf d.tc d.rc d.off = s at *
        by_cases h3 : s = 3
        · have E2 := hide (EE.out.trans (FS.out.1 h3))
          have T8 := hide (TO.out 8)
          subst h3
          clear EE FS TO
          go_wp2_with fail
          (with_reducible refine (T8.out).mono ?_)
          rintro e4 w4 ⟨⟨v, rfl⟩, hB, q4⟩
          go_wp2_with fail
          refine bodyPost_ret (results_none (by rfl) _ _ _) rfl ⟨⟨_, rfl⟩, by rw [E2.out]; exact hB, Q4.out.trans q4⟩
        · have E2 := hide (EE.out.trans (FS.out.2 h3))
          have T3 := hide (TO.out 3)
          have hs3 : (s == 3) = false := by simpa using h3
          clear EE FS TO
          go_wp2_with fail
          (with_reducible refine (T3.out).mono ?_)
          rintro e4 w4 ⟨⟨v, rfl⟩, hB, q4⟩
          obtain ⟨_, ⟨_, _, _, c7', _⟩, _⟩ := mc_cells hB
          have f7 := cl_froz hB 7
          have H7 := hide (mc_set hB 7 (.bool (s == 1)))
          have Q5 := hide (below_set (Q4.out.trans q4) 7 (.bool (s == 1)))
          clear hB q4
          go_wp2_with fail
          go_end0
          refine ⟨⟨_, rfl⟩, ?_, Q5.out⟩
          rw [E2.out]
          have := H7.out
          simpa [mcL, Cl.cs] using this
      · have hb1' : (bad == 14) = false := by simpa using h14
        clear hbs h14
        go_wp2_with fail
        (with_reducible refine (C1.out).mono ?_)
        rintro e3 w3 ⟨rfl, hB, q3⟩
        have B4 := hide hB
        have Q4 := hide (Q3.out.trans q3)
        clear hB q3 C1 Q3
        have TO := hide (fun s => mcTo_any d (evL 3 zFr bad) s b t w3 B4)
        have FS := hide (show (stOf d.tc d.rc d.off = 3 → d.failS = d.to 8) ∧ (stOf d.tc d.rc d.off ≠ 3 → d.failS = { d.to 3 with hard := stOf d.tc d.rc d.off == 1 }) from ⟨fun h => by unfold Cl.failS; rw [if_pos h], fun h => by unfold Cl.failS; rw [if_neg h]⟩)
        generalize stOf d.tc d.rc d.off = s at *
        by_cases h3 : s = 3
        · have E2 := hide (EE.out.trans (FS.out.1 h3))
          have T8 := hide (TO.out 8)
          subst h3
          clear EE FS TO
          go_wp2_with fail
          (with_reducible refine (T8.out).mono ?_)
          rintro e4 w4 ⟨⟨v, rfl⟩, hB, q4⟩
          go_wp2_with fail
          refine bodyPost_ret (results_none (by rfl) _ _ _) rfl ⟨⟨_, rfl⟩, by rw [E2.out]; exact hB, Q4.out.trans q4⟩
        · have E2 := hide (EE.out.trans (FS.out.2 h3))
          have T3 := hide (TO.out 3)
          have hs3 : (s == 3) = false := by simpa using h3
          clear EE FS TO
          go_wp2_with fail
          (with_reducible refine (T3.out).mono ?_)
          rintro e4 w4 ⟨⟨v, rfl⟩, hB, q4⟩
          obtain ⟨_, ⟨_, _, _, c7', _⟩, _⟩ := mc_cells hB
          have f7 := cl_froz hB 7
          have H7 := hide (mc_set hB 7 (.bool (s == 1)))
          have Q5 := hide (below_set (Q4.out.trans q4) 7 (.bool (s == 1)))
          clear hB q4
          go_wp2_with fail
          go_end0
          refine ⟨⟨_, rfl⟩, ?_, Q5.out⟩
          rw [E2.out]
          have := H7.out
          simpa [mcL, Cl.cs] using this
    · rw [hs] at c14
      have EE := hide (show fe = (({ c with was := c.sends } : Cl).count 4).failS by rw [HFE.out]; unfold Cl.fail Cl.failC; rw [HST.out, if_neg hA, hs]; rfl)
      have C1 := hide (CO.out 4 (by decide))
      have hbs : bad = 14 → ¬ sv = 2 := fun h1 h2 => hA ⟨h1, h2⟩
      clear CO HFE HST hA B3
      generalize ({ c with was := c.sends } : Cl).count 4 = d at *
      rw [hs] at C1 Q3
      clear hs
      by_cases h14 : bad = 14
      · have hs2 := hbs h14
        have hb1' : (bad == 14) = true := by simpa using h14
        have hb2' : (sv == 2) = false := by simpa using hs2
        clear hbs h14 hs2
        go_wp2_with fail
        (with_reducible refine (C1.out).mono ?_)
        rintro e3 w3 ⟨rfl, hB, q3⟩
        have B4 := hide hB
        have Q4 := hide (Q3.out.trans q3)
        clear hB q3 C1 Q3
        have TO := hide (fun s => mcTo_any d (evL 3 zFr bad) s b t w3 B4)
        have FS := hide (show (stOf d.tc d.rc d.off = 3 → d.failS = d.to 8) ∧ (stOf d.tc d.rc d.off ≠ 3 → d.failS = { d.to 3 with hard := stOf d.tc d.rc d.off == 1 }) from ⟨fun h => by unfold Cl.failS; rw [if_pos h], fun h => by unfold Cl.failS; rw [if_neg h]⟩)
        generalize stOf d.tc d.rc d.off = s at *
        by_cases h3 : s = 3
        · have E2 := hide (EE.out.trans (FS.out.1 h3))
          have T8 := hide (TO.out 8)
          subst h3
          clear EE FS TO
          go_wp2_with fail
          (with_reducible refine (T8.out).mono ?_)
          rintro e4 w4 ⟨⟨v, rfl⟩, hB, q4⟩
          go_wp2_with fail
          refine bodyPost_ret (results_none (by rfl) _ _ _) rfl ⟨⟨_, rfl⟩, by rw [E2.out]; exact hB, Q4.out.trans q4⟩
        · have E2 := hide (EE.out.trans (FS.out.2 h3))
          have T3 := hide (TO.out 3)
          have hs3 : (s == 3) = false := by simpa using h3
          clear EE FS TO
          go_wp2_with fail
          (with_reducible refine (T3.out).mono ?_)
          rintro e4 w4 ⟨⟨v, rfl⟩, hB, q4⟩
          obtain ⟨_, ⟨_, _, _, c7', _⟩, _⟩ := mc_cells hB
          have f7 := cl_froz hB 7
          have H7 := hide (mc_set hB 7 (.bool (s == 1)))
          have Q5 := hide (below_set (Q4.out.trans q4) 7 (.bool (s == 1)))
          clear hB q4
          go_wp2_with fail
          go_end0
          refine ⟨⟨_, rfl⟩, ?_, Q5.out⟩
          rw [E2.out]
          have := H7.out
          simpa [mcL, Cl.cs] using this
      · have hb1' : (bad == 14) = false := by simpa using h14
        clear hbs h14
        go_wp2_with fail
        (with_reducible refine (C1.out).mono ?_)
        rintro e3 w3 ⟨rfl, hB, q3⟩
        have B4 := hide hB
        have Q4 := hide (Q3.out.trans q3)
        clear hB q3 C1 Q3
        have TO := hide (fun s => mcTo_any d (evL 3 zFr bad) s b t w3 B4)
        have FS := hide (show (stOf d.tc d.rc d.off = 3 → d.failS = d.to 8) ∧ (stOf d.tc d.rc d.off ≠ 3 → d.failS = { d.to 3 with hard := stOf d.tc d.rc d.off == 1 }) from ⟨fun h => by unfold Cl.failS; rw [if_pos h], fun h => by unfold Cl.failS; rw [if_neg h]⟩)
        generalize stOf d.tc d.rc d.off = s at *
        by_cases h3 : s = 3
        · have E2 := hide (EE.out.trans (FS.out.1 h3))
          have T8 := hide (TO.out 8)
          subst h3
          clear EE FS TO
          go_wp2_with fail
          (with_reducible refine (T8.out).mono ?_)
          rintro e4 w4 ⟨⟨v, rfl⟩, hB, q4⟩
          go_wp2_with fail
          refine bodyPost_ret (results_none (by rfl) _ _ _) rfl ⟨⟨_, rfl⟩, by rw [E2.out]; exact hB, Q4.out.trans q4⟩
        · have E2 := hide (EE.out.trans (FS.out.2 h3))
          have T3 := hide (TO.out 3)
          have hs3 : (s == 3) = false := by simpa using h3
          clear EE FS TO
          go_wp2_with fail
          (with_reducible refine (T3.out).mono ?_)
          rintro e4 w4 ⟨⟨v, rfl⟩, hB, q4⟩
          obtain ⟨_, ⟨_, _, _, c7', _⟩, _⟩ := mc_cells hB
          have f7 := cl_froz hB 7
          have H7 := hide (mc_set hB 7 (.bool (s == 1)))
          have Q5 := hide (below_set (Q4.out.trans q4) 7 (.bool (s == 1)))
          clear hB q4
          go_wp2_with fail
          go_end0
          refine ⟨⟨_, rfl⟩, ?_, Q5.out⟩
          rw [E2.out]
          have := H7.out
          simpa [mcL, Cl.cs] using this
end Go.Proofs.YtjfgapljfbkfiaaDoor
