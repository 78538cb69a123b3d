/- (*send.sending).tick. -/
import Derived.Test.YtnhegnneohpkaaaGreatSnE
namespace Go.Proofs.YtnhegnneohpkaaaGreat
open Go.ChangeShapes Go.WideShapes Go.ChangeAt Go.RowKit
open CM PD SG

theorem agS_keep (s : Snd) : s.agS.delay = s.delay ∧ s.agS.hold = s.hold := by
  unfold Snd.agS
  split
  · exact ⟨rfl, rfl⟩
  · split <;> exact ⟨rfl, rfl⟩
theorem perS_keep (s : Snd) : s.perS.delay = s.delay ∧ s.perS.hold = s.hold := by
  unfold Snd.perS
  split <;> exact ⟨rfl, rfl⟩
theorem per_in {s : Snd} (hi : SndIn s) (hw : 0 ≤ s.way.period ∧ s.way.period ≤ 1000000) : SndIn s.perS := by
  obtain ⟨a, b, c, d, e, f, g, h⟩ := hi
  unfold Snd.perS
  split
  · refine ⟨a, b, c, d, ?_, ?_, g, h⟩
    · show 0 ≤ if s.period ≤ 1 then s.way.period else s.period - 1
      split <;> omega
    · show (if s.period ≤ 1 then s.way.period else s.period - 1) ≤ 1000000
      split <;> omega
  · exact ⟨a, b, c, d, e, f, g, h⟩

set_option maxRecDepth 100000 in
set_option maxHeartbeats 8000000 in
theorem snTick_any (s : Snd) (b : Nat) (W : World) (h : W.heap[b]? = some (.cells (sncL s).toArray 116 (0, 0))) (hs : sndB s = true) :
    Calls Tryz.prog 71 #[.pointer (some ⟨b, 0, none⟩)] W fun e W' => e = .returned (.bool s.tickE) ∧ W'.heap[b]? = some (.cells (sncL s.tick).toArray 116 (0, 0)) ∧ Kp (fun k => k = b) W W' := by
  have hi := snd_inn hs
  have hway := wayB_iff.1 (way_right hs)
  have hdel := (sndB_iff.1 hs).2.2
  have zb : b < W.heap.size := heap_lt h
  obtain ⟨m, em, hm⟩ := run_max (P := Tryz.prog) (s.hold - 1) 0
  have hw1 : IntKind.i64.wrap (s.hold - 1) = s.hold - 1 := IntWalk.i64_in _ (by have := hi.h0; have := hi.h1; omega)
  have HB := hide h
  -- the two parts, behind the held one
  obtain ⟨a, ha⟩ : ∃ a : Snd, a = s.held := ⟨_, rfl⟩
  have haE : a = { s with hold := m } := by rw [ha, em]; rfl
  have hia : SndIn a := by rw [haE]; exact ⟨hi.l0, hi.l1, hi.g0, hi.g1, hi.p0, hi.p1, by show 0 ≤ m; omega, by show m ≤ 1000000; have := hi.h1; omega⟩
  have PE := hide (fun (V : World) (hV : V.heap[b]? = some (.cells (sncL a).toArray 116 (0, 0))) => snPeriod_any a b V hV hia)
  have hip : SndIn a.perS := per_in hia (by rw [ha]; exact ⟨by show 0 ≤ s.way.period; omega, by show s.way.period ≤ 1000000; omega⟩)
  have AG := hide (fun (V : World) (hV : V.heap[b]? = some (.cells (sncL a.perS).toArray 116 (0, 0))) => snAgain_any a.perS b V hV hip)
  obtain ⟨d1, hd1⟩ : ∃ d1, d1 = a.perE := ⟨_, rfl⟩
  obtain ⟨d2, hd2⟩ : ∃ d2, d2 = a.perS.agE := ⟨_, rfl⟩
  obtain ⟨z, hz⟩ : ∃ z, z = a.perS.agS := ⟨_, rfl⟩
  obtain ⟨y, hy⟩ : ∃ y, y = a.perS := ⟨_, rfl⟩
  have hzd : z.delay = s.delay ∧ z.hold = m := by
    rw [hz, (agS_keep _).1, (agS_keep _).2, (perS_keep _).1, (perS_keep _).2, haE]
    exact ⟨rfl, rfl⟩
  have hdue : s.due = (d2 || (d1 || s.asked)) := by rw [hd1, hd2, ha]; rfl
  have hE : s.tickE = (s.due && decide (m = 0)) := by rw [em]; rfl
  have hT : s.tick = { z with asked := s.due && decide (0 < m), hold := if s.tickE = true then s.delay else m } := by rw [hz, ha, em]; rfl
  rw [← hd1] at PE
  rw [← hd2, ← hz] at AG
  rw [← hy] at PE AG
  obtain ⟨due, hdu⟩ : ∃ due, due = s.due := ⟨_, rfl⟩
  obtain ⟨te, hte⟩ : ∃ te, te = s.tickE := ⟨_, rfl⟩
  obtain ⟨tk, htk⟩ : ∃ tk, tk = s.tick := ⟨_, rfl⟩
  rw [← hdu] at hdue hE hT
  rw [← hte] at hE hT ⊢
  rw [← htk] at hT ⊢
  have HE := hide hE
  have HT := hide hT
  have HD := hide hdue
  have HA := hide haE
  have HZ := hide hzd
  obtain ⟨c0, c1, c2, c3, c4, c5, c6, c7, c8, c9, c10, c11, c12, c13, c14, c15, c16⟩ := sn_cells h
  have fr := sn_free h
  have hm0 : 0 ≤ m := by omega
  clear h hs hi hway hdel ha haE hia hip hd1 hd2 hz hy hdue hE hT hdu hte htk hzd em
  go_enter Tryz.func71, Tryz.ntmps71
  go_upto_region 3 with fail
  obtain ⟨w1, e1⟩ : ∃ w1, w1 = W.setCell ⟨b, 15, none⟩ (.int .i64 m) := ⟨_, rfl⟩
  rw [← e1]
  have B1 : Hid (w1.heap[b]? = some (.cells (sncL a).toArray 116 (0, 0))) := hide (by rw [e1, HA.out]; exact set_heap [.int .i64 m] (sncL s) 15 _ HB.out)
  have K1 := hide (show Kp (fun k => k = b) W w1 by rw [e1]; exact Kp.one _ _ _ _)
  have z1 : b < w1.heap.size := heap_lt B1.out
  clear e1 c0 c1 c2 c3 c4 c5 c6 c7 c8 c9 c10 c11 c12 c13 c14 c15 c16 fr HB HA hm hw1
  go_wp2_with fail
  refine wp_loop_rounds 3 ?_
  rw [rounds_succ]
  obtain ⟨w2, e2⟩ : ∃ w2, w2 = w1.alloc (.cells #[.func (.func 94) #[.pointer (some ⟨b, 0, none⟩)] #[], .func (.func 95) #[.pointer (some ⟨b, 0, none⟩)] #[]] 60) := ⟨_, rfl⟩
  have R2 := World.alloc_heap_new w1 (.cells #[.func (.func 94) #[.pointer (some ⟨b, 0, none⟩)] #[], .func (.func 95) #[.pointer (some ⟨b, 0, none⟩)] #[]] 60)
  have q2 : Below w1.heap.size w1 w2 := by rw [e2]; exact (Below.refl _ _).alloc (Nat.le_refl _) _
  rw [← e2] at R2 ⊢
  replace R2 := hide R2
  have B2 := hide (heap_below B1.out q2)
  have K2 := hide (K1.out.trans (Kp.of q2))
  clear e2 q2 B1 K1
  generalize w1.heap.size = x at *
  have hxb : ¬ (fun k => k = b) x := by show ¬ x = b; omega
  have P1 := hide (PE.out w2 B2.out)
  have r0 : w2.cell? ⟨x, 0, none⟩ = some (.func (.func 94) #[.pointer (some ⟨b, 0, none⟩)] #[]) := by simp [World.cell?, R2.out]
  clear PE
  go_wp2_with fail
  (with_reducible refine (P1.out).mono ?_)
  rintro e3 w3 ⟨rfl, b3, k3⟩
  have B3 := hide b3
  have R3 := hide (k3.heap R2.out hxb)
  have K3 := hide (K2.out.trans k3)
  have A1 := hide (AG.out w3 b3)
  clear b3 k3 P1 AG r0 R2 B2 K2
  have zxb : b ≠ x := by omega
  have r1 : w3.cell? ⟨x, 1, none⟩ = some (.func (.func 95) #[.pointer (some ⟨b, 0, none⟩)] #[]) := by simp [World.cell?, R3.out]
  cases d1 with
  | false =>
    have HD3 := hide (show due = (d2 || s.asked) by rw [HD.out, Bool.false_or])
    clear HD
    go_wp2_with fail
    rw [rounds_succ]
    go_wp2_with fail
    (with_reducible refine (A1.out).mono ?_)
    rintro e4 w4 ⟨rfl, b4, k4⟩
    have B4 := hide b4
    have K4 := hide (K3.out.trans k4)
    clear b4 k4 A1 B3 R3 K3 r1
    cases d2 with
    | false =>
      have HDU := hide (show due = s.asked by rw [HD3.out, Bool.false_or])
      clear HD3
      obtain ⟨c0, c1, c2, c3, c4, c5, c6, c7, c8, c9, c10, c11, c12, c13, c14, c15, c16⟩ := sn_cells B4.out
      have fr := sn_free B4.out
      rw [HZ.out.1] at c11
      rw [HZ.out.2] at c15
      rcases hq : s.asked with _ | _
      · rw [hq] at HDU
        have E1 := hide (show te = false by rw [HE.out, HDU.out]; rfl)
        have E2 := hide (show tk = { z with asked := false, hold := m } by rw [HT.out, if_neg (by rw [E1.out]; decide), HDU.out]; rfl)
        clear HE HT HDU
        go_wp2_with fail
        rw [rounds_succ]
        go_wp2_with fail
        have H1 := set_heap [.bool false] (sncL z) 16 _ B4.out
        go_ret
        have H2 := hide (show tk = { z with asked := false } by rw [E2.out, ← HZ.out.2])
        exact ⟨by rw [E1.out]; rfl, by rw [H2.out]; exact H1, K4.out.trans (Kp.one _ _ _ _)⟩
      · rw [hq] at HDU
        by_cases h0 : m = 0
        · have E1 := hide (show te = true by rw [HE.out, HDU.out, decide_eq_true h0]; rfl)
          have E2 := hide (show tk = { z with asked := false, hold := s.delay } by rw [HT.out, if_pos E1.out, HDU.out, decide_eq_false (show ¬ 0 < m by omega)]; rfl)
          subst h0
          clear HE HT HDU
          go_wp2_with fail
          rw [rounds_succ]
          go_wp2_with fail
          have H1 := set_heap [.bool false] (sncL z) 16 _ B4.out
          have H2 := set_heap [.int .i64 s.delay] _ 15 _ H1
          go_ret
          exact ⟨by rw [E1.out]; rfl, by rw [E2.out]; exact H2, K4.out.trans ((Kp.one _ _ _ _).trans (Kp.one _ _ _ _))⟩
        · have E1 := hide (show te = false by rw [HE.out, HDU.out, decide_eq_false h0]; rfl)
          have E2 := hide (show tk = { z with asked := true, hold := m } by rw [HT.out, if_neg (by rw [E1.out]; decide), HDU.out, decide_eq_true (show 0 < m by omega)]; rfl)
          have hmp : 0 < m := by omega
          have hme : (m == 0) = false := by simpa using h0
          clear HE HT HDU
          go_wp2_with fail
          rw [rounds_succ]
          go_wp2_with fail
          have H1 := set_heap [.bool true] (sncL z) 16 _ B4.out
          go_ret
          have H2 := hide (show tk = { z with asked := true } by rw [E2.out, ← HZ.out.2])
          exact ⟨by rw [E1.out]; rfl, by rw [H2.out]; exact H1, K4.out.trans (Kp.one _ _ _ _)⟩
    | true =>
      have HDU := hide (show due = true by rw [HD3.out]; rfl)
      clear HD3
      obtain ⟨c0, c1, c2, c3, c4, c5, c6, c7, c8, c9, c10, c11, c12, c13, c14, c15, c16⟩ := sn_cells B4.out
      have fr := sn_free B4.out
      rw [HZ.out.1] at c11
      rw [HZ.out.2] at c15
      by_cases h0 : m = 0
      · have E1 := hide (show te = true by rw [HE.out, HDU.out, decide_eq_true h0]; rfl)
        have E2 := hide (show tk = { z with asked := false, hold := s.delay } by rw [HT.out, if_pos E1.out, HDU.out, decide_eq_false (show ¬ 0 < m by omega)]; rfl)
        subst h0
        clear HE HT HDU
        go_wp2_with fail
        rw [rounds_succ]
        go_wp2_with fail
        have H1 := set_heap [.bool false] (sncL z) 16 _ B4.out
        have H2 := set_heap [.int .i64 s.delay] _ 15 _ H1
        go_ret
        exact ⟨by rw [E1.out]; rfl, by rw [E2.out]; exact H2, K4.out.trans ((Kp.one _ _ _ _).trans (Kp.one _ _ _ _))⟩
      · have E1 := hide (show te = false by rw [HE.out, HDU.out, decide_eq_false h0]; rfl)
        have E2 := hide (show tk = { z with asked := true, hold := m } by rw [HT.out, if_neg (by rw [E1.out]; decide), HDU.out, decide_eq_true (show 0 < m by omega)]; rfl)
        have hmp : 0 < m := by omega
        have hme : (m == 0) = false := by simpa using h0
        clear HE HT HDU
        go_wp2_with fail
        rw [rounds_succ]
        go_wp2_with fail
        have H1 := set_heap [.bool true] (sncL z) 16 _ B4.out
        go_ret
        have H2 := hide (show tk = { z with asked := true } by rw [E2.out, ← HZ.out.2])
        exact ⟨by rw [E1.out]; rfl, by rw [H2.out]; exact H1, K4.out.trans (Kp.one _ _ _ _)⟩
  | true =>
    have HD3 := hide (show due = (d2 || true) by rw [HD.out]; rfl)
    clear HD
    go_wp2_with fail
    rw [rounds_succ]
    go_wp2_with fail
    (with_reducible refine (A1.out).mono ?_)
    rintro e4 w4 ⟨rfl, b4, k4⟩
    have B4 := hide b4
    have K4 := hide (K3.out.trans k4)
    clear b4 k4 A1 B3 R3 K3 r1
    cases d2 with
    | false =>
      have HDU := hide (show due = true by rw [HD3.out]; rfl)
      clear HD3
      obtain ⟨c0, c1, c2, c3, c4, c5, c6, c7, c8, c9, c10, c11, c12, c13, c14, c15, c16⟩ := sn_cells B4.out
      have fr := sn_free B4.out
      rw [HZ.out.1] at c11
      rw [HZ.out.2] at c15
      by_cases h0 : m = 0
      · have E1 := hide (show te = true by rw [HE.out, HDU.out, decide_eq_true h0]; rfl)
        have E2 := hide (show tk = { z with asked := false, hold := s.delay } by rw [HT.out, if_pos E1.out, HDU.out, decide_eq_false (show ¬ 0 < m by omega)]; rfl)
        subst h0
        clear HE HT HDU
        go_wp2_with fail
        rw [rounds_succ]
        go_wp2_with fail
        have H1 := set_heap [.bool false] (sncL z) 16 _ B4.out
        have H2 := set_heap [.int .i64 s.delay] _ 15 _ H1
        go_ret
        exact ⟨by rw [E1.out]; rfl, by rw [E2.out]; exact H2, K4.out.trans ((Kp.one _ _ _ _).trans (Kp.one _ _ _ _))⟩
      · have E1 := hide (show te = false by rw [HE.out, HDU.out, decide_eq_false h0]; rfl)
        have E2 := hide (show tk = { z with asked := true, hold := m } by rw [HT.out, if_neg (by rw [E1.out]; decide), HDU.out, decide_eq_true (show 0 < m by omega)]; rfl)
        have hmp : 0 < m := by omega
        have hme : (m == 0) = false := by simpa using h0
        clear HE HT HDU
        go_wp2_with fail
        rw [rounds_succ]
        go_wp2_with fail
        have H1 := set_heap [.bool true] (sncL z) 16 _ B4.out
        go_ret
        have H2 := hide (show tk = { z with asked := true } by rw [E2.out, ← HZ.out.2])
        exact ⟨by rw [E1.out]; rfl, by rw [H2.out]; exact H1, K4.out.trans (Kp.one _ _ _ _)⟩
    | true =>
      have HDU := hide (show due = true by rw [HD3.out]; rfl)
      clear HD3
      obtain ⟨c0, c1, c2, c3, c4, c5, c6, c7, c8, c9, c10, c11, c12, c13, c14, c15, c16⟩ := sn_cells B4.out
      have fr := sn_free B4.out
      rw [HZ.out.1] at c11
      rw [HZ.out.2] at c15
      by_cases h0 : m = 0
      · have E1 := hide (show te = true by rw [HE.out, HDU.out, decide_eq_true h0]; rfl)
        have E2 := hide (show tk = { z with asked := false, hold := s.delay } by rw [HT.out, if_pos E1.out, HDU.out, decide_eq_false (show ¬ 0 < m by omega)]; rfl)
        subst h0
        clear HE HT HDU
        go_wp2_with fail
        rw [rounds_succ]
        go_wp2_with fail
        have H1 := set_heap [.bool false] (sncL z) 16 _ B4.out
        have H2 := set_heap [.int .i64 s.delay] _ 15 _ H1
        go_ret
        exact ⟨by rw [E1.out]; rfl, by rw [E2.out]; exact H2, K4.out.trans ((Kp.one _ _ _ _).trans (Kp.one _ _ _ _))⟩
      · have E1 := hide (show te = false by rw [HE.out, HDU.out, decide_eq_false h0]; rfl)
        have E2 := hide (show tk = { z with asked := true, hold := m } by rw [HT.out, if_neg (by rw [E1.out]; decide), HDU.out, decide_eq_true (show 0 < m by omega)]; rfl)
        have hmp : 0 < m := by omega
        have hme : (m == 0) = false := by simpa using h0
        clear HE HT HDU
        go_wp2_with fail
        rw [rounds_succ]
        go_wp2_with fail
        have H1 := set_heap [.bool true] (sncL z) 16 _ B4.out
        go_ret
        have H2 := hide (show tk = { z with asked := true } by rw [E2.out, ← HZ.out.2])
        exact ⟨by rw [E1.out]; rfl, by rw [H2.out]; exact H1, K4.out.trans (Kp.one _ _ _ _)⟩
end Go.Proofs.YtnhegnneohpkaaaGreat
