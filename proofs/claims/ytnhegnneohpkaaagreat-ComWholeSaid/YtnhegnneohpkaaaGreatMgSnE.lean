/- (*send.sending).again and period. -/
import Derived.Test.YtnhegnneohpkaaaGreatMgOff
import Derived.Test.YtnhegnneohpkaaaGreatSnD
import Derived.Test.YtnhegnneohpkaaaGreatCxP
namespace Go.Proofs.YtnhegnneohpkaaaGreat
open Go.ChangeShapes Go.WideShapes Go.ChangeAt Go.RowKit
open CM PD SG

theorem sn_free {W : World} {B : Nat} {s : Snd} {t : TypeId} (h : W.heap[B]? = some (.cells (sncL s).toArray t (0, 0))) (j : Nat) : W.frozen? ⟨B, j, none⟩ = false := by simp [World.frozen?, h]
/-- What a sending that may be has within. -/
structure SndIn (s : Snd) : Prop where
  l0 : 0 ≤ s.left
  l1 : s.left ≤ 1000000
  g0 : 0 ≤ s.gap
  g1 : s.gap ≤ 1000000
  p0 : 0 ≤ s.period
  p1 : s.period ≤ 1000000
  h0 : 0 ≤ s.hold
  h1 : s.hold ≤ 1000000
theorem snd_inn {s : Snd} (h : sndB s = true) : SndIn s := by
  have hw := wayB_iff.1 (way_right h)
  obtain ⟨_, _, h3, h4, h5, h6, h7, h8, h9, h10⟩ := sndB_iff.1 h
  refine ⟨h8, ?_, ?_, ?_, ?_, ?_, h5, by omega⟩
  · split at h9 <;> omega
  · split at h10 <;> omega
  · split at h10 <;> omega
  · split at h7 <;> omega
  · split at h7
    · have h7' := h7.2
      omega
    · omega

set_option maxRecDepth 100000 in
set_option maxHeartbeats 8000000 in
theorem snAgain_any (s : Snd) (b : Nat) (W : World) (h : W.heap[b]? = some (.cells (sncL s).toArray 116 (0, 0))) (hi : SndIn s) :
    Calls Tryz.prog 95 #[.pointer (some ⟨b, 0, none⟩)] W fun e W' => e = .returned (.bool s.agE) ∧ W'.heap[b]? = some (.cells (sncL s.agS).toArray 116 (0, 0)) ∧ Kp (fun k => k = b) W W' := by
  have HB := hide h
  obtain ⟨c0, c1, c2, c3, c4, c5, c6, c7, c8, c9, c10, c11, c12, c13, c14, c15, c16⟩ := sn_cells h
  have fr := sn_free h
  have hw1 : IntKind.i64.wrap (s.gap - 1) = s.gap - 1 := IntWalk.i64_in _ (by have := hi.g0; have := hi.g1; omega)
  have hw2 : IntKind.i64.wrap (s.left - 1) = s.left - 1 := IntWalk.i64_in _ (by have := hi.l0; have := hi.l1; omega)
  have l0 := hi.l0
  clear h hi
  by_cases h0 : s.left = 0
  · have e1 : s.agS = s := if_pos h0
    have e2 : s.agE = false := by unfold Snd.agE; rw [h0]; rfl
    rw [e1, e2]
    rw [h0] at c14
    clear e1 e2 hw2 l0 h0
    go_enter Tryz.func95, Tryz.ntmps95
    go_wp2
    go_ret
    exact ⟨rfl, HB.out, Kp.refl⟩
  · have hE : (s.left == 0) = false := by simpa using h0
    by_cases h1 : 1 < s.gap
    · have e1 : s.agS = { s with gap := s.gap - 1 } := by unfold Snd.agS; rw [if_neg h0, if_pos h1]
      have e2 : s.agE = false := by unfold Snd.agE; rw [decide_eq_false (show ¬ s.gap ≤ 1 by omega), Bool.and_false]
      have hg : 0 < s.gap - 1 := by omega
      rw [e1, e2]
      clear e1 e2 h0 h1 hw2 l0
      go_enter Tryz.func95, Tryz.ntmps95
      go_wp2
      have H1 := set_heap [.int .i64 (s.gap - 1)] (sncL s) 13 _ HB.out
      go_ret
      exact ⟨rfl, H1, Kp.one _ _ _ _⟩
    · have e2 : s.agE = true := by unfold Snd.agE; rw [decide_eq_true h0, decide_eq_true (show s.gap ≤ 1 by omega)]; rfl
      have hg : ¬ 0 < s.gap - 1 := by omega
      rw [e2]
      by_cases h2 : 1 < s.left
      · have e1 : s.agS = { s with left := s.left - 1, gap := s.way.gap } := by unfold Snd.agS; rw [if_neg h0, if_neg h1, if_pos h2]
        have hl : 0 < s.left - 1 := by omega
        rw [e1]
        obtain ⟨s2, hs2⟩ : ∃ s2 : Snd, s2 = { s with gap := s.gap - 1, left := s.left - 1 } := ⟨_, rfl⟩
        have hwy : s2.way = s.way := by rw [hs2]; rfl
        have WY := hide (fun (V : World) (hV : Hid (V.heap[b]? = some (.cells (sncL s2).toArray 116 (0, 0)))) => snWay_any s2 b 116 V hV)
        rw [hwy] at WY
        obtain ⟨wy, hwy2⟩ : ∃ wy, wy = s.way := ⟨_, rfl⟩
        rw [← hwy2] at WY ⊢
        have HS2 := hide hs2
        clear e1 e2 h0 h1 h2 l0 hwy hs2 hwy2
        go_enter Tryz.func95, Tryz.ntmps95
        go_upto_region 8 with fail
        obtain ⟨V, hV⟩ : ∃ V, V = (W.setCell ⟨b, 13, none⟩ (.int .i64 (s.gap - 1))).setCell ⟨b, 14, none⟩ (.int .i64 (s.left - 1)) := ⟨_, rfl⟩
        rw [← hV]
        have H2 : Hid (V.heap[b]? = some (.cells (sncL s2).toArray 116 (0, 0))) := hide (by
          rw [hV, HS2.out]
          exact set_heap [.int .i64 (s.left - 1)] (sncL { s with gap := s.gap - 1 }) 14 _ (set_heap [.int .i64 (s.gap - 1)] (sncL s) 13 _ HB.out))
        have K2 := hide (show Kp (fun k => k = b) W V by rw [hV]; exact (Kp.one _ _ _ _).trans (Kp.one _ _ _ _))
        clear hV c0 c1 c2 c3 c4 c5 c6 c7 c8 c9 c10 c11 c12 c13 c14 c15 c16 fr HB hw1 hw2 hg hl hE
        have WY1 := hide (WY.out V H2)
        go_wp2_with fail
        (with_reducible refine (WY1.out).mono ?_)
        rintro e1 w1 ⟨rfl, q1⟩
        have H3 := hide (heap_below H2.out q1)
        have K3 := hide (K2.out.trans (Kp.of q1))
        obtain ⟨d0, d1, d2, d3, d4, d5, d6, d7, d8, d9, d10, d11, d12, d13, d14, d15, d16⟩ := sn_cells H3.out
        have fr := sn_free H3.out
        have FG : ∀ W : World, (Instr.field 32 (.agg #[.int .i64 wy.kind, .int .i64 wy.first, .int .i64 wy.period, .int .i64 wy.reps, .int .i64 wy.gap]) 4).run Tryz.prog W = .ok (.int .i64 wy.gap) W := fun W => by kernel_rfl
        clear q1 WY WY1 H2 K2
        go_wp2_with fail
        have H4 := set_heap [.int .i64 wy.gap] (sncL s2) 13 _ H3.out
        rw [HS2.out] at H4
        go_ret
        exact ⟨rfl, H4, K3.out.trans (Kp.one _ _ _ _)⟩
      · have e1 : s.agS = { s with left := s.left - 1, gap := s.gap - 1 } := by unfold Snd.agS; rw [if_neg h0, if_neg h1, if_neg h2]
        have hl : ¬ 0 < s.left - 1 := by omega
        rw [e1]
        clear e1 e2 h0 h1 h2 l0
        go_enter Tryz.func95, Tryz.ntmps95
        go_wp2
        have H1 := set_heap [.int .i64 (s.gap - 1)] (sncL s) 13 _ HB.out
        have H2 := set_heap [.int .i64 (s.left - 1)] _ 14 _ H1
        go_ret
        exact ⟨rfl, H2, (Kp.one _ _ _ _).trans (Kp.one _ _ _ _)⟩

set_option maxRecDepth 100000 in
set_option maxHeartbeats 8000000 in
theorem snPeriod_any (s : Snd) (b : Nat) (W : World) (h : W.heap[b]? = some (.cells (sncL s).toArray 116 (0, 0))) (hi : SndIn s) :
    Calls Tryz.prog 94 #[.pointer (some ⟨b, 0, none⟩)] W fun e W' => e = .returned (.bool s.perE) ∧ W'.heap[b]? = some (.cells (sncL s.perS).toArray 116 (0, 0)) ∧ Kp (fun k => k = b) W W' := by
  have HB := hide h
  have zb : b < W.heap.size := heap_lt h
  have WY := hide (snWay_any s b 116 W (hide h))
  have hw1 : IntKind.i64.wrap (s.period - 1) = s.period - 1 := IntWalk.i64_in _ (by have := hi.p0; have := hi.p1; omega)
  have HPE := hide (show s.perE = (perB s.way && decide (s.period ≤ 1)) from rfl)
  have HPS := hide (show s.perS = if perB s.way = true then { s with period := if s.period ≤ 1 then s.way.period else s.period - 1 } else s from rfl)
  obtain ⟨wy, hwy⟩ : ∃ wy, wy = s.way := ⟨_, rfl⟩
  rw [← hwy] at WY HPE HPS
  obtain ⟨pe, hpe⟩ : ∃ pe, pe = s.perE := ⟨_, rfl⟩
  obtain ⟨ps, hps⟩ : ∃ ps, ps = s.perS := ⟨_, rfl⟩
  rw [← hpe] at HPE ⊢
  rw [← hps] at HPS ⊢
  have PR := hide (fun V => show Calls Tryz.prog 88 #[.agg #[.int .i64 wy.kind, .int .i64 wy.first, .int .i64 wy.period, .int .i64 wy.reps, .int .i64 wy.gap]] V fun e w' => e = .returned (.bool (perB wy)) ∧ Below V.heap.size V w' from periodic_any wy V)
  clear h hi hwy hpe hps
  go_enter Tryz.func94, Tryz.ntmps94
  go_wp2_with fail
  (with_reducible refine (WY.out).mono ?_)
  rintro e1 w1 ⟨rfl, q1⟩
  have X0 := World.alloc_heap_new w1 (.cells #[.int .i64 0, .int .i64 0, .int .i64 0, .int .i64 0, .int .i64 0] 32)
  have qx : Below w1.heap.size w1 (w1.alloc (.cells #[.int .i64 0, .int .i64 0, .int .i64 0, .int .i64 0, .int .i64 0] 32)) := (Below.refl _ _).alloc (Nat.le_refl _) _
  have TX := hide (show (w1.alloc (.cells #[.int .i64 0, .int .i64 0, .int .i64 0, .int .i64 0, .int .i64 0] 32)).there w1.heap.size 0 5 from there_heap (cs := [_, _, _, _, _]) X0)
  have B1 := hide (heap_below (heap_below HB.out q1) qx)
  have z1 : b < w1.heap.size := by have := q1.size; omega
  have K1 := hide (show Kp (fun k => k = b) W (w1.alloc (.cells #[.int .i64 0, .int .i64 0, .int .i64 0, .int .i64 0, .int .i64 0] 32)) from (Kp.of q1).trans (Kp.of qx))
  have z0 := hide q1.size
  clear q1 WY HB
  go_wp2_with (refine wpList_store_hid (by rfl) 32 (.tmp 3) (.tmp 5) (by rfl) w1.heap.size 0 [.int .i64 wy.kind, .int .i64 wy.first, .int .i64 wy.period, .int .i64 wy.reps, .int .i64 wy.gap] (by rfl) (by rfl) (by exact TX.out) (by kernel_rfl) (by simp [Value.oneCell']) ?_)
  intro w2 e2
  have X2 := hide (show w2.heap[w1.heap.size]? = some (.cells [.int .i64 wy.kind, .int .i64 wy.first, .int .i64 wy.period, .int .i64 wy.reps, .int .i64 wy.gap].toArray 32 (0, 0)) by rw [e2.out]; exact whole_heap [.int .i64 wy.kind, .int .i64 wy.first, .int .i64 wy.period, .int .i64 wy.reps, .int .i64 wy.gap] (xs := [_, _, _, _, _]) X0 rfl)
  have B2 := hide (show w2.heap[b]? = some (.cells (sncL s).toArray 116 (0, 0)) by rw [e2.out]; exact other_heap (by omega) _ _ _ B1.out)
  have zW : W.heap.size ≤ w1.heap.size := z0.out
  have K2 := hide (show Kp (fun k => k = b) W w2 by rw [e2.out]; exact K1.out.new zW _ _)
  clear e2 TX X0 B1 K1 qx
  generalize w1.heap.size = x at *
  go_wp2_with (refine wpList_load_row rfl 32 (.tmp 3) (by rfl) x (by rfl) 32 #[.int .i64 wy.kind, .int .i64 wy.first, .int .i64 wy.period, .int .i64 wy.reps, .int .i64 wy.gap] (0, 0) _ (by exact X2.out) Tryz.underlying32 (by rfl) (by kernel_rfl) ?_)
  (with_reducible refine (PR.out _).mono ?_)
  rintro e3 w3 ⟨rfl, q3⟩
  have X3 := hide (heap_below X2.out q3)
  have B3 := hide (heap_below B2.out q3)
  have K3 := hide (K2.out.trans (Kp.of q3))
  have zx3 : x < w3.heap.size := heap_lt X3.out
  clear q3 PR X2 B2 K2 z0
  rcases hp : perB wy with _ | _
  · have E1 := hide (show pe = false by rw [HPE.out, hp]; rfl)
    have E2 := hide (show ps = s by rw [HPS.out, if_neg (by rw [hp]; decide)])
    clear HPE HPS
    go_wp2_with fail
    go_ret
    exact ⟨by rw [E1.out]; rfl, by rw [E2.out]; exact B3.out, K3.out⟩
  · obtain ⟨c0, c1, c2, c3, c4, c5, c6, c7, c8, c9, c10, c11, c12, c13, c14, c15, c16⟩ := sn_cells B3.out
    have fr := sn_free B3.out
    have y2 : w3.cell? ⟨x, 2, none⟩ = some (.int .i64 wy.period) := by simp [World.cell?, X3.out]
    have hbx : b ≠ x := by omega
    have hxb : x ≠ b := by omega
    by_cases h1 : s.period ≤ 1
    · have E1 := hide (show pe = true by rw [HPE.out, hp, decide_eq_true h1]; rfl)
      have E2 := hide (show ps = { s with period := wy.period } by rw [HPS.out, if_pos hp, if_pos h1])
      have hg : ¬ 0 < s.period - 1 := by omega
      have hg1 : ¬ 1 < s.period := by omega
      clear HPE HPS h1
      go_wp2_with fail
      have H1 := set_heap [.int .i64 (s.period - 1)] (sncL s) 12 _ B3.out
      have H2 := set_heap [.int .i64 wy.period] _ 12 _ H1
      go_ret
      exact ⟨by rw [E1.out]; rfl, by rw [E2.out]; exact H2, K3.out.trans ((Kp.one _ _ _ _).trans (Kp.one _ _ _ _))⟩
    · have E1 := hide (show pe = false by rw [HPE.out, decide_eq_false h1, Bool.and_false])
      have E2 := hide (show ps = { s with period := s.period - 1 } by rw [HPS.out, if_pos hp, if_neg h1])
      have hg : 0 < s.period - 1 := by omega
      have hg1 : 1 < s.period := by omega
      clear HPE HPS h1
      go_wp2_with fail
      have H1 := set_heap [.int .i64 (s.period - 1)] (sncL s) 12 _ B3.out
      go_ret
      exact ⟨by rw [E1.out]; rfl, by rw [E2.out]; exact H1, K3.out.trans (Kp.one _ _ _ _)⟩
end Go.Proofs.YtnhegnneohpkaaaGreat

/- (*send.sending).tick. -/
namespace Go.Proofs.YtnhegnneohpkaaaGreat
open Go.ChangeShapes Go.WideShapes Go.ChangeAt Go.RowKit
open CM PD SG

theorem agS_keep (s : Snd) : s.agS.delay = s.delay ∧ s.agS.hold = s.hold := by
  unfold Snd.agS
  split
  · exact ⟨rfl, rfl⟩
  · split <;> exact ⟨rfl, rfl⟩
theorem perS_keep (s : Snd) : s.perS.delay = s.delay ∧ s.perS.hold = s.hold := by
  unfold Snd.perS
  split <;> exact ⟨rfl, rfl⟩
theorem per_in {s : Snd} (hi : SndIn s) (hw : 0 ≤ s.way.period ∧ s.way.period ≤ 1000000) : SndIn s.perS := by
  obtain ⟨a, b, c, d, e, f, g, h⟩ := hi
  unfold Snd.perS
  split
  · refine ⟨a, b, c, d, ?_, ?_, g, h⟩
    · show 0 ≤ if s.period ≤ 1 then s.way.period else s.period - 1
      split <;> omega
    · show (if s.period ≤ 1 then s.way.period else s.period - 1) ≤ 1000000
      split <;> omega
  · exact ⟨a, b, c, d, e, f, g, h⟩

set_option maxRecDepth 100000 in
set_option maxHeartbeats 8000000 in
theorem snTick_any (s : Snd) (b : Nat) (W : World) (h : W.heap[b]? = some (.cells (sncL s).toArray 116 (0, 0))) (hs : sndB s = true) :
    Calls Tryz.prog 71 #[.pointer (some ⟨b, 0, none⟩)] W fun e W' => e = .returned (.bool s.tickE) ∧ W'.heap[b]? = some (.cells (sncL s.tick).toArray 116 (0, 0)) ∧ Kp (fun k => k = b) W W' := by
  have hi := snd_inn hs
  have hway := wayB_iff.1 (way_right hs)
  have hdel := (sndB_iff.1 hs).2.2
  have zb : b < W.heap.size := heap_lt h
  obtain ⟨m, em, hm⟩ := run_max (P := Tryz.prog) (s.hold - 1) 0
  have hw1 : IntKind.i64.wrap (s.hold - 1) = s.hold - 1 := IntWalk.i64_in _ (by have := hi.h0; have := hi.h1; omega)
  have HB := hide h
  -- the two parts, behind the held one
  obtain ⟨a, ha⟩ : ∃ a : Snd, a = s.held := ⟨_, rfl⟩
  have haE : a = { s with hold := m } := by rw [ha, em]; rfl
  have hia : SndIn a := by rw [haE]; exact ⟨hi.l0, hi.l1, hi.g0, hi.g1, hi.p0, hi.p1, by show 0 ≤ m; omega, by show m ≤ 1000000; have := hi.h1; omega⟩
  have PE := hide (fun (V : World) (hV : V.heap[b]? = some (.cells (sncL a).toArray 116 (0, 0))) => snPeriod_any a b V hV hia)
  have hip : SndIn a.perS := per_in hia (by rw [ha]; exact ⟨by show 0 ≤ s.way.period; omega, by show s.way.period ≤ 1000000; omega⟩)
  have AG := hide (fun (V : World) (hV : V.heap[b]? = some (.cells (sncL a.perS).toArray 116 (0, 0))) => snAgain_any a.perS b V hV hip)
  obtain ⟨d1, hd1⟩ : ∃ d1, d1 = a.perE := ⟨_, rfl⟩
  obtain ⟨d2, hd2⟩ : ∃ d2, d2 = a.perS.agE := ⟨_, rfl⟩
  obtain ⟨z, hz⟩ : ∃ z, z = a.perS.agS := ⟨_, rfl⟩
  obtain ⟨y, hy⟩ : ∃ y, y = a.perS := ⟨_, rfl⟩
  have hzd : z.delay = s.delay ∧ z.hold = m := by
    rw [hz, (agS_keep _).1, (agS_keep _).2, (perS_keep _).1, (perS_keep _).2, haE]
    exact ⟨rfl, rfl⟩
  have hdue : s.due = (d2 || (d1 || s.asked)) := by rw [hd1, hd2, ha]; rfl
  have hE : s.tickE = (s.due && decide (m = 0)) := by rw [em]; rfl
  have hT : s.tick = { z with asked := s.due && decide (0 < m), hold := if s.tickE = true then s.delay else m } := by rw [hz, ha, em]; rfl
  rw [← hd1] at PE
  rw [← hd2, ← hz] at AG
  rw [← hy] at PE AG
  obtain ⟨due, hdu⟩ : ∃ due, due = s.due := ⟨_, rfl⟩
  obtain ⟨te, hte⟩ : ∃ te, te = s.tickE := ⟨_, rfl⟩
  obtain ⟨tk, htk⟩ : ∃ tk, tk = s.tick := ⟨_, rfl⟩
  rw [← hdu] at hdue hE hT
  rw [← hte] at hE hT ⊢
  rw [← htk] at hT ⊢
  have HE := hide hE
  have HT := hide hT
  have HD := hide hdue
  have HA := hide haE
  have HZ := hide hzd
  obtain ⟨c0, c1, c2, c3, c4, c5, c6, c7, c8, c9, c10, c11, c12, c13, c14, c15, c16⟩ := sn_cells h
  have fr := sn_free h
  have hm0 : 0 ≤ m := by omega
  clear h hs hi hway hdel ha haE hia hip hd1 hd2 hz hy hdue hE hT hdu hte htk hzd em
  go_enter Tryz.func71, Tryz.ntmps71
  go_upto_region 3 with fail
  obtain ⟨w1, e1⟩ : ∃ w1, w1 = W.setCell ⟨b, 15, none⟩ (.int .i64 m) := ⟨_, rfl⟩
  rw [← e1]
  have B1 : Hid (w1.heap[b]? = some (.cells (sncL a).toArray 116 (0, 0))) := hide (by rw [e1, HA.out]; exact set_heap [.int .i64 m] (sncL s) 15 _ HB.out)
  have K1 := hide (show Kp (fun k => k = b) W w1 by rw [e1]; exact Kp.one _ _ _ _)
  have z1 : b < w1.heap.size := heap_lt B1.out
  clear e1 c0 c1 c2 c3 c4 c5 c6 c7 c8 c9 c10 c11 c12 c13 c14 c15 c16 fr HB HA hm hw1
  go_wp2_with fail
  refine wp_loop_rounds 3 ?_
  rw [rounds_succ]
  obtain ⟨w2, e2⟩ : ∃ w2, w2 = w1.alloc (.cells #[.func (.func 94) #[.pointer (some ⟨b, 0, none⟩)] #[], .func (.func 95) #[.pointer (some ⟨b, 0, none⟩)] #[]] 60) := ⟨_, rfl⟩
  have R2 := World.alloc_heap_new w1 (.cells #[.func (.func 94) #[.pointer (some ⟨b, 0, none⟩)] #[], .func (.func 95) #[.pointer (some ⟨b, 0, none⟩)] #[]] 60)
  have q2 : Below w1.heap.size w1 w2 := by rw [e2]; exact (Below.refl _ _).alloc (Nat.le_refl _) _
  rw [← e2] at R2 ⊢
  replace R2 := hide R2
  have B2 := hide (heap_below B1.out q2)
  have K2 := hide (K1.out.trans (Kp.of q2))
  clear e2 q2 B1 K1
  generalize w1.heap.size = x at *
  have hxb : ¬ (fun k => k = b) x := by show ¬ x = b; omega
  have P1 := hide (PE.out w2 B2.out)
  have r0 : w2.cell? ⟨x, 0, none⟩ = some (.func (.func 94) #[.pointer (some ⟨b, 0, none⟩)] #[]) := by simp [World.cell?, R2.out]
  clear PE
  go_wp2_with fail
  (with_reducible refine (P1.out).mono ?_)
  rintro e3 w3 ⟨rfl, b3, k3⟩
  have B3 := hide b3
  have R3 := hide (k3.heap R2.out hxb)
  have K3 := hide (K2.out.trans k3)
  have A1 := hide (AG.out w3 b3)
  clear b3 k3 P1 AG r0 R2 B2 K2
  have zxb : b ≠ x := by omega
  have r1 : w3.cell? ⟨x, 1, none⟩ = some (.func (.func 95) #[.pointer (some ⟨b, 0, none⟩)] #[]) := by simp [World.cell?, R3.out]
  cases d1 with
  | false =>
    have HD3 := hide (show due = (d2 || s.asked) by rw [HD.out, Bool.false_or])
    clear HD
    go_wp2_with fail
    rw [rounds_succ]
    go_wp2_with fail
    (with_reducible refine (A1.out).mono ?_)
    rintro e4 w4 ⟨rfl, b4, k4⟩
    have B4 := hide b4
    have K4 := hide (K3.out.trans k4)
    clear b4 k4 A1 B3 R3 K3 r1
    cases d2 with
    | false =>
      have HDU := hide (show due = s.asked by rw [HD3.out, Bool.false_or])
      clear HD3
      obtain ⟨c0, c1, c2, c3, c4, c5, c6, c7, c8, c9, c10, c11, c12, c13, c14, c15, c16⟩ := sn_cells B4.out
      have fr := sn_free B4.out
      rw [HZ.out.1] at c11
      rw [HZ.out.2] at c15
      rcases hq : s.asked with _ | _
      · rw [hq] at HDU
        have E1 := hide (show te = false by rw [HE.out, HDU.out]; rfl)
        have E2 := hide (show tk = { z with asked := false, hold := m } by rw [HT.out, if_neg (by rw [E1.out]; decide), HDU.out]; rfl)
        clear HE HT HDU
        go_wp2_with fail
        rw [rounds_succ]
        go_wp2_with fail
        have H1 := set_heap [.bool false] (sncL z) 16 _ B4.out
        go_ret
        have H2 := hide (show tk = { z with asked := false } by rw [E2.out, ← HZ.out.2])
        exact ⟨by rw [E1.out]; rfl, by rw [H2.out]; exact H1, K4.out.trans (Kp.one _ _ _ _)⟩
      · rw [hq] at HDU
        by_cases h0 : m = 0
        · have E1 := hide (show te = true by rw [HE.out, HDU.out, decide_eq_true h0]; rfl)
          have E2 := hide (show tk = { z with asked := false, hold := s.delay } by rw [HT.out, if_pos E1.out, HDU.out, decide_eq_false (show ¬ 0 < m by omega)]; rfl)
          subst h0
          clear HE HT HDU
          go_wp2_with fail
          rw [rounds_succ]
          go_wp2_with fail
          have H1 := set_heap [.bool false] (sncL z) 16 _ B4.out
          have H2 := set_heap [.int .i64 s.delay] _ 15 _ H1
          go_ret
          exact ⟨by rw [E1.out]; rfl, by rw [E2.out]; exact H2, K4.out.trans ((Kp.one _ _ _ _).trans (Kp.one _ _ _ _))⟩
        · have E1 := hide (show te = false by rw [HE.out, HDU.out, decide_eq_false h0]; rfl)
          have E2 := hide (show tk = { z with asked := true, hold := m } by rw [HT.out, if_neg (by rw [E1.out]; decide), HDU.out, decide_eq_true (show 0 < m by omega)]; rfl)
          have hmp : 0 < m := by omega
          have hme : (m == 0) = false := by simpa using h0
          clear HE HT HDU
          go_wp2_with fail
          rw [rounds_succ]
          go_wp2_with fail
          have H1 := set_heap [.bool true] (sncL z) 16 _ B4.out
          go_ret
          have H2 := hide (show tk = { z with asked := true } by rw [E2.out, ← HZ.out.2])
          exact ⟨by rw [E1.out]; rfl, by rw [H2.out]; exact H1, K4.out.trans (Kp.one _ _ _ _)⟩
    | true =>
      have HDU := hide (show due = true by rw [HD3.out]; rfl)
      clear HD3
      obtain ⟨c0, c1, c2, c3, c4, c5, c6, c7, c8, c9, c10, c11, c12, c13, c14, c15, c16⟩ := sn_cells B4.out
      have fr := sn_free B4.out
      rw [HZ.out.1] at c11
      rw [HZ.out.2] at c15
      by_cases h0 : m = 0
      · have E1 := hide (show te = true by rw [HE.out, HDU.out, decide_eq_true h0]; rfl)
        have E2 := hide (show tk = { z with asked := false, hold := s.delay } by rw [HT.out, if_pos E1.out, HDU.out, decide_eq_false (show ¬ 0 < m by omega)]; rfl)
        subst h0
        clear HE HT HDU
        go_wp2_with fail
        rw [rounds_succ]
        go_wp2_with fail
        have H1 := set_heap [.bool false] (sncL z) 16 _ B4.out
        have H2 := set_heap [.int .i64 s.delay] _ 15 _ H1
        go_ret
        exact ⟨by rw [E1.out]; rfl, by rw [E2.out]; exact H2, K4.out.trans ((Kp.one _ _ _ _).trans (Kp.one _ _ _ _))⟩
      · have E1 := hide (show te = false by rw [HE.out, HDU.out, decide_eq_false h0]; rfl)
        have E2 := hide (show tk = { z with asked := true, hold := m } by rw [HT.out, if_neg (by rw [E1.out]; decide), HDU.out, decide_eq_true (show 0 < m by omega)]; rfl)
        have hmp : 0 < m := by omega
        have hme : (m == 0) = false := by simpa using h0
        clear HE HT HDU
        go_wp2_with fail
        rw [rounds_succ]
        go_wp2_with fail
        have H1 := set_heap [.bool true] (sncL z) 16 _ B4.out
        go_ret
        have H2 := hide (show tk = { z with asked := true } by rw [E2.out, ← HZ.out.2])
        exact ⟨by rw [E1.out]; rfl, by rw [H2.out]; exact H1, K4.out.trans (Kp.one _ _ _ _)⟩
  | true =>
    have HD3 := hide (show due = (d2 || true) by rw [HD.out]; rfl)
    clear HD
    go_wp2_with fail
    rw [rounds_succ]
    go_wp2_with fail
    (with_reducible refine (A1.out).mono ?_)
    rintro e4 w4 ⟨rfl, b4, k4⟩
    have B4 := hide b4
    have K4 := hide (K3.out.trans k4)
    clear b4 k4 A1 B3 R3 K3 r1
    cases d2 with
    | false =>
      have HDU := hide (show due = true by rw [HD3.out]; rfl)
      clear HD3
      obtain ⟨c0, c1, c2, c3, c4, c5, c6, c7, c8, c9, c10, c11, c12, c13, c14, c15, c16⟩ := sn_cells B4.out
      have fr := sn_free B4.out
      rw [HZ.out.1] at c11
      rw [HZ.out.2] at c15
      by_cases h0 : m = 0
      · have E1 := hide (show te = true by rw [HE.out, HDU.out, decide_eq_true h0]; rfl)
        have E2 := hide (show tk = { z with asked := false, hold := s.delay } by rw [HT.out, if_pos E1.out, HDU.out, decide_eq_false (show ¬ 0 < m by omega)]; rfl)
        subst h0
        clear HE HT HDU
        go_wp2_with fail
        rw [rounds_succ]
        go_wp2_with fail
        have H1 := set_heap [.bool false] (sncL z) 16 _ B4.out
        have H2 := set_heap [.int .i64 s.delay] _ 15 _ H1
        go_ret
        exact ⟨by rw [E1.out]; rfl, by rw [E2.out]; exact H2, K4.out.trans ((Kp.one _ _ _ _).trans (Kp.one _ _ _ _))⟩
      · have E1 := hide (show te = false by rw [HE.out, HDU.out, decide_eq_false h0]; rfl)
        have E2 := hide (show tk = { z with asked := true, hold := m } by rw [HT.out, if_neg (by rw [E1.out]; decide), HDU.out, decide_eq_true (show 0 < m by omega)]; rfl)
        have hmp : 0 < m := by omega
        have hme : (m == 0) = false := by simpa using h0
        clear HE HT HDU
        go_wp2_with fail
        rw [rounds_succ]
        go_wp2_with fail
        have H1 := set_heap [.bool true] (sncL z) 16 _ B4.out
        go_ret
        have H2 := hide (show tk = { z with asked := true } by rw [E2.out, ← HZ.out.2])
        exact ⟨by rw [E1.out]; rfl, by rw [H2.out]; exact H1, K4.out.trans (Kp.one _ _ _ _)⟩
    | true =>
      have HDU := hide (show due = true by rw [HD3.out]; rfl)
      clear HD3
      obtain ⟨c0, c1, c2, c3, c4, c5, c6, c7, c8, c9, c10, c11, c12, c13, c14, c15, c16⟩ := sn_cells B4.out
      have fr := sn_free B4.out
      rw [HZ.out.1] at c11
      rw [HZ.out.2] at c15
      by_cases h0 : m = 0
      · have E1 := hide (show te = true by rw [HE.out, HDU.out, decide_eq_true h0]; rfl)
        have E2 := hide (show tk = { z with asked := false, hold := s.delay } by rw [HT.out, if_pos E1.out, HDU.out, decide_eq_false (show ¬ 0 < m by omega)]; rfl)
        subst h0
        clear HE HT HDU
        go_wp2_with fail
        rw [rounds_succ]
        go_wp2_with fail
        have H1 := set_heap [.bool false] (sncL z) 16 _ B4.out
        have H2 := set_heap [.int .i64 s.delay] _ 15 _ H1
        go_ret
        exact ⟨by rw [E1.out]; rfl, by rw [E2.out]; exact H2, K4.out.trans ((Kp.one _ _ _ _).trans (Kp.one _ _ _ _))⟩
      · have E1 := hide (show te = false by rw [HE.out, HDU.out, decide_eq_false h0]; rfl)
        have E2 := hide (show tk = { z with asked := true, hold := m } by rw [HT.out, if_neg (by rw [E1.out]; decide), HDU.out, decide_eq_true (show 0 < m by omega)]; rfl)
        have hmp : 0 < m := by omega
        have hme : (m == 0) = false := by simpa using h0
        clear HE HT HDU
        go_wp2_with fail
        rw [rounds_succ]
        go_wp2_with fail
        have H1 := set_heap [.bool true] (sncL z) 16 _ B4.out
        go_ret
        have H2 := hide (show tk = { z with asked := true } by rw [E2.out, ← HZ.out.2])
        exact ⟨by rw [E1.out]; rfl, by rw [H2.out]; exact H1, K4.out.trans (Kp.one _ _ _ _)⟩
end Go.Proofs.YtnhegnneohpkaaaGreat
