/- The reference's With. -/
import Derived.Test.YtnfpbbgajabjkaaTmM
namespace Go.Proofs.Ytnfpbbgajabjkaa
open Go.ChangeShapes Go.WideShapes Go.ChangeAt Go.RowKit

set_option maxRecDepth 100000 in
set_option maxHeartbeats 4000000 in
theorem refWith_any (l : List Tm) (A : Option Addr) (c : Nat) (x : Tm) (w : World) (hr : TmR w w.heap.size A l) (hl : l.length ≤ 1000) (hlc : l.length ≤ c) (hs : srtP l) :
    Calls Try.prog 24 #[.slice A l.length c, .agg #[.int .i64 x.id, .int .i64 x.due]] w (RowV (insT l x) w) := by
  have HR := hide hr
  have HS := hide hs
  have q0 : Below w.heap.size w ((w.alloc (.cells #[.int .i64 x.id, .int .i64 x.due] 40)).alloc (.cells #[] 40)) := ((Below.refl _ _).alloc (Nat.le_refl _) _).alloc (by simp) _
  have B0 : Hid (((w.alloc (.cells #[.int .i64 x.id, .int .i64 x.due] 40)).alloc (.cells #[] 40)).heap[w.heap.size]? = some (.cells #[.int .i64 x.id, .int .i64 x.due] 40 (0, 0))) :=
    hide (heap_below (World.alloc_heap_new w _) ((Below.refl _ _).alloc (Nat.le_refl _) _))
  have O0 : Hid (Own ((w.alloc (.cells #[.int .i64 x.id, .int .i64 x.due] 40)).alloc (.cells #[] 40)) (w.heap.size + 1) 40 2 (some ⟨w.heap.size + 1, 0, none⟩) 0 []) := by
    have := Own.lit (w.alloc (.cells #[.int .i64 x.id, .int .i64 x.due] 40)) (w.heap.size + 1) 40 2 [] (by simp) (by simp) (by simp)
    exact hide (by simpa using this)
  clear hr hs
  go_enter Try.func24, Try.ntmps24
  go_wp2
  go_loopw [6] (fun vk W => ∃ k : Nat, k ≤ l.length ∧ vk = .int .i64 k ∧ Hid (∀ p (hp : p < l.length), p < k → ordT l[p] x < 0) ∧ Below w.heap.size w W ∧ Hid (W.heap[w.heap.size]? = some (.cells #[.int .i64 x.id, .int .i64 x.due] 40 (0, 0)) ∧ Own W (w.heap.size + 1) 40 2 (some ⟨w.heap.size + 1, 0, none⟩) 0 [])) (fun vk _ => l.length - (intOf vk).toNat)
  case atStart => exact ⟨0, Nat.zero_le _, rfl, hide (fun _ _ h => absurd h (by omega)), q0, hide ⟨B0.out, O0.out⟩⟩
  case round =>
    clear B0 O0 q0
    obtain ⟨k, hk, rfl, hP, q, hB⟩ := hrel
    have zw : w.heap.size < wr.heap.size := heap_lt hB.out.1
    have mx := fun s : InW wr => tmBox_s hB.out.1 s
    have h0k : (0 : Int) ≤ (k : Int) := by omega
    by_cases hgo : ∃ hk : k < l.length, ordT l[k] x < 0
    · obtain ⟨hlt, ho⟩ := hgo
      have HN := hide (show ∀ p (hp : p < l.length), p < k + 1 → ordT l[p] x < 0 from fun p hp hpk => by
        by_cases e : p = k
        · subst e; exact ho
        · exact hP.out p hp (by omega))
      obtain ⟨b, off, rfl, _⟩ := HR.out.at_ hlt
      have mj := TmR.all (TmR.next HR.out q q.size) (Nat.le_refl _) hlt
      have hi : (k : Int) < (l.length : Int) := by omega
      have hd : decide ((k : Int) < (l.length : Int)) = true := decide_eq_true hi
      have hd' : decide (k < l.length) = true := decide_eq_true hlt
      rw [ordT_neg] at ho
      unfold aheadT2 at ho
      rcases ho with h1 | ⟨h1, h2⟩
      · have g1 : decide (l[k].due < x.due) = true := decide_eq_true h1
        clear h1
        go_wp2_with fail
        refine wp_region_tame (by kernel_rfl) (by kernel_rfl) ?_
        repeat (go_big_quiet_step (fail))
        refine wpQuiet_nil ?_
        rintro _ ⟨s, rfl⟩
        have qs := q.trans (s.h.mono q.size)
        have N2 := hide (And.intro (heap_below hB.out.1 s.h) (hB.out.2.grown s.h))
        clear mj mx
        go_wp2
        go_roundw
        case rel => exact ⟨k + 1, by omega, by go_num, HN, qs, N2⟩
        case measure => simp [intOf]; omega
      · have g1 : decide (l[k].due < x.due) = false := decide_eq_false (by omega)
        have g2 : (l[k].due == x.due) = true := by rw [beq_iff_eq]; exact h1
        have g3 : decide (l[k].id < x.id) = true := decide_eq_true h2
        clear h1 h2
        go_wp2_with fail
        refine wp_region_tame (by kernel_rfl) (by kernel_rfl) ?_
        repeat (go_big_quiet_step (fail))
        refine wpQuiet_nil ?_
        rintro _ ⟨s, rfl⟩
        have qs := q.trans (s.h.mono q.size)
        have N2 := hide (And.intro (heap_below hB.out.1 s.h) (hB.out.2.grown s.h))
        clear mj mx
        go_wp2
        go_roundw
        case rel => exact ⟨k + 1, by omega, by go_num, HN, qs, N2⟩
        case measure => simp [intOf]; omega
    · have HPOS := hide (show posT l x = k from posT_eq hk hP.out (fun p hp hkp => Int.not_lt.1 fun hn => hgo ⟨by omega, srtP_mono HS.out x k p (by omega) hp hkp hn⟩))
      obtain ⟨p, hp⟩ : ∃ p, p = l.take k := ⟨_, rfl⟩
      obtain ⟨r, hrr⟩ : ∃ r, r = l.drop k := ⟨_, rfl⟩
      have hpl : p.length = k := by rw [hp, List.length_take]; omega
      have hrl : r.length = l.length - k := by rw [hrr, List.length_drop]
      have hto := run_to (P := Try.prog) 22 40 Try.underlying22 2 (fun W => by kernel_rfl) A l.length c k k rfl (by omega)
      obtain ⟨A', hA', hfrom⟩ := run_from (P := Try.prog) 22 40 Try.underlying22 2 (fun W => by kernel_rfl) A l.length c k k rfl hk
      have RP := hide (fun W (qq : Below w.heap.size w W) => show Rd W W.heap.size A 2 (p.map tmc) by have := (TmR.next HR.out qq qq.size).take k; rw [hp]; exact this)
      have RR := hide (fun W (qq : Below w.heap.size w W) => show Rd W W.heap.size A' 2 (r.map tmc) by
        have := Rd.drop (TmR.next HR.out qq qq.size) k c (by rw [List.length_map]; exact hlc)
        rw [← List.map_drop, ← hrr] at this
        rw [hA']; exact this)
      have HP := hide hp
      have HRR := hide hrr
      have E1 := hide (show (([] : List (List Value)).length + (p.map tmc).length) * 16 ≤ 140737488355328 by simp; omega)
      have E2 := hide (show ([] : List (List Value)).length + (p.map tmc).length ≤ maxLen by simp [maxLen]; omega)
      have E3 := hide (show k = (p.map tmc).length by rw [List.length_map, hpl])
      have F1 := hide (show ((p.map tmc).length + [([.int .i64 x.id, .int .i64 x.due] : List Value)].length) * 16 ≤ 140737488355328 by simp; omega)
      have F2 := hide (show (p.map tmc).length + [([.int .i64 x.id, .int .i64 x.due] : List Value)].length ≤ maxLen by simp [maxLen]; omega)
      have G1 := hide (show ((p.map tmc ++ [tmc x]).length + (r.map tmc).length) * 16 ≤ 140737488355328 by simp; omega)
      have G2 := hide (show (p.map tmc ++ [tmc x]).length + (r.map tmc).length ≤ maxLen by simp [maxLen]; omega)
      have G3 := hide (show k + 1 = (p.map tmc ++ [tmc x]).length by simp; omega)
      have G4 := hide (show l.length - k = (r.map tmc).length by rw [List.length_map, hrl])
      have HLN := hide (show k + 1 + (l.length - k) = (insT l x).length by unfold insT; rw [HPOS.out]; simp; omega)
      have HEQ := hide (show p.map tmc ++ [tmc x] ++ r.map tmc = (insT l x).map tmc by unfold insT; rw [HPOS.out, HP.out, HRR.out, List.map_append, List.append_assoc]; rfl)
      clear hp hrr hpl hrl hA'
      have ways : (∃ _ : k < l.length, True) ∨ k = l.length := by
        by_cases h : k < l.length
        · exact .inl ⟨h, trivial⟩
        · exact .inr (by omega)
      have W0 : Hid (k = l.length ∨ ∃ h : k < l.length, ¬ ordT l[k] x < 0) := hide (by
        by_cases h : k < l.length
        · exact .inr ⟨h, fun hn => hgo ⟨h, hn⟩⟩
        · exact .inl (by omega))
      clear hgo ways
      rcases W0.out with hw | ⟨hlt, ho⟩
      · have hd : decide ((k : Int) < (l.length : Int)) = false := decide_eq_false (by omega)
        have hd' : decide (k < l.length) = false := decide_eq_false (by omega)
        clear hw W0
        go_wp2_with fail
        refine wp_region_tame (by kernel_rfl) (by kernel_rfl) ?_
        repeat (go_big_quiet_step (fail))
        refine wpQuiet_nil ?_
        rintro _ ⟨s, rfl⟩
        obtain ⟨W5, q5⟩ := s
        dsimp only
        have qs := q.trans (q5.mono q.size)
        have BX5 := hide (heap_below hB.out.1 q5)
        have O5 := hide (hB.out.2.grown q5)
        have RP5 := hide (RP.out W5 qs)
        have z5 : w.heap.size + 1 ≤ W5.heap.size := by have := heap_lt BX5.out; omega
        clear mx hB q5
        go_wp2_with (at_builtin; refine wpList_append_rows _ rfl _ _ 22 rfl slTm (w.heap.size + 1) _ _ _ [] (by rfl) (by exact O5.out) _ _ _ (p.map tmc) (by rfl) (by exact RP5.out) (by exact tmc_rows _) (by exact tmc_ones _) (by exact E1.out) (by exact E2.out) (by exact z5) (by rfl) (by exact E3.out) ?_)
        intro A6 c6 W6 o6 g6
        have q6 := below_append qs g6 O5.out (by omega) qs.size
        have BX6 := hide (heapB BX5.out (below_own g6 O5.out z5) (Nat.lt_succ_self _))
        have z6 : w.heap.size + 1 ≤ W6.heap.size := Nat.le_trans z5 g6.size
        have zb6 : w.heap.size < W6.heap.size := by omega
        have O6 := hide (o6.alloc (.cells #[.int .i64 x.id, .int .i64 x.due] 40))
        have R6 := hide (fun t => rd_row (cs := [.int .i64 x.id, .int .i64 x.due]) (World.alloc_heap_new W6 (.cells #[.int .i64 x.id, .int .i64 x.due] t)))
        obtain ⟨y0, y1, _, _⟩ := two_box BX6.out
        clear o6 g6 O5 RP5
        go_wp2_with (at_builtin; refine wpList_append_rows _ rfl _ _ 22 rfl slTm (w.heap.size + 1) _ _ _ (p.map tmc) (by rfl) (by exact O6.out) _ _ _ [[.int .i64 x.id, .int .i64 x.due]] (by rfl) (by simpa using R6.out _) (by simp) (by simp [Value.oneCell']) (by exact F1.out) (by exact F2.out) (by simp; omega) (by first | exact E3.out | (simp; exact E3.out)) (by rfl) ?_)
        intro A7 c7 W7 o7 g7
        have q7 := below_append (q6.alloc q6.size (.cells #[.int .i64 x.id, .int .i64 x.due] 40)) g7 O6.out (by omega) (by have := q6.size; simp; omega)
        have RR7 := hide (RR.out W7 q7)
        have O7 := hide o7
        have z7 : w.heap.size + 1 ≤ W7.heap.size := by have := g7.size; simp at this; omega
        clear o7 g7 O6 R6 y0 y1
        go_wp2_with (at_builtin; refine wpList_append_rows _ rfl _ _ 22 rfl slTm (w.heap.size + 1) _ _ _ (p.map tmc ++ [tmc x]) (by rfl) (by exact O7.out) _ _ _ (r.map tmc) (by rfl) (by exact RR7.out) (by exact tmc_rows _) (by exact tmc_ones _) (by exact G1.out) (by exact G2.out) (by exact z7) (by first | exact G3.out | (simp; exact G3.out)) (by exact G4.out) ?_)
        intro A8 c8 W8 o8 g8
        have q8 := below_append q7 g8 O7.out (by omega) q7.size
        have FIN : Hid (Own W8 (w.heap.size + 1) 40 2 A8 c8 ((insT l x).map tmc)) := hide (by rw [← HEQ.out]; simp only [List.append_assoc, List.singleton_append]; exact o8)
        clear o8 g8 O7 RR7
        go_wp2
        go_ret
        exact ⟨A8, c8, by rw [← HLN.out]; rfl, FIN.out.rd (tmc_rows _), by have := FIN.out.le; simpa using this, q8⟩
      · obtain ⟨b, off, rfl, _⟩ := HR.out.at_ hlt
        have mj := TmR.all (TmR.next HR.out q q.size) (Nat.le_refl _) hlt
        have hi : (k : Int) < (l.length : Int) := by omega
        have hd : decide ((k : Int) < (l.length : Int)) = true := decide_eq_true hi
        have hd' : decide (k < l.length) = true := decide_eq_true hlt
        rw [ordT_neg] at ho
        unfold aheadT2 at ho
        have g1 : decide (l[k].due < x.due) = false := decide_eq_false (by omega)
        by_cases he : l[k].due = x.due
        · have g2 : (l[k].due == x.due) = true := by rw [beq_iff_eq]; exact he
          have g3 : decide (l[k].id < x.id) = false := decide_eq_false (by omega)
          clear ho he W0
          go_wp2_with fail
          refine wp_region_tame (by kernel_rfl) (by kernel_rfl) ?_
          repeat (go_big_quiet_step (fail))
          clear mj
          refine wpQuiet_nil ?_
          rintro _ ⟨s, rfl⟩
          obtain ⟨W5, q5⟩ := s
          dsimp only
          have qs := q.trans (q5.mono q.size)
          have BX5 := hide (heap_below hB.out.1 q5)
          have O5 := hide (hB.out.2.grown q5)
          have RP5 := hide (RP.out W5 qs)
          have z5 : w.heap.size + 1 ≤ W5.heap.size := by have := heap_lt BX5.out; omega
          clear mx hB q5
          go_wp2_with (at_builtin; refine wpList_append_rows _ rfl _ _ 22 rfl slTm (w.heap.size + 1) _ _ _ [] (by rfl) (by exact O5.out) _ _ _ (p.map tmc) (by rfl) (by exact RP5.out) (by exact tmc_rows _) (by exact tmc_ones _) (by exact E1.out) (by exact E2.out) (by exact z5) (by rfl) (by exact E3.out) ?_)
          intro A6 c6 W6 o6 g6
          have q6 := below_append qs g6 O5.out (by omega) qs.size
          have BX6 := hide (heapB BX5.out (below_own g6 O5.out z5) (Nat.lt_succ_self _))
          have z6 : w.heap.size + 1 ≤ W6.heap.size := Nat.le_trans z5 g6.size
          have zb6 : w.heap.size < W6.heap.size := by omega
          have O6 := hide (o6.alloc (.cells #[.int .i64 x.id, .int .i64 x.due] 40))
          have R6 := hide (fun t => rd_row (cs := [.int .i64 x.id, .int .i64 x.due]) (World.alloc_heap_new W6 (.cells #[.int .i64 x.id, .int .i64 x.due] t)))
          obtain ⟨y0, y1, _, _⟩ := two_box BX6.out
          clear o6 g6 O5 RP5
          go_wp2_with (at_builtin; refine wpList_append_rows _ rfl _ _ 22 rfl slTm (w.heap.size + 1) _ _ _ (p.map tmc) (by rfl) (by exact O6.out) _ _ _ [[.int .i64 x.id, .int .i64 x.due]] (by rfl) (by simpa using R6.out _) (by simp) (by simp [Value.oneCell']) (by exact F1.out) (by exact F2.out) (by simp; omega) (by first | exact E3.out | (simp; exact E3.out)) (by rfl) ?_)
          intro A7 c7 W7 o7 g7
          have q7 := below_append (q6.alloc q6.size (.cells #[.int .i64 x.id, .int .i64 x.due] 40)) g7 O6.out (by omega) (by have := q6.size; simp; omega)
          have RR7 := hide (RR.out W7 q7)
          have O7 := hide o7
          have z7 : w.heap.size + 1 ≤ W7.heap.size := by have := g7.size; simp at this; omega
          clear o7 g7 O6 R6 y0 y1
          go_wp2_with (at_builtin; refine wpList_append_rows _ rfl _ _ 22 rfl slTm (w.heap.size + 1) _ _ _ (p.map tmc ++ [tmc x]) (by rfl) (by exact O7.out) _ _ _ (r.map tmc) (by rfl) (by exact RR7.out) (by exact tmc_rows _) (by exact tmc_ones _) (by exact G1.out) (by exact G2.out) (by exact z7) (by first | exact G3.out | (simp; exact G3.out)) (by exact G4.out) ?_)
          intro A8 c8 W8 o8 g8
          have q8 := below_append q7 g8 O7.out (by omega) q7.size
          have FIN : Hid (Own W8 (w.heap.size + 1) 40 2 A8 c8 ((insT l x).map tmc)) := hide (by rw [← HEQ.out]; simp only [List.append_assoc, List.singleton_append]; exact o8)
          clear o8 g8 O7 RR7
          go_wp2
          go_ret
          exact ⟨A8, c8, by rw [← HLN.out]; rfl, FIN.out.rd (tmc_rows _), by have := FIN.out.le; simpa using this, q8⟩
        · have g2 : (l[k].due == x.due) = false := by rw [beq_eq_false_iff_ne]; exact he
          clear ho he W0
          go_wp2_with fail
          refine wp_region_tame (by kernel_rfl) (by kernel_rfl) ?_
          repeat (go_big_quiet_step (fail))
          clear mj
          refine wpQuiet_nil ?_
          rintro _ ⟨s, rfl⟩
          obtain ⟨W5, q5⟩ := s
          dsimp only
          have qs := q.trans (q5.mono q.size)
          have BX5 := hide (heap_below hB.out.1 q5)
          have O5 := hide (hB.out.2.grown q5)
          have RP5 := hide (RP.out W5 qs)
          have z5 : w.heap.size + 1 ≤ W5.heap.size := by have := heap_lt BX5.out; omega
          clear mx hB q5
          go_wp2_with (at_builtin; refine wpList_append_rows _ rfl _ _ 22 rfl slTm (w.heap.size + 1) _ _ _ [] (by rfl) (by exact O5.out) _ _ _ (p.map tmc) (by rfl) (by exact RP5.out) (by exact tmc_rows _) (by exact tmc_ones _) (by exact E1.out) (by exact E2.out) (by exact z5) (by rfl) (by exact E3.out) ?_)
          intro A6 c6 W6 o6 g6
          have q6 := below_append qs g6 O5.out (by omega) qs.size
          have BX6 := hide (heapB BX5.out (below_own g6 O5.out z5) (Nat.lt_succ_self _))
          have z6 : w.heap.size + 1 ≤ W6.heap.size := Nat.le_trans z5 g6.size
          have zb6 : w.heap.size < W6.heap.size := by omega
          have O6 := hide (o6.alloc (.cells #[.int .i64 x.id, .int .i64 x.due] 40))
          have R6 := hide (fun t => rd_row (cs := [.int .i64 x.id, .int .i64 x.due]) (World.alloc_heap_new W6 (.cells #[.int .i64 x.id, .int .i64 x.due] t)))
          obtain ⟨y0, y1, _, _⟩ := two_box BX6.out
          clear o6 g6 O5 RP5
          go_wp2_with (at_builtin; refine wpList_append_rows _ rfl _ _ 22 rfl slTm (w.heap.size + 1) _ _ _ (p.map tmc) (by rfl) (by exact O6.out) _ _ _ [[.int .i64 x.id, .int .i64 x.due]] (by rfl) (by simpa using R6.out _) (by simp) (by simp [Value.oneCell']) (by exact F1.out) (by exact F2.out) (by simp; omega) (by first | exact E3.out | (simp; exact E3.out)) (by rfl) ?_)
          intro A7 c7 W7 o7 g7
          have q7 := below_append (q6.alloc q6.size (.cells #[.int .i64 x.id, .int .i64 x.due] 40)) g7 O6.out (by omega) (by have := q6.size; simp; omega)
          have RR7 := hide (RR.out W7 q7)
          have O7 := hide o7
          have z7 : w.heap.size + 1 ≤ W7.heap.size := by have := g7.size; simp at this; omega
          clear o7 g7 O6 R6 y0 y1
          go_wp2_with (at_builtin; refine wpList_append_rows _ rfl _ _ 22 rfl slTm (w.heap.size + 1) _ _ _ (p.map tmc ++ [tmc x]) (by rfl) (by exact O7.out) _ _ _ (r.map tmc) (by rfl) (by exact RR7.out) (by exact tmc_rows _) (by exact tmc_ones _) (by exact G1.out) (by exact G2.out) (by exact z7) (by first | exact G3.out | (simp; exact G3.out)) (by exact G4.out) ?_)
          intro A8 c8 W8 o8 g8
          have q8 := below_append q7 g8 O7.out (by omega) q7.size
          have FIN : Hid (Own W8 (w.heap.size + 1) 40 2 A8 c8 ((insT l x).map tmc)) := hide (by rw [← HEQ.out]; simp only [List.append_assoc, List.singleton_append]; exact o8)
          clear o8 g8 O7 RR7
          go_wp2
          go_ret
          exact ⟨A8, c8, by rw [← HLN.out]; rfl, FIN.out.rd (tmc_rows _), by have := FIN.out.le; simpa using this, q8⟩
end Go.Proofs.Ytnfpbbgajabjkaa
