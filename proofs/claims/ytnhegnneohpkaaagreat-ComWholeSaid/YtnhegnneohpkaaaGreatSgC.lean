/- The walk of signal.places, of a signal told by its highest bit. -/
import Derived.Test.YtnhegnneohpkaaaGreatSgB
namespace Go.Proofs.YtnhegnneohpkaaaGreat
open Go.ChangeShapes Go.WideShapes Go.ChangeAt Go.RowKit
open SG

attribute [local go_sem] Oper.semAt_some

set_option maxRecDepth 100000 in
set_option maxHeartbeats 8000000 in
theorem places_dn (st n : Nat) (sg : Bool) (w : World) (h : mayB ⟨st, n, true, sg⟩ = true) :
    Calls Tryz.prog 64 #[.agg #[.int .i64 st, .int .i64 n, .bool true, .bool sg]] w fun e w' => PlV w ⟨st, n, true, sg⟩ e w' := by
  have hm := may_iff.1 h
  dsimp only at hm
  obtain ⟨_, hs2, hn1, hn2, h64⟩ := hm
  have H := hide h
  have RAW := hide (show rawL ⟨st, n, true, sg⟩ = (seqL ⟨st, n, true, sg⟩ n).reverse by unfold rawL; simp)
  have AT := hide (show ∀ k, atN ⟨st, n, true, sg⟩ k = dn st k from fun k => by unfold atN; simp)
  have I0 := hide (pl_start w ⟨st, n, true, sg⟩)
  dsimp only at I0
  clear h
  refine (callsIn_wide (n := 3)).1 (callsIn_of_wp_marks Tryz.func64 rfl trivial ?_ rfl)
  rw [wpIn_wide]
  simp only [Tryz.ntmps64, List.size_toArray, List.length_cons, List.length_nil, Nat.reduceAdd, Nat.reduceSub, Array.replicate_succ, Array.replicate_zero, List.push_toArray, List.append_toArray, List.nil_append, List.cons_append]
  have e64 : (((n : Int) == 64) = false) ∨ (((n : Int) == 64) = true ∧ sg = true) := by
    by_cases e : (n : Int) = 64
    · refine .inr ⟨by rw [beq_iff_eq]; exact e, ?_⟩
      cases sg with
      | true => rfl
      | false => exact absurd ⟨e, rfl⟩ h64
    · exact .inl (by rw [beq_eq_false_iff_ne]; exact e)
  clear h64
  rcases e64 with e64 | ⟨e64, hsg⟩
  · go_wp2_with fail
    refine (down_any _ _ _).mono ?_
    rintro e1 w1 ⟨rfl, rfl⟩
    go_wp2_with fail
    clear e64
    generalize hw1 : (((w.alloc (.cells #[.int .i64 st, .int .i64 n, .bool true, .bool sg] 23)).alloc (.cells #[.slice none 0 0] 25)).alloc (.cells #[.int .i64 st] 3)).alloc (.cells #[.int .i64 n] 3) = w1 at *
    have z1 : w1.heap.size = w.heap.size + 4 := by rw [← hw1]; simp
    clear hw1
    refine range_exact (n := 3) (gf := 114) (lb := #[.pointer (some ⟨w.heap.size + 2, 0, none⟩), .pointer (some ⟨w.heap.size + 3, 0, none⟩)]) rfl (fun _ _ => rfl)
      (fun k => #[.int .i64 (dn st k : Int)]) (fun _ => rfl) n (fun k W => PlI w ⟨st, n, true, sg⟩ k W)
      (fun _ _ o h => h.alloc o) (fun k W x o o' h hx ho hc => h.putObj (by omega) ho hc) ?iter I0.out ?act1 ?assign ?body ?done
    case iter =>
      intro lr J W hJI hY h0
      exact downSeq_any (3 - 1) lr (w.heap.size + 3) (w.heap.size + 2) st n (by omega) (by omega) J (hide (fun k W h => by
        obtain ⟨A, c, h⟩ := hJI k W h
        exact ⟨by simp [World.cell?, h.b2], by simp [World.cell?, h.b1]⟩)) (hide hY) W h0
    case assign =>
      intro lr k W K hK
      gi_wp2
      exact hK
    case body =>
      intro lr k W hI hk
      obtain ⟨A, c, hI⟩ := hI
      have q1 : Below W.heap.size W (W.alloc (.cells #[.int .i64 (dn st k : Int)] 3)) := (Below.refl _ _).alloc (Nat.le_refl _) _
      have H2 := hide (hI.below q1)
      have X2 := hide (World.alloc_heap_new W (.cells #[.int .i64 (dn st k : Int)] 3))
      have HRD := hide (rd_row (cs := [.int .i64 (dn st k : Int)]) X2.out)
      have hln : (rowN (seqL ⟨st, n, true, sg⟩ k)).length = k := by rw [rowN_len, seqL_length]
      have E1 := hide (show ((rowN (seqL ⟨st, n, true, sg⟩ k)).length + ([[.int .i64 (dn st k : Int)]] : List (List Value)).length) * 8 ≤ 140737488355328 by rw [hln]; simp; omega)
      have E2 := hide (show (rowN (seqL ⟨st, n, true, sg⟩ k)).length + ([[.int .i64 (dn st k : Int)]] : List (List Value)).length ≤ maxLen by rw [hln]; simp [maxLen]; omega)
      have E3 := hide (show k = (rowN (seqL ⟨st, n, true, sg⟩ k)).length by rw [hln])
      have x0 : W.cell? ⟨w.heap.size + 1, 0, none⟩ = some (.slice A k c) := by simp [World.cell?, hI.lb]
      have zW : w.heap.size + 1 < W.heap.size := heap_lt hI.lb
      have EA := hide (AT.out k)
      clear hI hln
      gi_wp2_with (gi_at_builtin; refine wpListIn_append_rows _ rfl _ _ 25 rfl slInt (w.heap.size + 4) _ _ _ (rowN (seqL ⟨st, n, true, sg⟩ k)) (by rfl) (by exact H2.out.own) _ _ _ [[.int .i64 (dn st k : Int)]] (by rfl) (by exact HRD.out) (by simp) (by simp [Value.oneCell']) (by exact E1.out) (by exact E2.out) (by exact H2.out.z) (by exact E3.out) (by rfl) ?_)
      intro A2 c2 W2 o2 g2
      have B2 := hide (heap_grown2 H2.out.lb g2 H2.out.own)
      obtain ⟨z0', z1'⟩ := one_free B2.out
      have O2 := hide o2
      have G2 := hide g2
      clear o2 g2
      gi_wp2
      have O3 := O2.out
      rw [← EA.out] at O3
      exact pl_next z1 H2.out O3 G2.out
    case done =>
      intro D W hI hD hK
      obtain ⟨A, c, hI⟩ := hI
      obtain ⟨g, rfl, hg1, hg2⟩ := hI.own.ofLen (by rw [rowN_len, seqL_length]; omega)
      have x0 : W.cell? ⟨w.heap.size + 1, 0, none⟩ = some (.slice (some ⟨g, 0, none⟩) n c) := by simp [World.cell?, hI.lb]
      have x1 : W.cell? ⟨w.heap.size, 2, none⟩ = some (.bool true) := by simp [World.cell?, hI.sb]
      have RV := reverseInts_any (seqL ⟨st, n, true, sg⟩ n) g c (w.heap.size + 4) W hI.own (by rw [seqL_length]; omega) (by rw [seqL_length]; omega)
      rw [seqL_length, ← RAW.out] at RV
      replace RV := hide RV
      have RL := hide (show (rawL ⟨st, n, true, sg⟩).length = n by rw [RAW.out, List.length_reverse, seqL_length])
      have HG : ∃ cs t fz, W.heap[g]? = some (.cells cs t fz) := by
        rcases hI.own.2 with ⟨_, h0⟩ | ⟨g', cap, cur, hv, _, hgh, _⟩
        · rw [rowN_len, seqL_length] at h0; omega
        · simp only [Value.slice.injEq, Option.some.injEq, Addr.mk.injEq] at hv
          rw [← hv.1.1] at hgh
          exact ⟨_, _, _, hgh⟩
      obtain ⟨gcs, gt, gfz, hgh⟩ := HG
      have HGH := hide hgh
      have HI := hide hI
      have HK := hide hK
      clear hI hK I0 AT hgh
      obtain ⟨mx, hmx⟩ : ∃ mx, mx = mxN (rawL ⟨st, n, true, sg⟩) := ⟨_, rfl⟩
      have HMX := hide hmx
      clear hmx
      go_wp2_with fail
      refine RV.out.mono ?_
      rintro e2 w2 ⟨⟨v2, rfl⟩, ho2, hgr⟩
      have hlb := hide (heap_grownB HI.out.lb hgr (by intro e; cases e; omega))
      have hkd := hide (KeepsRet HK.out HGH.out hgr)
      have hq2 := hide (HI.out.q.grown hgr HI.out.q.size (fun k e => by cases e; omega))
      have x0' : w2.cell? ⟨w.heap.size + 1, 0, none⟩ = some (.slice (some ⟨g, 0, none⟩) n c) := by simp [World.cell?, hlb.out]
      have MX := maxInts_any (rawL ⟨st, n, true, sg⟩) (some ⟨g, 0, none⟩) c w2 (ho2.rd (rowN_rows _)) (by rw [RL.out]; omega) (by rw [RL.out]; omega)
      rw [RL.out, ← HMX.out] at MX
      replace MX := hide MX
      have HO2 := hide ho2
      have zg := HI.out.q.size
      clear x0 x1 RV ho2 hgr HGH
      by_cases h64 : mx < 64
      · have h64' : (mx : Int) < 64 := by omega
        go_wp2_with fail
        refine MX.out.mono ?_
        rintro e3 w3 ⟨rfl, rfl⟩
        go_wp2_with fail
        refine ⟨by simp, .inl ⟨_, _, rfl, run_takeDeferred (ds := []) hkd.out, ?_⟩⟩
        refine ⟨.slice (some ⟨g, 0, none⟩) n c, by simp [results, Tryz.results64, go_sem], ?_⟩
        have ho := own_put (o' := .deferred none) HO2.out hkd.out rfl
        exact plv_good H.out (by rw [← HMX.out]; exact h64) RL.out.symm ho (hq2.out.grown (grownBy_putObj' _ D _) hq2.out.size (fun k e => by cases e; omega))
      · have h64' : ¬ (mx : Int) < 64 := by omega
        go_wp2_with fail
        refine MX.out.mono ?_
        rintro e3 w3 ⟨rfl, rfl⟩
        go_wp2_with fail
        refine ⟨by simp, .inl ⟨_, _, rfl, run_takeDeferred (ds := []) hkd.out, ?_⟩⟩
        refine ⟨.slice none 0 0, by simp [results, Tryz.results64, go_sem], ?_⟩
        exact plv_bad (by rw [← HMX.out]; omega) (hq2.out.grown (grownBy_putObj' _ D _) hq2.out.size (fun k e => by cases e; omega))
  · have hsg2 : (!sg) = false := by rw [hsg]; rfl
    clear hsg
    go_wp2_with fail
    refine (down_any _ _ _).mono ?_
    rintro e1 w1 ⟨rfl, rfl⟩
    go_wp2_with fail
    clear e64 hsg2
    generalize hw1 : (((w.alloc (.cells #[.int .i64 st, .int .i64 n, .bool true, .bool sg] 23)).alloc (.cells #[.slice none 0 0] 25)).alloc (.cells #[.int .i64 st] 3)).alloc (.cells #[.int .i64 n] 3) = w1 at *
    have z1 : w1.heap.size = w.heap.size + 4 := by rw [← hw1]; simp
    clear hw1
    refine range_exact (n := 3) (gf := 114) (lb := #[.pointer (some ⟨w.heap.size + 2, 0, none⟩), .pointer (some ⟨w.heap.size + 3, 0, none⟩)]) rfl (fun _ _ => rfl)
      (fun k => #[.int .i64 (dn st k : Int)]) (fun _ => rfl) n (fun k W => PlI w ⟨st, n, true, sg⟩ k W)
      (fun _ _ o h => h.alloc o) (fun k W x o o' h hx ho hc => h.putObj (by omega) ho hc) ?iter2 I0.out ?act12 ?assign2 ?body2 ?done2
    case iter2 =>
      intro lr J W hJI hY h0
      exact downSeq_any (3 - 1) lr (w.heap.size + 3) (w.heap.size + 2) st n (by omega) (by omega) J (hide (fun k W h => by
        obtain ⟨A, c, h⟩ := hJI k W h
        exact ⟨by simp [World.cell?, h.b2], by simp [World.cell?, h.b1]⟩)) (hide hY) W h0
    case assign2 =>
      intro lr k W K hK
      gi_wp2
      exact hK
    case body2 =>
      intro lr k W hI hk
      obtain ⟨A, c, hI⟩ := hI
      have q1 : Below W.heap.size W (W.alloc (.cells #[.int .i64 (dn st k : Int)] 3)) := (Below.refl _ _).alloc (Nat.le_refl _) _
      have H2 := hide (hI.below q1)
      have X2 := hide (World.alloc_heap_new W (.cells #[.int .i64 (dn st k : Int)] 3))
      have HRD := hide (rd_row (cs := [.int .i64 (dn st k : Int)]) X2.out)
      have hln : (rowN (seqL ⟨st, n, true, sg⟩ k)).length = k := by rw [rowN_len, seqL_length]
      have E1 := hide (show ((rowN (seqL ⟨st, n, true, sg⟩ k)).length + ([[.int .i64 (dn st k : Int)]] : List (List Value)).length) * 8 ≤ 140737488355328 by rw [hln]; simp; omega)
      have E2 := hide (show (rowN (seqL ⟨st, n, true, sg⟩ k)).length + ([[.int .i64 (dn st k : Int)]] : List (List Value)).length ≤ maxLen by rw [hln]; simp [maxLen]; omega)
      have E3 := hide (show k = (rowN (seqL ⟨st, n, true, sg⟩ k)).length by rw [hln])
      have x0 : W.cell? ⟨w.heap.size + 1, 0, none⟩ = some (.slice A k c) := by simp [World.cell?, hI.lb]
      have zW : w.heap.size + 1 < W.heap.size := heap_lt hI.lb
      have EA := hide (AT.out k)
      clear hI hln
      gi_wp2_with (gi_at_builtin; refine wpListIn_append_rows _ rfl _ _ 25 rfl slInt (w.heap.size + 4) _ _ _ (rowN (seqL ⟨st, n, true, sg⟩ k)) (by rfl) (by exact H2.out.own) _ _ _ [[.int .i64 (dn st k : Int)]] (by rfl) (by exact HRD.out) (by simp) (by simp [Value.oneCell']) (by exact E1.out) (by exact E2.out) (by exact H2.out.z) (by exact E3.out) (by rfl) ?_)
      intro A2 c2 W2 o2 g2
      have B2 := hide (heap_grown2 H2.out.lb g2 H2.out.own)
      obtain ⟨z0', z1'⟩ := one_free B2.out
      have O2 := hide o2
      have G2 := hide g2
      clear o2 g2
      gi_wp2
      have O3 := O2.out
      rw [← EA.out] at O3
      exact pl_next z1 H2.out O3 G2.out
    case done2 =>
      intro D W hI hD hK
      obtain ⟨A, c, hI⟩ := hI
      obtain ⟨g, rfl, hg1, hg2⟩ := hI.own.ofLen (by rw [rowN_len, seqL_length]; omega)
      have x0 : W.cell? ⟨w.heap.size + 1, 0, none⟩ = some (.slice (some ⟨g, 0, none⟩) n c) := by simp [World.cell?, hI.lb]
      have x1 : W.cell? ⟨w.heap.size, 2, none⟩ = some (.bool true) := by simp [World.cell?, hI.sb]
      have RV := reverseInts_any (seqL ⟨st, n, true, sg⟩ n) g c (w.heap.size + 4) W hI.own (by rw [seqL_length]; omega) (by rw [seqL_length]; omega)
      rw [seqL_length, ← RAW.out] at RV
      replace RV := hide RV
      have RL := hide (show (rawL ⟨st, n, true, sg⟩).length = n by rw [RAW.out, List.length_reverse, seqL_length])
      have HG : ∃ cs t fz, W.heap[g]? = some (.cells cs t fz) := by
        rcases hI.own.2 with ⟨_, h0⟩ | ⟨g', cap, cur, hv, _, hgh, _⟩
        · rw [rowN_len, seqL_length] at h0; omega
        · simp only [Value.slice.injEq, Option.some.injEq, Addr.mk.injEq] at hv
          rw [← hv.1.1] at hgh
          exact ⟨_, _, _, hgh⟩
      obtain ⟨gcs, gt, gfz, hgh⟩ := HG
      have HGH := hide hgh
      have HI := hide hI
      have HK := hide hK
      clear hI hK I0 AT hgh
      obtain ⟨mx, hmx⟩ : ∃ mx, mx = mxN (rawL ⟨st, n, true, sg⟩) := ⟨_, rfl⟩
      have HMX := hide hmx
      clear hmx
      go_wp2_with fail
      refine RV.out.mono ?_
      rintro e2 w2 ⟨⟨v2, rfl⟩, ho2, hgr⟩
      have hlb := hide (heap_grownB HI.out.lb hgr (by intro e; cases e; omega))
      have hkd := hide (KeepsRet HK.out HGH.out hgr)
      have hq2 := hide (HI.out.q.grown hgr HI.out.q.size (fun k e => by cases e; omega))
      have x0' : w2.cell? ⟨w.heap.size + 1, 0, none⟩ = some (.slice (some ⟨g, 0, none⟩) n c) := by simp [World.cell?, hlb.out]
      have MX := maxInts_any (rawL ⟨st, n, true, sg⟩) (some ⟨g, 0, none⟩) c w2 (ho2.rd (rowN_rows _)) (by rw [RL.out]; omega) (by rw [RL.out]; omega)
      rw [RL.out, ← HMX.out] at MX
      replace MX := hide MX
      have HO2 := hide ho2
      have zg := HI.out.q.size
      clear x0 x1 RV ho2 hgr HGH
      by_cases h64 : mx < 64
      · have h64' : (mx : Int) < 64 := by omega
        go_wp2_with fail
        refine MX.out.mono ?_
        rintro e3 w3 ⟨rfl, rfl⟩
        go_wp2_with fail
        refine ⟨by simp, .inl ⟨_, _, rfl, run_takeDeferred (ds := []) hkd.out, ?_⟩⟩
        refine ⟨.slice (some ⟨g, 0, none⟩) n c, by simp [results, Tryz.results64, go_sem], ?_⟩
        have ho := own_put (o' := .deferred none) HO2.out hkd.out rfl
        exact plv_good H.out (by rw [← HMX.out]; exact h64) RL.out.symm ho (hq2.out.grown (grownBy_putObj' _ D _) hq2.out.size (fun k e => by cases e; omega))
      · have h64' : ¬ (mx : Int) < 64 := by omega
        go_wp2_with fail
        refine MX.out.mono ?_
        rintro e3 w3 ⟨rfl, rfl⟩
        go_wp2_with fail
        refine ⟨by simp, .inl ⟨_, _, rfl, run_takeDeferred (ds := []) hkd.out, ?_⟩⟩
        refine ⟨.slice none 0 0, by simp [results, Tryz.results64, go_sem], ?_⟩
        exact plv_bad (by rw [← HMX.out]; omega) (hq2.out.grown (grownBy_putObj' _ D _) hq2.out.size (fun k e => by cases e; omega))

/-- places, of any signal. -/
theorem places_any (s : Sg) (w : World) : Calls Tryz.prog 64 #[.agg #[.int .i64 s.start, .int .i64 s.width, .bool s.big, .bool s.sgn]] w fun e w' => PlV w s e w' := by
  cases h : mayB s with
  | false =>
    refine (places_bad s w h).mono ?_
    rintro e w' ⟨rfl, q⟩
    exact ⟨.inl ⟨by unfold plL; rw [h]; simp, rfl⟩, q⟩
  | true =>
    have hm := may_iff.1 h
    obtain ⟨st, wd, bg, sg⟩ := s
    dsimp only at *
    obtain ⟨a, rfl⟩ := Int.eq_ofNat_of_zero_le hm.1
    obtain ⟨b, rfl⟩ := Int.eq_ofNat_of_zero_le (show 0 ≤ wd by omega)
    cases bg with
    | false => exact places_up a b sg w h
    | true => exact places_dn a b sg w h
theorem places_none (s : Sg) (w : World) (h : plL s = []) : Calls Tryz.prog 64 #[.agg #[.int .i64 s.start, .int .i64 s.width, .bool s.big, .bool s.sgn]] w fun e w' => e = .returned (.slice none 0 0) ∧ Below w.heap.size w w' := by
  refine (places_any s w).mono ?_
  rintro e w' ⟨⟨_, he⟩ | ⟨hn, _⟩, q⟩
  · exact ⟨he, q⟩
  · exact absurd h hn
theorem places_some (s : Sg) (w : World) (h : plL s ≠ []) : Calls Tryz.prog 64 #[.agg #[.int .i64 s.start, .int .i64 s.width, .bool s.big, .bool s.sgn]] w fun e w' => ∃ g c, e = .returned (.slice (some ⟨g, 0, none⟩) (plL s).length c) ∧ NR w' w'.heap.size (some ⟨g, 0, none⟩) (plL s) ∧ Below w.heap.size w w' := by
  refine (places_any s w).mono ?_
  rintro e w' ⟨⟨h0, _⟩ | ⟨_, g, c, he, ho⟩, q⟩
  · exact absurd h0 h
  · exact ⟨g, c, he, ho.rd (rowN_rows _), q⟩
theorem places_own (s : Sg) (w : World) (h : plL s ≠ []) : Calls Tryz.prog 64 #[.agg #[.int .i64 s.start, .int .i64 s.width, .bool s.big, .bool s.sgn]] w fun e w' => ∃ g c, e = .returned (.slice (some ⟨g, 0, none⟩) (plL s).length c) ∧ Own w' w.heap.size 3 1 (some ⟨g, 0, none⟩) c (rowN (plL s)) ∧ Below w.heap.size w w' := by
  refine (places_any s w).mono ?_
  rintro e w' ⟨⟨h0, _⟩ | ⟨_, g, c, he, ho⟩, q⟩
  · exact absurd h0 h
  · exact ⟨g, c, he, ho, q⟩
end Go.Proofs.YtnhegnneohpkaaaGreat
