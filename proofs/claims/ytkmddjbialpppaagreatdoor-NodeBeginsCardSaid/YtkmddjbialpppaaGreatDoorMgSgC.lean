import Derived.Test.YtkmddjbialpppaaGreatDoorSgB
import Derived.Test.YtkmddjbialpppaaGreatDoorMgFin
import Derived.WalkKit
namespace Go.Proofs.YtkmddjbialpppaaGreatDoor
open Go.ChangeShapes Go.WideShapes Go.ChangeAt Go.RowKit
open SG
attribute [local go_sem] Oper.semAt_some
set_option maxRecDepth 100000 in
set_option maxHeartbeats 8000000 in
theorem places_dn (st n : Nat) (sg : Bool) (w : World) (h : iW ⟨st, n, true, sg⟩ = true) :
    Calls Tryz.prog 171 #[.agg #[.int .i64 st, .int .i64 n, .bool true, .bool sg]] w fun e w' => PlV w ⟨st, n, true, sg⟩ e w' := by
  have hm := jP.1 h
  dsimp only at hm
  obtain ⟨_, hs2, hn1, hn2, h64⟩ := hm
  have H := aA h
  have RAW := aA (show eU ⟨st, n, true, sg⟩ = (dO ⟨st, n, true, sg⟩ n).reverse by unfold eU; simp)
  have AT := aA (show ∀ k, atN ⟨st, n, true, sg⟩ k = dn st k from fun k => by unfold atN; simp)
  have I0 := aA (pl_start w ⟨st, n, true, sg⟩)
  dsimp only at I0
  clear h
  refine (callsIn_wide (n := 3)).1 (callsIn_of_wp_marks Tryz.func171 rfl trivial ?_ rfl)
  rw [wpIn_wide]
  simp only [Tryz.ntmps171, List.size_toArray, List.length_cons, List.length_nil, Nat.reduceAdd, Nat.reduceSub, Array.replicate_succ, Array.replicate_zero, List.push_toArray, List.append_toArray, List.nil_append, List.cons_append]
  have e64 : (((n : Int) == 64) = false) ∨ (((n : Int) == 64) = true ∧ sg = true) := by
    by_cases e : (n : Int) = 64
    · refine .inr ⟨by rw [beq_iff_eq]; exact e, ?_⟩
      cases sg with
      | true => rfl
      | false => exact absurd ⟨e, rfl⟩ h64
    · exact .inl (by rw [beq_eq_false_iff_ne]; exact e)
  clear h64
  rcases e64 with e64 | ⟨e64, hsg⟩
  · go_wp2_with fail
    refine (down_any _ _ _).mono ?_
    rintro e1 w1 ⟨rfl, rfl⟩
    go_wp2_with fail
    clear e64
    generalize hw1 : (((w.alloc (.cells #[.int .i64 st, .int .i64 n, .bool true, .bool sg] 136)).alloc (.cells #[.slice none 0 0] 61)).alloc (.cells #[.int .i64 st] 3)).alloc (.cells #[.int .i64 n] 3) = w1 at *
    have z1 : w1.heap.size = w.heap.size + 4 := by rw [← hw1]; simp
    clear hw1
    refine gM (n := 3) (gf := 240) (lb := #[.pointer (some ⟨w.heap.size + 2, 0, none⟩), .pointer (some ⟨w.heap.size + 3, 0, none⟩)]) rfl (fun _ _ => rfl)
      (fun k => #[.int .i64 (dn st k : Int)]) (fun _ => rfl) n (fun k W => PlI w ⟨st, n, true, sg⟩ k W)
      (fun _ _ o h => h.alloc o) (fun k W x o o' h hx ho hc => h.putObj (by omega) ho hc) ?iter I0.out ?act1 ?assign ?body ?done
    case iter =>
      intro lr J W hJI hY h0
      exact downSeq_any (3 - 1) lr (w.heap.size + 3) (w.heap.size + 2) st n (by omega) (by omega) J (aA (fun k W h => by
        obtain ⟨A, c, h⟩ := hJI k W h
        exact ⟨by simp [World.cell?, h.b2], by simp [World.cell?, h.b1]⟩)) (aA hY) W h0
    case assign =>
      intro lr k W K hK
      gi_wp2
      exact hK
    case body =>
      intro lr k W hI hk
      obtain ⟨A, c, hI⟩ := hI
      have q1 : Below W.heap.size W (W.alloc (.cells #[.int .i64 (dn st k : Int)] 3)) := (Below.refl _ _).alloc (Nat.le_refl _) _
      have H2 := aA (hI.below q1)
      have X2 := aA (World.alloc_heap_new W (.cells #[.int .i64 (dn st k : Int)] 3))
      have HRD := aA (eY (cs := [.int .i64 (dn st k : Int)]) X2.out)
      have hln : (aX (dO ⟨st, n, true, sg⟩ k)).length = k := by rw [bY, bH]
      have E1 := aA (show ((aX (dO ⟨st, n, true, sg⟩ k)).length + ([[.int .i64 (dn st k : Int)]] : List (List Value)).length) * 8 ≤ 140737488355328 by rw [hln]; simp; omega)
      have E2 := aA (show (aX (dO ⟨st, n, true, sg⟩ k)).length + ([[.int .i64 (dn st k : Int)]] : List (List Value)).length ≤ maxLen by rw [hln]; simp [maxLen]; omega)
      have E3 := aA (show k = (aX (dO ⟨st, n, true, sg⟩ k)).length by rw [hln])
      have x0 : W.cell? ⟨w.heap.size + 1, 0, none⟩ = some (.slice A k c) := by simp [World.cell?, hI.lb]
      have zW : w.heap.size + 1 < W.heap.size := aH hI.lb
      have EA := aA (AT.out k)
      clear hI hln
      gi_wp2_with (gi_at_builtin; refine cW _ rfl _ _ 61 rfl kO (w.heap.size + 4) _ _ _ (aX (dO ⟨st, n, true, sg⟩ k)) (by rfl) (by exact H2.out.own) _ _ _ [[.int .i64 (dn st k : Int)]] (by rfl) (by exact HRD.out) (by simp) (by simp [Value.oneCell']) (by exact E1.out) (by exact E2.out) (by exact H2.out.z) (by exact E3.out) (by rfl) ?_)
      intro A2 c2 W2 o2 g2
      have B2 := aA (gL H2.out.lb g2 H2.out.own)
      obtain ⟨z0', z1'⟩ := one_free B2.out
      have O2 := aA o2
      have G2 := aA g2
      clear o2 g2
      gi_wp2
      have O3 := O2.out
      rw [← EA.out] at O3
      exact pl_next z1 H2.out O3 G2.out
    case done =>
      intro D W hI hD hK
      obtain ⟨A, c, hI⟩ := hI
      obtain ⟨g, rfl, hg1, hg2⟩ := hI.own.ofLen (by rw [bY, bH]; omega)
      have x0 : W.cell? ⟨w.heap.size + 1, 0, none⟩ = some (.slice (some ⟨g, 0, none⟩) n c) := by simp [World.cell?, hI.lb]
      have x1 : W.cell? ⟨w.heap.size, 2, none⟩ = some (.bool true) := by simp [World.cell?, hI.sb]
      have RV := iQ (dO ⟨st, n, true, sg⟩ n) g c (w.heap.size + 4) W hI.own (by rw [bH]; omega) (by rw [bH]; omega)
      rw [bH, ← RAW.out] at RV
      replace RV := aA RV
      have RL := aA (show (eU ⟨st, n, true, sg⟩).length = n by rw [RAW.out, List.length_reverse, bH])
      have HG : ∃ cs t fz, W.heap[g]? = some (.cells cs t fz) := by
        rcases hI.own.2 with ⟨_, h0⟩ | ⟨g', cap, cur, hv, _, hgh, _⟩
        · rw [bY, bH] at h0; omega
        · simp only [Value.slice.injEq, Option.some.injEq, Addr.mk.injEq] at hv
          rw [← hv.1.1] at hgh
          exact ⟨_, _, _, hgh⟩
      obtain ⟨gcs, gt, gfz, hgh⟩ := HG
      have HGH := aA hgh
      have HI := aA hI
      have HK := aA hK
      clear hI hK I0 AT hgh
      obtain ⟨mx, hmx⟩ : ∃ mx, mx = mxN (eU ⟨st, n, true, sg⟩) := ⟨_, rfl⟩
      have HMX := aA hmx
      clear hmx
      go_wp2_with fail
      refine RV.out.mono ?_
      rintro e2 w2 ⟨⟨v2, rfl⟩, ho2, hgr⟩
      have hlb := aA (bX HI.out.lb hgr (by intro e; cases e; omega))
      have hkd := aA (KeepsRet HK.out HGH.out hgr)
      have hq2 := aA (HI.out.q.grown hgr HI.out.q.size (fun k e => by cases e; omega))
      have x0' : w2.cell? ⟨w.heap.size + 1, 0, none⟩ = some (.slice (some ⟨g, 0, none⟩) n c) := by simp [World.cell?, hlb.out]
      have MX := fS (eU ⟨st, n, true, sg⟩) (some ⟨g, 0, none⟩) c w2 (ho2.rd (cR _)) (by rw [RL.out]; omega) (by rw [RL.out]; omega)
      rw [RL.out, ← HMX.out] at MX
      replace MX := aA MX
      have HO2 := aA ho2
      have zg := HI.out.q.size
      clear x0 x1 RV ho2 hgr HGH
      by_cases h64 : mx < 64
      · have h64' : (mx : Int) < 64 := by omega
        go_wp2_with fail
        refine MX.out.mono ?_
        rintro e3 w3 ⟨rfl, rfl⟩
        go_wp2_with fail
        refine ⟨by simp, .inl ⟨_, _, rfl, run_takeDeferred (ds := []) hkd.out, ?_⟩⟩
        refine ⟨.slice (some ⟨g, 0, none⟩) n c, by simp [results, Tryz.results171, go_sem], ?_⟩
        have ho := own_put (o' := .deferred none) HO2.out hkd.out rfl
        exact plv_good H.out (by rw [← HMX.out]; exact h64) RL.out.symm ho (hq2.out.grown (grownBy_putObj' _ D _) hq2.out.size (fun k e => by cases e; omega))
      · have h64' : ¬ (mx : Int) < 64 := by omega
        go_wp2_with fail
        refine MX.out.mono ?_
        rintro e3 w3 ⟨rfl, rfl⟩
        go_wp2_with fail
        refine ⟨by simp, .inl ⟨_, _, rfl, run_takeDeferred (ds := []) hkd.out, ?_⟩⟩
        refine ⟨.slice none 0 0, by simp [results, Tryz.results171, go_sem], ?_⟩
        exact plv_bad (by rw [← HMX.out]; omega) (hq2.out.grown (grownBy_putObj' _ D _) hq2.out.size (fun k e => by cases e; omega))
  · have hsg2 : (!sg) = false := by rw [hsg]; rfl
    clear hsg
    go_wp2_with fail
    refine (down_any _ _ _).mono ?_
    rintro e1 w1 ⟨rfl, rfl⟩
    go_wp2_with fail
    clear e64 hsg2
    generalize hw1 : (((w.alloc (.cells #[.int .i64 st, .int .i64 n, .bool true, .bool sg] 136)).alloc (.cells #[.slice none 0 0] 61)).alloc (.cells #[.int .i64 st] 3)).alloc (.cells #[.int .i64 n] 3) = w1 at *
    have z1 : w1.heap.size = w.heap.size + 4 := by rw [← hw1]; simp
    clear hw1
    refine gM (n := 3) (gf := 240) (lb := #[.pointer (some ⟨w.heap.size + 2, 0, none⟩), .pointer (some ⟨w.heap.size + 3, 0, none⟩)]) rfl (fun _ _ => rfl)
      (fun k => #[.int .i64 (dn st k : Int)]) (fun _ => rfl) n (fun k W => PlI w ⟨st, n, true, sg⟩ k W)
      (fun _ _ o h => h.alloc o) (fun k W x o o' h hx ho hc => h.putObj (by omega) ho hc) ?iter2 I0.out ?act12 ?assign2 ?body2 ?done2
    case iter2 =>
      intro lr J W hJI hY h0
      exact downSeq_any (3 - 1) lr (w.heap.size + 3) (w.heap.size + 2) st n (by omega) (by omega) J (aA (fun k W h => by
        obtain ⟨A, c, h⟩ := hJI k W h
        exact ⟨by simp [World.cell?, h.b2], by simp [World.cell?, h.b1]⟩)) (aA hY) W h0
    case assign2 =>
      intro lr k W K hK
      gi_wp2
      exact hK
    case body2 =>
      intro lr k W hI hk
      obtain ⟨A, c, hI⟩ := hI
      have q1 : Below W.heap.size W (W.alloc (.cells #[.int .i64 (dn st k : Int)] 3)) := (Below.refl _ _).alloc (Nat.le_refl _) _
      have H2 := aA (hI.below q1)
      have X2 := aA (World.alloc_heap_new W (.cells #[.int .i64 (dn st k : Int)] 3))
      have HRD := aA (eY (cs := [.int .i64 (dn st k : Int)]) X2.out)
      have hln : (aX (dO ⟨st, n, true, sg⟩ k)).length = k := by rw [bY, bH]
      have E1 := aA (show ((aX (dO ⟨st, n, true, sg⟩ k)).length + ([[.int .i64 (dn st k : Int)]] : List (List Value)).length) * 8 ≤ 140737488355328 by rw [hln]; simp; omega)
      have E2 := aA (show (aX (dO ⟨st, n, true, sg⟩ k)).length + ([[.int .i64 (dn st k : Int)]] : List (List Value)).length ≤ maxLen by rw [hln]; simp [maxLen]; omega)
      have E3 := aA (show k = (aX (dO ⟨st, n, true, sg⟩ k)).length by rw [hln])
      have x0 : W.cell? ⟨w.heap.size + 1, 0, none⟩ = some (.slice A k c) := by simp [World.cell?, hI.lb]
      have zW : w.heap.size + 1 < W.heap.size := aH hI.lb
      have EA := aA (AT.out k)
      clear hI hln
      gi_wp2_with (gi_at_builtin; refine cW _ rfl _ _ 61 rfl kO (w.heap.size + 4) _ _ _ (aX (dO ⟨st, n, true, sg⟩ k)) (by rfl) (by exact H2.out.own) _ _ _ [[.int .i64 (dn st k : Int)]] (by rfl) (by exact HRD.out) (by simp) (by simp [Value.oneCell']) (by exact E1.out) (by exact E2.out) (by exact H2.out.z) (by exact E3.out) (by rfl) ?_)
      intro A2 c2 W2 o2 g2
      have B2 := aA (gL H2.out.lb g2 H2.out.own)
      obtain ⟨z0', z1'⟩ := one_free B2.out
      have O2 := aA o2
      have G2 := aA g2
      clear o2 g2
      gi_wp2
      have O3 := O2.out
      rw [← EA.out] at O3
      exact pl_next z1 H2.out O3 G2.out
    case done2 =>
      intro D W hI hD hK
      obtain ⟨A, c, hI⟩ := hI
      obtain ⟨g, rfl, hg1, hg2⟩ := hI.own.ofLen (by rw [bY, bH]; omega)
      have x0 : W.cell? ⟨w.heap.size + 1, 0, none⟩ = some (.slice (some ⟨g, 0, none⟩) n c) := by simp [World.cell?, hI.lb]
      have x1 : W.cell? ⟨w.heap.size, 2, none⟩ = some (.bool true) := by simp [World.cell?, hI.sb]
      have RV := iQ (dO ⟨st, n, true, sg⟩ n) g c (w.heap.size + 4) W hI.own (by rw [bH]; omega) (by rw [bH]; omega)
      rw [bH, ← RAW.out] at RV
      replace RV := aA RV
      have RL := aA (show (eU ⟨st, n, true, sg⟩).length = n by rw [RAW.out, List.length_reverse, bH])
      have HG : ∃ cs t fz, W.heap[g]? = some (.cells cs t fz) := by
        rcases hI.own.2 with ⟨_, h0⟩ | ⟨g', cap, cur, hv, _, hgh, _⟩
        · rw [bY, bH] at h0; omega
        · simp only [Value.slice.injEq, Option.some.injEq, Addr.mk.injEq] at hv
          rw [← hv.1.1] at hgh
          exact ⟨_, _, _, hgh⟩
      obtain ⟨gcs, gt, gfz, hgh⟩ := HG
      have HGH := aA hgh
      have HI := aA hI
      have HK := aA hK
      clear hI hK I0 AT hgh
      obtain ⟨mx, hmx⟩ : ∃ mx, mx = mxN (eU ⟨st, n, true, sg⟩) := ⟨_, rfl⟩
      have HMX := aA hmx
      clear hmx
      go_wp2_with fail
      refine RV.out.mono ?_
      rintro e2 w2 ⟨⟨v2, rfl⟩, ho2, hgr⟩
      have hlb := aA (bX HI.out.lb hgr (by intro e; cases e; omega))
      have hkd := aA (KeepsRet HK.out HGH.out hgr)
      have hq2 := aA (HI.out.q.grown hgr HI.out.q.size (fun k e => by cases e; omega))
      have x0' : w2.cell? ⟨w.heap.size + 1, 0, none⟩ = some (.slice (some ⟨g, 0, none⟩) n c) := by simp [World.cell?, hlb.out]
      have MX := fS (eU ⟨st, n, true, sg⟩) (some ⟨g, 0, none⟩) c w2 (ho2.rd (cR _)) (by rw [RL.out]; omega) (by rw [RL.out]; omega)
      rw [RL.out, ← HMX.out] at MX
      replace MX := aA MX
      have HO2 := aA ho2
      have zg := HI.out.q.size
      clear x0 x1 RV ho2 hgr HGH
      by_cases h64 : mx < 64
      · have h64' : (mx : Int) < 64 := by omega
        go_wp2_with fail
        refine MX.out.mono ?_
        rintro e3 w3 ⟨rfl, rfl⟩
        go_wp2_with fail
        refine ⟨by simp, .inl ⟨_, _, rfl, run_takeDeferred (ds := []) hkd.out, ?_⟩⟩
        refine ⟨.slice (some ⟨g, 0, none⟩) n c, by simp [results, Tryz.results171, go_sem], ?_⟩
        have ho := own_put (o' := .deferred none) HO2.out hkd.out rfl
        exact plv_good H.out (by rw [← HMX.out]; exact h64) RL.out.symm ho (hq2.out.grown (grownBy_putObj' _ D _) hq2.out.size (fun k e => by cases e; omega))
      · have h64' : ¬ (mx : Int) < 64 := by omega
        go_wp2_with fail
        refine MX.out.mono ?_
        rintro e3 w3 ⟨rfl, rfl⟩
        go_wp2_with fail
        refine ⟨by simp, .inl ⟨_, _, rfl, run_takeDeferred (ds := []) hkd.out, ?_⟩⟩
        refine ⟨.slice none 0 0, by simp [results, Tryz.results171, go_sem], ?_⟩
        exact plv_bad (by rw [← HMX.out]; omega) (hq2.out.grown (grownBy_putObj' _ D _) hq2.out.size (fun k e => by cases e; omega))
theorem kI (s : Sg) (w : World) : Calls Tryz.prog 171 #[.agg #[.int .i64 s.start, .int .i64 s.width, .bool s.big, .bool s.sgn]] w fun e w' => PlV w s e w' := by
  cases h : iW s with
  | false =>
    refine (places_bad s w h).mono ?_
    rintro e w' ⟨rfl, q⟩
    exact ⟨.inl ⟨by unfold eG; rw [h]; simp, rfl⟩, q⟩
  | true =>
    have hm := jP.1 h
    obtain ⟨st, wd, bg, sg⟩ := s
    dsimp only at *
    obtain ⟨a, rfl⟩ := Int.eq_ofNat_of_zero_le hm.1
    obtain ⟨b, rfl⟩ := Int.eq_ofNat_of_zero_le (show 0 ≤ wd by omega)
    cases bg with
    | false => exact places_up a b sg w h
    | true => exact places_dn a b sg w h
theorem places_none (s : Sg) (w : World) (h : eG s = []) : Calls Tryz.prog 171 #[.agg #[.int .i64 s.start, .int .i64 s.width, .bool s.big, .bool s.sgn]] w fun e w' => e = .returned (.slice none 0 0) ∧ Below w.heap.size w w' := by
  refine (kI s w).mono ?_
  rintro e w' ⟨⟨_, he⟩ | ⟨hn, _⟩, q⟩
  · exact ⟨he, q⟩
  · exact absurd h hn
theorem places_some (s : Sg) (w : World) (h : eG s ≠ []) : Calls Tryz.prog 171 #[.agg #[.int .i64 s.start, .int .i64 s.width, .bool s.big, .bool s.sgn]] w fun e w' => ∃ g c, e = .returned (.slice (some ⟨g, 0, none⟩) (eG s).length c) ∧ NR w' w'.heap.size (some ⟨g, 0, none⟩) (eG s) ∧ Below w.heap.size w w' := by
  refine (kI s w).mono ?_
  rintro e w' ⟨⟨h0, _⟩ | ⟨_, g, c, he, ho⟩, q⟩
  · exact absurd h0 h
  · exact ⟨g, c, he, ho.rd (cR _), q⟩
theorem places_own (s : Sg) (w : World) (h : eG s ≠ []) : Calls Tryz.prog 171 #[.agg #[.int .i64 s.start, .int .i64 s.width, .bool s.big, .bool s.sgn]] w fun e w' => ∃ g c, e = .returned (.slice (some ⟨g, 0, none⟩) (eG s).length c) ∧ Own w' w.heap.size 3 1 (some ⟨g, 0, none⟩) c (aX (eG s)) ∧ Below w.heap.size w w' := by
  refine (kI s w).mono ?_
  rintro e w' ⟨⟨h0, _⟩ | ⟨_, g, c, he, ho⟩, q⟩
  · exact absurd h0 h
  · exact ⟨g, c, he, ho, q⟩
end Go.Proofs.YtkmddjbialpppaaGreatDoor
namespace Go.Proofs.YtkmddjbialpppaaGreatDoor
open Go.ChangeShapes Go.WideShapes Go.ChangeAt Go.RowKit
open SG
theorem run_eql_nil {P : Program} (w : World) (t e : TypeId) (a : Option Addr) (l c : Nat) (h : P.underlying t = some (.slice e)) : (binOp .eql t (.slice a l c) (.slice none 0 0)).run P w = .ok (.bool a.isNone) w := by
  simp [binOp, run_equal_slice_nil w t e a l c h]
attribute [local go_sem] run_eql_nil
theorem jC {W : World} {B : Nat} {s : Sg} {t : TypeId} {fz : Nat × Nat} (h : W.heap[B]? = some (.cells #[.int .i64 s.start, .int .i64 s.width, .bool s.big, .bool s.sgn] t fz)) :
    W.cell? ⟨B, 0, none⟩ = some (.int .i64 s.start) ∧ W.cell? ⟨B, 1, none⟩ = some (.int .i64 s.width) ∧ W.cell? ⟨B, 2, none⟩ = some (.bool s.big) ∧ W.cell? ⟨B, 3, none⟩ = some (.bool s.sgn) := by
  refine ⟨?_, ?_, ?_, ?_⟩ <;> simp [World.cell?, h]
set_option maxRecDepth 100000 in
theorem Places_none (s : Sg) (w : World) (h : eG s = []) : Calls Tryz.prog 186 #[.agg #[.int .i64 s.start, .int .i64 s.width, .bool s.big, .bool s.sgn]] w fun e w' => e = .returned (.tuple #[.slice none 0 0, .int .i64 1]) ∧ Below w.heap.size w w' := by
  have P := aA (fun W => places_none s W h)
  clear h
  obtain ⟨st, wd, bg, sg⟩ := s
  dsimp only at *
  have q0 : Below w.heap.size w (w.alloc (.cells #[.int .i64 st, .int .i64 wd, .bool bg, .bool sg] 136)) := (Below.refl _ _).alloc (Nat.le_refl _) _
  go_enter Tryz.func186, Tryz.ntmps186
  go_wp2_with fail
  (with_reducible refine (P.out _).mono ?_)
  rintro e1 w1 ⟨rfl, q1⟩
  have q := aC q0 q0.size q1
  clear q0 q1
  go_wp2_with fail
  refine bodyPost_ret (v := .tuple #[.slice none 0 0, .int .i64 1]) (by simp [results, Tryz.results186, go_sem]) rfl ⟨rfl, q⟩
set_option maxRecDepth 100000 in
theorem Places_some (s : Sg) (w : World) (h : eG s ≠ []) : Calls Tryz.prog 186 #[.agg #[.int .i64 s.start, .int .i64 s.width, .bool s.big, .bool s.sgn]] w fun e w' => ∃ g c, e = .returned (.tuple #[.slice (some ⟨g, 0, none⟩) (eG s).length c, .int .i64 0]) ∧ Own w' w.heap.size 3 1 (some ⟨g, 0, none⟩) c (aX (eG s)) ∧ Below w.heap.size w w' := by
  have P := aA (fun W => places_own s W h)
  clear h
  generalize eG s = l at *
  obtain ⟨st, wd, bg, sg⟩ := s
  dsimp only at *
  have q0 : Below w.heap.size w (w.alloc (.cells #[.int .i64 st, .int .i64 wd, .bool bg, .bool sg] 136)) := (Below.refl _ _).alloc (Nat.le_refl _) _
  go_enter Tryz.func186, Tryz.ntmps186
  go_wp2_with fail
  (with_reducible refine (P.out _).mono ?_)
  rintro e1 w1 ⟨g, c, rfl, ho, q1⟩
  have q := aC q0 q0.size q1
  have hr := ho.mono (base' := w.heap.size) (by simp)
  clear q0 q1 ho
  go_wp2_with fail
  refine bodyPost_ret (v := .tuple #[.slice (some ⟨g, 0, none⟩) l.length c, .int .i64 0]) (by simp [results, Tryz.results186, go_sem]) rfl ⟨g, c, rfl, hr, q⟩
set_option maxRecDepth 100000 in
theorem sigRight_any (s : Sg) (n : Int) (w : World) : Calls Tryz.prog 146 #[.agg #[.int .i64 s.start, .int .i64 s.width, .bool s.big, .bool s.sgn], .int .i64 n] w fun e w' => e = .returned (.bool (dN s n)) ∧ Below w.heap.size w w' := by
  by_cases h : eG s = []
  · have P := aA (fun W => places_none s W h)
    have E : dN s n = false := by unfold dN; rw [decide_eq_false]; exact fun x => x.1 h
    rw [E]
    clear h E
    obtain ⟨st, wd, bg, sg⟩ := s
    dsimp only at *
    have q0 : Below w.heap.size w (w.alloc (.cells #[.int .i64 st, .int .i64 wd, .bool bg, .bool sg] 136)) := (Below.refl _ _).alloc (Nat.le_refl _) _
    go_enter Tryz.func146, Tryz.ntmps146
    go_wp2_with fail
    (with_reducible refine (P.out _).mono ?_)
    rintro e1 w1 ⟨rfl, q1⟩
    have q := aC q0 q0.size q1
    clear q0 q1
    go_wp2_with fail
    go_ret
    exact ⟨rfl, q⟩
  · have P := aA (fun W => places_some s W h)
    have hl : 0 < (eG s).length := List.length_pos_iff.2 h
    have hl2 : (eG s).length ≤ 1000 := by have := j9 h; omega
    by_cases h0 : n < 0
    · have E : dN s n = false := by unfold dN; rw [decide_eq_false]; intro x; omega
      rw [E]
      clear h E
      generalize eG s = l at *
      obtain ⟨st, wd, bg, sg⟩ := s
      dsimp only at *
      have q0 : Below w.heap.size w (w.alloc (.cells #[.int .i64 st, .int .i64 wd, .bool bg, .bool sg] 136)) := (Below.refl _ _).alloc (Nat.le_refl _) _
      go_enter Tryz.func146, Tryz.ntmps146
      go_wp2_with fail
      (with_reducible refine (P.out _).mono ?_)
      rintro e1 w1 ⟨g, c, rfl, hr, q1⟩
      have q := aC q0 q0.size q1
      clear q0 q1
      go_wp2_with fail
      go_ret
      exact ⟨rfl, q⟩
    by_cases h8 : 8 < n
    · have E : dN s n = false := by unfold dN; rw [decide_eq_false]; intro x; omega
      rw [E]
      clear h E
      generalize eG s = l at *
      obtain ⟨st, wd, bg, sg⟩ := s
      dsimp only at *
      have q0 : Below w.heap.size w (w.alloc (.cells #[.int .i64 st, .int .i64 wd, .bool bg, .bool sg] 136)) := (Below.refl _ _).alloc (Nat.le_refl _) _
      go_enter Tryz.func146, Tryz.ntmps146
      go_wp2_with fail
      (with_reducible refine (P.out _).mono ?_)
      rintro e1 w1 ⟨g, c, rfl, hr, q1⟩
      have q := aC q0 q0.size q1
      clear q0 q1
      go_wp2_with fail
      go_ret
      exact ⟨rfl, q⟩
    have E : dN s n = decide ((mxN (eG s) : Int) < 8 * n) := by
      unfold dN
      congr 1
      apply propext
      constructor
      · intro x
        have := (mxN_le (eG s) (8 * n - 1).toNat).2 (fun p hp => by have := x.2.2.2 p hp; omega)
        obtain ⟨p, hp⟩ := List.exists_mem_of_ne_nil _ h
        have := x.2.2.2 p hp
        omega
      · intro x
        refine ⟨h, by omega, by omega, fun p hp => ?_⟩
        have := (mxN_le (eG s) (mxN (eG s))).1 (Nat.le_refl _) p hp
        omega
    have hmb : mxN (eG s) ≤ 63 := (mxN_le _ _).2 (fun p hp => by have := plL_lt hp; omega)
    rw [E]
    clear h E
    generalize eG s = l at *
    obtain ⟨m, hm⟩ : ∃ m, m = mxN l := ⟨_, rfl⟩
    rw [← hm] at hmb ⊢
    have HM := aA hm
    clear hm
    obtain ⟨st, wd, bg, sg⟩ := s
    dsimp only at *
    have q0 : Below w.heap.size w (w.alloc (.cells #[.int .i64 st, .int .i64 wd, .bool bg, .bool sg] 136)) := (Below.refl _ _).alloc (Nat.le_refl _) _
    go_enter Tryz.func146, Tryz.ntmps146
    go_wp2_with fail
    (with_reducible refine (P.out _).mono ?_)
    rintro e1 w1 ⟨g, c, rfl, hr, q1⟩
    have q := aC q0 q0.size q1
    have MX := fS l (some ⟨g, 0, none⟩) c w1 hr hl hl2
    rw [← HM.out] at MX
    replace MX := aA MX
    clear q0 q1 hr P
    go_wp2_with fail
    (with_reducible refine MX.out.mono ?_)
    rintro e2 w2 ⟨rfl, rfl⟩
    go_wp2_with fail
    go_ret
    exact ⟨rfl, q⟩
set_option maxRecDepth 100000 in
theorem fits_any (s : Sg) (v : Int) (w : World) (hv1 : -9223372036854775808 ≤ v) (hv2 : v < 9223372036854775808) (h : eG s ≠ []) : Calls Tryz.prog 133 #[.agg #[.int .i64 s.start, .int .i64 s.width, .bool s.big, .bool s.sgn], .int .i64 v] w fun e w' => e = .returned (.bool (fU s v)) ∧ Below w.heap.size w w' := by
  have P := aA (fun W => places_some s W h)
  obtain ⟨hx, hw1, hw2⟩ := j9 h
  clear hx h
  generalize eG s = l at *
  obtain ⟨st, wd, bg, sg⟩ := s
  dsimp only at *
  have q0 : Below w.heap.size w (w.alloc (.cells #[.int .i64 st, .int .i64 wd, .bool bg, .bool sg] 136)) := (Below.refl _ _).alloc (Nat.le_refl _) _
  have B0 := aA (World.alloc_heap_new w (.cells #[.int .i64 st, .int .i64 wd, .bool bg, .bool sg] 136))
  cases sg with
  | true =>
    go_enter Tryz.func133, Tryz.ntmps133
    go_wp2_with fail
    (with_reducible refine (P.out _).mono ?_)
    rintro e1 w1 ⟨g, c, rfl, hr, q1⟩
    have q := aC q0 q0.size q1
    have B1 := aB B0.out q1
    obtain ⟨_, c1, _, c3⟩ := jC (s := ⟨st, wd, bg, true⟩) B1
    dsimp only at c1 c3
    clear q0 q1 hr P B0 B1
    go_wp2_with fail
    · rename_i hx
      have E : fU ⟨st, wd, bg, true⟩ v = true := by
        unfold fU
        have e : (wd - 1).toNat = wd.toNat - 1 := by omega
        simp only [e, hx]
        simp
      rw [E]
      go_ret
      exact ⟨rfl, q⟩
    · rename_i hx
      have E : fU ⟨st, wd, bg, true⟩ v = (v / 2 ^ (wd.toNat - 1) == -1) := by
        unfold fU
        have e : (wd - 1).toNat = wd.toNat - 1 := by omega
        simp only [e]
        rw [if_pos trivial, Bool.eq_iff_iff]
        simp [hx]
      rw [E]
      go_ret
      refine ⟨?_, q⟩
      show Ending.returned (Value.bool (v / 2 ^ (wd.toNat - 1) == 0 || v / 2 ^ (wd.toNat - 1) == -1)) = _
      rw [show (v / 2 ^ (wd.toNat - 1) == 0) = false from by rw [beq_eq_false_iff_ne]; exact hx]
      rfl
  | false =>
    by_cases h0 : 0 ≤ v
    · by_cases h63 : 63 ≤ wd
      · have E : fU ⟨st, wd, bg, false⟩ v = true := by
          unfold fU
          simp [h0, h63]
        rw [E]
        go_enter Tryz.func133, Tryz.ntmps133
        go_wp2_with fail
        (with_reducible refine (P.out _).mono ?_)
        rintro e1 w1 ⟨g, c, rfl, hr, q1⟩
        have q := aC q0 q0.size q1
        have B1 := aB B0.out q1
        obtain ⟨_, c1, _, c3⟩ := jC (s := ⟨st, wd, bg, false⟩) B1
        dsimp only at c1 c3
        clear q0 q1 hr P B0 B1 E
        go_wp2_with fail
        go_ret
        exact ⟨rfl, q⟩
      · have E : fU ⟨st, wd, bg, false⟩ v = (v / 2 ^ wd.toNat == 0) := by
          unfold fU
          rw [Bool.eq_iff_iff]
          simp [h0, h63]
        rw [E]
        go_enter Tryz.func133, Tryz.ntmps133
        go_wp2_with fail
        (with_reducible refine (P.out _).mono ?_)
        rintro e1 w1 ⟨g, c, rfl, hr, q1⟩
        have q := aC q0 q0.size q1
        have B1 := aB B0.out q1
        obtain ⟨_, c1, _, c3⟩ := jC (s := ⟨st, wd, bg, false⟩) B1
        dsimp only at c1 c3
        clear q0 q1 hr P B0 B1 E
        go_wp2_with fail
        go_ret
        refine ⟨?_, q⟩
        show Ending.returned (Value.bool (decide (63 ≤ wd) || v / 2 ^ wd.toNat == 0)) = _
        rw [decide_eq_false (by omega : ¬ 63 ≤ wd)]
        rfl
    · have E : fU ⟨st, wd, bg, false⟩ v = false := by
        unfold fU
        simp [h0]
      rw [E]
      go_enter Tryz.func133, Tryz.ntmps133
      go_wp2_with fail
      (with_reducible refine (P.out _).mono ?_)
      rintro e1 w1 ⟨g, c, rfl, hr, q1⟩
      have q := aC q0 q0.size q1
      have B1 := aB B0.out q1
      obtain ⟨_, c1, _, c3⟩ := jC (s := ⟨st, wd, bg, false⟩) B1
      dsimp only at c1 c3
      clear q0 q1 hr P B0 B1 E
      go_wp2_with fail
      go_ret
      exact ⟨rfl, q⟩
theorem b4 (x : Int) : bits .and .i64 x 1 = x % 2 := by
  have h : ((BitVec.ofInt 64 x) &&& (BitVec.ofInt 64 1)).toNat = (x % 2).toNat := by
    rw [BitVec.toNat_and, BitVec.toNat_ofInt, BitVec.toNat_ofInt]
    have e1 : ((1 : Int) % ((2 ^ 64 : Nat) : Int)).toNat = 1 := by decide
    rw [e1, Nat.and_one_is_mod]
    have : x % ((2 ^ 64 : Nat) : Int) % 2 = x % 2 := Int.emod_emod_of_dvd _ (by decide)
    have h0 := Int.emod_nonneg x (show ((2 ^ 64 : Nat) : Int) ≠ 0 by decide)
    omega
  have h2 := Int.emod_two_eq x
  show IntKind.i64.wrap (((BitVec.ofInt 64 x) &&& (BitVec.ofInt 64 1)).toNat : Int) = x % 2
  rw [h]
  rcases h2 with h2 | h2 <;> rw [h2] <;> decide
end Go.Proofs.YtkmddjbialpppaaGreatDoor
