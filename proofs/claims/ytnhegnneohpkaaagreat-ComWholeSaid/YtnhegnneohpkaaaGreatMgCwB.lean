/- The walk of law20.fit where the layout may be: it answers what com's own does. -/
import Derived.Test.YtnhegnneohpkaaaGreatCmB
import Derived.Test.YtnhegnneohpkaaaGreatMgPdE
import Derived.Test.YtnhegnneohpkaaaGreatMgCwA
import Derived.Test.YtnhegnneohpkaaaGreatMgFlB
namespace Go.Proofs.YtnhegnneohpkaaaGreat
open Go.ChangeShapes Go.WideShapes Go.ChangeAt Go.RowKit
open CM PD SG

set_option maxRecDepth 100000 in
set_option maxHeartbeats 8000000 in
theorem fit20_any (L : Ly) (A : Option Addr) (c : Nat) (B : Option Addr) (d : Nat) (vs : List Int) (VA : Option Addr) (vc : Nat) (w : World) (hA : SgR w w.heap.size A L.sgs) (hV : InR w w.heap.size VA vs) (hvs : ∀ v ∈ vs, lim v) (hr : rightB L = true) :
    Calls Tryz.prog 16 #[.agg (lyV L A c B d), .slice VA vs.length vc] w fun e w' => e = .returned (.bool (fitA L vs)) ∧ Below w.heap.size w w' := by
  obtain ⟨r, hr2⟩ : ∃ r, r = fitA L vs := ⟨_, rfl⟩
  have NL := hide (show vs.length ≠ L.sgs.length → r = false from fun h => by rw [hr2]; unfold fitA; rw [decide_eq_false h, Bool.false_and])
  have NO := hide (show ∀ k (hk : k < vs.length) (hk2 : k < L.sgs.length), fitsB L.sgs[k] vs[k] = false → r = false from fun k hk hk2 h => by
    rw [hr2]
    cases hx : fitA L vs with
    | false => rfl
    | true =>
      unfold fitA at hx
      simp only [Bool.and_eq_true, decide_eq_true_eq] at hx
      have := allW_iff.1 hx.2 k hk
      rw [getDx _ hk2, h] at this
      cases this)
  have YES := hide (show vs.length = L.sgs.length → (∀ k (hk : k < vs.length) (hk2 : k < L.sgs.length), fitsB L.sgs[k] vs[k] = true) → r = true from fun h1 h2 => by
    rw [hr2]
    unfold fitA
    rw [decide_eq_true h1, Bool.true_and]
    refine allW_iff.2 fun k hk => ?_
    rw [getDx _ (by omega)]
    exact h2 k hk (by omega))
  rw [← hr2]
  have hl16 := (right_iff.1 hr).2.2.1
  have HA := hide hA
  have HV := hide hV
  have HM := hide (fun k (hk : k < L.sgs.length) => show mayB L.sgs[k] = true ∧ plL L.sgs[k] ≠ [] from by
    have hrs := rightS_iff.1 ((right_iff.1 hr).2.2.2.2.1 _ (List.getElem_mem hk))
    exact ⟨(plL_may hrs.1).1, hrs.1⟩)
  have HL := hide hvs
  have q0 : Below w.heap.size w (w.alloc (.cells (lyV L A c B d) 27)) := (Below.refl _ _).alloc (Nat.le_refl _) _
  have B0 := hide (World.alloc_heap_new w (.cells (lyV L A c B d) 27))
  have Q0 := hide q0
  clear hr2 q0 hA hV hvs hr
  unfold lyV at *
  obtain ⟨c0, c1, c2⟩ := three_cells B0.out
  generalize hw0 : w.alloc (.cells #[.int .i64 L.size, .slice A L.sgs.length c, .slice B L.nws.length d] 27) = w0 at *
  by_cases hl : vs.length = L.sgs.length
  · have e1 : ((vs.length : Int) == (L.sgs.length : Int)) = true := by rw [beq_iff_eq]; omega
    have e2 : ((vs.length : Int) != (L.sgs.length : Int)) = false := by simp [bne, e1]
    have HLN := hide hl
    clear NL hl
    go_enter Tryz.func16, Tryz.ntmps16
    go_wp2_with fail
    clear c0 c1 c2 hw0
    go_loopw [15] (fun vi W => ∃ i : Nat, i ≤ vs.length ∧ vi = .int .i64 i ∧ Hid (∀ k, k < i → ∀ (hk : k < vs.length) (hk2 : k < L.sgs.length), fitsB L.sgs[k] vs[k] = true) ∧ Hid (W.heap[w.heap.size]? = some (.cells #[.int .i64 L.size, .slice A L.sgs.length c, .slice B L.nws.length d] 27 (0, 0))) ∧ Hid (Below w.heap.size w W)) (fun vi _ => vs.length - (intOf vi).toNat)
    case atStart => exact ⟨0, Nat.zero_le _, rfl, hide (fun j hj => absurd hj (Nat.not_lt_zero _)), B0, Q0⟩
    case round =>
      obtain ⟨i, hi, rfl, hG, hB, hQ⟩ := hrel
      by_cases hlt : i < vs.length
      case neg =>
        obtain rfl : i = vs.length := by omega
        have hnl : ¬ (vs.length : Int) < (vs.length : Int) := by omega
        have E := hide (YES.out HLN.out (fun k hk hk2 => hG.out k hk hk hk2))
        clear hlt hi NO YES
        go_wp2_with fail
        go_ret
        exact ⟨by rw [E.out]; rfl, hQ.out⟩
      have hlt2 : i < L.sgs.length := by rw [← HLN.out]; exact hlt
      obtain ⟨ab, ao, rfl, hab, nW0⟩ := InR.at_ HV.out hlt
      obtain ⟨sb, so, rfl, hsb, s0, s1, s2, s3⟩ := SgR.at_ (Rd.below HA.out hQ.out) hlt2
      have hii : (i : Int) < (vs.length : Int) := by omega
      have hin : (i : Int) < (L.sgs.length : Int) := by omega
      have nW := cellBelow hQ.out hab nW0
      have NO1 := hide (NO.out i hlt hlt2)
      have NX := hide (show fitsB L.sgs[i] vs[i] = true → ∀ k, k < i + 1 → ∀ (hk : k < vs.length) (hk2 : k < L.sgs.length), fitsB L.sgs[k] vs[k] = true from fun h k hk h1 h2 => by
        by_cases e : k = i
        · subst e; exact h
        · exact hG.out k (by omega) h1 h2)
      have hm := HM.out i hlt2
      have PL := hide (fun W => refPlaces_any L.sgs[i] W)
      have LV := HL.out _ (List.getElem_mem hlt)
      have FT := hide (fun W => refFits_any L.sgs[i] vs[i] W LV.1 LV.2 hm.1)
      obtain ⟨pn, hpn⟩ : ∃ pn, pn = (plL L.sgs[i]).length := ⟨_, rfl⟩
      have hp0 : ((pn : Int) == 0) = false := by
        rw [beq_eq_false_iff_ne, hpn]
        have := List.length_pos_iff.2 hm.2
        omega
      have PL2 := hide (fun W => show Calls Tryz.prog 44 #[.agg #[.int .i64 L.sgs[i].start, .int .i64 L.sgs[i].width, .bool L.sgs[i].big, .bool L.sgs[i].sgn]] W fun e w' => (∃ A c, e = .returned (.slice A pn c)) ∧ Below W.heap.size W w' from by
        refine (PL.out W).mono ?_
        rintro e w' ⟨⟨A, c, h, _⟩, q⟩
        exact ⟨⟨A, c, by rw [h, hpn]⟩, q⟩)
      clear PL hpn LV hm nW0 hG
      obtain ⟨c0, c1, c2⟩ := three_cells hB.out
      generalize L.sgs[i] = S at *
      generalize vs[i] = v at *
      generalize fitsB S v = fb at *
      go_wp2_with fail
      (with_reducible refine (PL2.out _).mono ?_)
      rintro e1 w1 ⟨⟨PA, pc, rfl⟩, q1⟩
      have hB1 := hide (heap_below hB.out (q1.mono (by have := heap_lt hB.out; omega)))
      have hQ1 := hide (below_next hQ.out hQ.out.size q1)
      replace s0 := cellBelow q1 (by have := hQ.out.size; omega) s0
      replace s1 := cellBelow q1 (by have := hQ.out.size; omega) s1
      replace s2 := cellBelow q1 (by have := hQ.out.size; omega) s2
      replace s3 := cellBelow q1 (by have := hQ.out.size; omega) s3
      clear c0 c1 c2 nW q1 hB hQ PL2
      obtain ⟨c0, c1, c2⟩ := three_cells hB1.out
      go_wp2_with fail
      (with_reducible refine (FT.out _).mono ?_)
      rintro e2 w2 ⟨rfl, q2⟩
      have hB2 := hide (heap_below hB1.out q2)
      have hQ2 := hide (below_next hQ1.out hQ1.out.size q2)
      clear c0 c1 c2 s0 s1 s2 s3 q2 hB1 hQ1 FT
      cases fb with
      | false =>
        have E := hide (NO1.out rfl)
        clear NO NO1 YES NX
        go_wp2_with fail
        go_ret
        exact ⟨by rw [E.out]; rfl, hQ2.out⟩
      | true =>
        have G2 := hide (NX.out rfl)
        clear NO1 NX
        go_wp2_with fail
        go_roundw
        case rel => exact ⟨i + 1, by omega, by go_num, G2, hB2, hQ2⟩
        case measure => simp [intOf]; omega
  · have E := hide (NL.out hl)
    have e1 : ((vs.length : Int) == (L.sgs.length : Int)) = false := by rw [beq_eq_false_iff_ne]; omega
    have e2 : ((vs.length : Int) != (L.sgs.length : Int)) = true := by simp [bne, e1]
    clear NL NO YES hl
    go_enter Tryz.func16, Tryz.ntmps16
    go_wp2_with fail
    go_ret
    exact ⟨by rw [E.out]; rfl, Q0.out⟩
end Go.Proofs.YtnhegnneohpkaaaGreat

/- The walk of ref18.Way. -/
namespace Go.Proofs.YtnhegnneohpkaaaGreat
open Go.ChangeShapes Go.WideShapes Go.ChangeAt Go.RowKit
open CM

set_option maxRecDepth 100000 in
set_option maxHeartbeats 8000000 in
theorem refWay_any (f : Wy) (w : World) : Calls Tryz.prog 17 #[.agg #[.int .i64 f.kind, .int .i64 f.first, .int .i64 f.period, .int .i64 f.reps, .int .i64 f.gap]] w fun e w' => e = .returned (.bool (wayB f)) ∧ Below w.heap.size w w' := by
  obtain ⟨r, hr⟩ : ∃ r, r = wayB f := ⟨_, rfl⟩
  have HR := hide (wayB_iff (w := f))
  rw [← hr] at HR ⊢
  clear hr
  obtain ⟨kind, first, period, reps, gap⟩ := f
  dsimp only at *
  have q0 : Below w.heap.size w (w.alloc (.cells #[.int .i64 kind, .int .i64 first, .int .i64 period, .int .i64 reps, .int .i64 gap] 32)) := (Below.refl _ _).alloc (Nat.le_refl _) _
  by_cases h0 : kind < 0
  · have E := hide h0
    go_enter Tryz.func17, Tryz.ntmps17
    go_wp2_with fail
    go_ret
    refine ⟨ret_bool ?_, q0⟩
    exact r_false HR.out (by have := E.out; omega)
  by_cases h1 : 3 < kind
  · have E := hide h1
    go_enter Tryz.func17, Tryz.ntmps17
    go_wp2_with fail
    go_ret
    refine ⟨ret_bool ?_, q0⟩
    exact r_false HR.out (by have := E.out; omega)
  by_cases h2 : first < 0
  · have E := hide h2
    go_enter Tryz.func17, Tryz.ntmps17
    go_wp2_with fail
    go_ret
    refine ⟨ret_bool ?_, q0⟩
    exact r_false HR.out (by have := E.out; omega)
  by_cases h3 : 1000000 < first
  · have E := hide h3
    go_enter Tryz.func17, Tryz.ntmps17
    go_wp2_with fail
    go_ret
    refine ⟨ret_bool ?_, q0⟩
    exact r_false HR.out (by have := E.out; omega)
  by_cases h4 : period < 0
  · have E := hide h4
    go_enter Tryz.func17, Tryz.ntmps17
    go_wp2_with fail
    go_ret
    refine ⟨ret_bool ?_, q0⟩
    exact r_false HR.out (by have := E.out; omega)
  by_cases h5 : 1000000 < period
  · have E := hide h5
    go_enter Tryz.func17, Tryz.ntmps17
    go_wp2_with fail
    go_ret
    refine ⟨ret_bool ?_, q0⟩
    exact r_false HR.out (by have := E.out; omega)
  by_cases h6 : reps < 0
  · have E := hide h6
    go_enter Tryz.func17, Tryz.ntmps17
    go_wp2_with fail
    go_ret
    refine ⟨ret_bool ?_, q0⟩
    exact r_false HR.out (by have := E.out; omega)
  by_cases h7 : 100 < reps
  · have E := hide h7
    go_enter Tryz.func17, Tryz.ntmps17
    go_wp2_with fail
    go_ret
    refine ⟨ret_bool ?_, q0⟩
    exact r_false HR.out (by have := E.out; omega)
  by_cases h8 : gap < 0
  · have E := hide h8
    go_enter Tryz.func17, Tryz.ntmps17
    go_wp2_with fail
    go_ret
    refine ⟨ret_bool ?_, q0⟩
    exact r_false HR.out (by have := E.out; omega)
  by_cases h9 : 1000000 < gap
  · have E := hide h9
    go_enter Tryz.func17, Tryz.ntmps17
    go_wp2_with fail
    go_ret
    refine ⟨ret_bool ?_, q0⟩
    exact r_false HR.out (by have := E.out; omega)
  have H0 := hide (show 0 ≤ kind ∧ kind ≤ 3 ∧ 0 ≤ first ∧ first ≤ 1000000 ∧ 0 ≤ period ∧ period ≤ 1000000 ∧ 0 ≤ reps ∧ reps ≤ 100 ∧ 0 ≤ gap ∧ gap ≤ 1000000 by omega)
  by_cases k0 : kind < 2
  · skip
    by_cases k1 : reps = 0
    · have e1 : (reps == 0) = true := by rw [beq_iff_eq]; exact k1
      have K1 := hide k1
      clear k1
      go_enter Tryz.func17, Tryz.ntmps17
      go_wp2_with fail
      go_ret
      refine ⟨ret_bool ?_, q0⟩
      have H9 := H0.out
      have H8 := K1.out
      first | exact r_true HR.out (by omega) | exact r_false HR.out (by omega)
    · have e1 : (reps == 0) = false := by rw [beq_eq_false_iff_ne]; exact k1
      have K1 := hide k1
      clear k1
      by_cases k2 : 0 < gap
      · skip
        go_enter Tryz.func17, Tryz.ntmps17
        go_wp2_with fail
        go_ret
        refine ⟨ret_bool ?_, q0⟩
        have H9 := H0.out
        have H8 := K1.out
        first | exact r_true HR.out (by omega) | exact r_false HR.out (by omega)
      · skip
        go_enter Tryz.func17, Tryz.ntmps17
        go_wp2_with fail
        go_ret
        refine ⟨ret_bool ?_, q0⟩
        have H9 := H0.out
        have H8 := K1.out
        first | exact r_true HR.out (by omega) | exact r_false HR.out (by omega)
  · by_cases k3 : 0 < period
    · skip
      by_cases k1 : reps = 0
      · have e1 : (reps == 0) = true := by rw [beq_iff_eq]; exact k1
        have K1 := hide k1
        clear k1
        go_enter Tryz.func17, Tryz.ntmps17
        go_wp2_with fail
        go_ret
        refine ⟨ret_bool ?_, q0⟩
        have H9 := H0.out
        have H8 := K1.out
        first | exact r_true HR.out (by omega) | exact r_false HR.out (by omega)
      · have e1 : (reps == 0) = false := by rw [beq_eq_false_iff_ne]; exact k1
        have K1 := hide k1
        clear k1
        by_cases k2 : 0 < gap
        · skip
          go_enter Tryz.func17, Tryz.ntmps17
          go_wp2_with fail
          go_ret
          refine ⟨ret_bool ?_, q0⟩
          have H9 := H0.out
          have H8 := K1.out
          first | exact r_true HR.out (by omega) | exact r_false HR.out (by omega)
        · skip
          go_enter Tryz.func17, Tryz.ntmps17
          go_wp2_with fail
          go_ret
          refine ⟨ret_bool ?_, q0⟩
          have H9 := H0.out
          have H8 := K1.out
          first | exact r_true HR.out (by omega) | exact r_false HR.out (by omega)
    · skip
      go_enter Tryz.func17, Tryz.ntmps17
      go_wp2_with fail
      go_ret
      refine ⟨ret_bool ?_, q0⟩
      have H9 := H0.out
      first | exact r_true HR.out (by omega) | exact r_false HR.out (by omega)
end Go.Proofs.YtnhegnneohpkaaaGreat
