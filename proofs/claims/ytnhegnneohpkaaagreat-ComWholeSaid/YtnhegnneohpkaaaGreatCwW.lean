/- The walk of ComWhole. -/
import Derived.Test.YtnhegnneohpkaaaGreatCwV
import Derived.Test.YtnhegnneohpkaaaGreatMgCmO
namespace Go.Proofs.YtnhegnneohpkaaaGreat
open Go.ChangeShapes Go.WideShapes Go.ChangeAt Go.RowKit
open CM PD SG


set_option maxRecDepth 100000 in
set_option maxHeartbeats 64000000 in
theorem comWhole_walk (L0 : Ly) (A : Option Addr) (c0 : Nat) (B : Option Addr) (d0 : Nat) (first : List Int) (FA : Option Addr) (fc : Nat) (subs : List Int) (SA : Option Addr) (sc : Nat) (yes : Wy) (delay each : Int) (acts : List Dd) (AA : Option Addr) (acap : Nat) (w : World) (hA : SgR w w.heap.size A L0.sgs) (hc : L0.sgs.length ≤ c0) (hd : L0.nws.length ≤ d0) (hfr : InR w w.heap.size FA first) (hfl : ∀ v ∈ first, lim v) (hsr : InR w w.heap.size SA subs) (hsl : ∀ v ∈ subs, lim v) (har : Rd w w.heap.size AA 4 (acts.map Dd.cs)) (haa : ∀ a ∈ acts, InR w w.heap.size a.vs.a a.vs.l ∧ ∀ v ∈ a.vs.l, lim v) :
    Calls Tryz.prog 4 #[.agg (lyV L0 A c0 B d0), .slice FA first.length fc, .slice SA subs.length sc, .agg (wycL yes).toArray, .int .i64 delay, .int .i64 each, .slice AA acts.length acap] w fun e w' => e = .returned (.bool true) ∧ Below w.heap.size w w' := by
  obtain ⟨w0, hw0⟩ : ∃ w0, w0 = (w.alloc (.cells ([.int .i64 L0.size, .slice A L0.sgs.length c0, .slice B L0.nws.length d0]).toArray 27)).alloc (.cells (wycL yes).toArray 32) := ⟨_, rfl⟩
  have LB := hide (heap_below (World.alloc_heap_new w (.cells ([.int .i64 L0.size, .slice A L0.sgs.length c0, .slice B L0.nws.length d0]).toArray 27)) ((Below.refl _ (w.alloc (.cells ([.int .i64 L0.size, .slice A L0.sgs.length c0, .slice B L0.nws.length d0]).toArray 27))).alloc (Nat.le_refl _) (.cells (wycL yes).toArray 32)))
  have YB := hide (World.alloc_heap_new (w.alloc (.cells ([.int .i64 L0.size, .slice A L0.sgs.length c0, .slice B L0.nws.length d0]).toArray 27)) (.cells (wycL yes).toArray 32))
  have Q : Hid (Below w.heap.size w w0) := by rw [hw0]; exact hide (((Below.refl w.heap.size w).alloc (Nat.le_refl _) (.cells ([.int .i64 L0.size, .slice A L0.sgs.length c0, .slice B L0.nws.length d0]).toArray 27)).alloc (by simp; try omega) (.cells (wycL yes).toArray 32))
  rw [← hw0] at LB YB
  simp only [World.size_alloc] at YB
  obtain ⟨sg, hsg⟩ : ∃ sg, sg = L0.sgs.take 18 := ⟨_, rfl⟩
  obtain ⟨n, hn⟩ : ∃ n, n = sg.length := ⟨_, rfl⟩
  obtain ⟨n2, hn2⟩ : ∃ n2, n2 = (L0.nws.take 18).length := ⟨_, rfl⟩
  have LT := hide (fun W => show Calls Tryz.prog 14 #[.agg #[.int .i64 L0.size, .slice A L0.sgs.length c0, .slice B L0.nws.length d0]] W fun e w' => e = .returned (.agg #[.int .i64 L0.size, .slice A n c0, .slice B n2 d0]) ∧ Below W.heap.size W w' from by
    have h := lay20_any L0 A c0 B d0 W hc hd
    unfold lyV layL at h
    dsimp only at h
    rw [← hsg, ← hn, ← hn2] at h
    exact h)
  have hn18 : n ≤ 18 := by rw [hn, hsg, List.length_take]; omega
  have hnc : n ≤ c0 := by rw [hn, hsg, List.length_take]; omega
  have HA := hide (show SgR w w.heap.size A sg from by have h := Rd.take hA 18; rw [← List.map_take, ← hsg] at h; exact h)
  have HN := hide hn
  have AL := hide (fun W => alive20_ok W)
  have HFR := hide hfr
  have HFL := hide hfl
  have HSR := hide hsr
  have HSL := hide hsl
  have HAR := hide har
  have HAA := hide haa
  obtain ⟨m1, em1, hm1⟩ := run_max (P := Tryz.prog) delay 0
  obtain ⟨m2, em2, hm2⟩ := run_min (P := Tryz.prog) m1 20
  obtain ⟨m3, em3, hm3⟩ := run_max (P := Tryz.prog) each 0
  obtain ⟨m4, em4, hm4⟩ := run_min (P := Tryz.prog) m3 40
  have hdl : 0 ≤ m2 ∧ m2 ≤ 20 := by omega
  have hea : 0 ≤ m4 ∧ m4 ≤ 40 := by omega
  clear hA hc hd hfr hfl hsr hsl har haa hsg hn hn2 em1 em2 em3 em4
  go_enter Tryz.func4, Tryz.ntmps4
  go_upto_region 1 with fail
  change Code.wp _ _ _ _ ((w.alloc (.cells ([.int .i64 L0.size, .slice A L0.sgs.length c0, .slice B L0.nws.length d0]).toArray 27)).alloc (.cells (wycL yes).toArray 32))
  rw [← hw0]
  clear hw0
  go_wp2_with (refine wpList_load_row rfl 27 (.tmp 7) (by rfl) w.heap.size (by rfl) 27 ([.int .i64 L0.size, .slice A L0.sgs.length c0, .slice B L0.nws.length d0]).toArray (0, 0) _ (by exact LB.out) Tryz.underlying27 (by rfl) (by kernel_rfl) ?_)
  (with_reducible refine (LT.out _).mono ?_)
  rintro ew1' w1' ⟨rfl, qw1'⟩
  replace LB := hide (heap_below LB.out qw1')
  replace YB := hide (heap_below YB.out qw1')
  replace Q := hide (below_next Q.out Q.out.size qw1')
  clear qw1'
  clear LT
  have Tw2' := hide (show World.there _ w.heap.size 0 3 from there_heap (cs := [.int .i64 L0.size, .slice A L0.sgs.length c0, .slice B L0.nws.length d0]) LB.out)
  go_wp2_with (refine wpList_store_hid (by rfl) 27 (.tmp 7) (.tmp 49) (by rfl) w.heap.size 0 ([.int .i64 L0.size, .slice A n c0, .slice B n2 d0]) (by rfl) (by rfl) (by exact Tw2'.out) (by kernel_rfl) (by simp [Value.oneCell', Lv.cs]) ?_)
  intro w2' ew2'
  replace YB := hide (show w2'.heap[w.heap.size + 1]? = some (.cells (wycL yes).toArray 32 (0, 0)) by rw [ew2'.out]; exact other_heap (by omega) _ _ _ YB.out)
  replace Q := hide (show Below w.heap.size w w2' by rw [ew2'.out]; exact Q.out.trans (below_setCells _ _ _ (by have := Q.out.size; omega)))
  replace LB := hide (show w2'.heap[w.heap.size]? = some (.cells ([.int .i64 L0.size, .slice A n c0, .slice B n2 d0]).toArray 27 (0, 0)) by rw [ew2'.out]; exact whole_heap ([.int .i64 L0.size, .slice A n c0, .slice B n2 d0]) (xs := [.int .i64 L0.size, .slice A L0.sgs.length c0, .slice B L0.nws.length d0]) LB.out rfl)
  clear ew2' Tw2'
  obtain ⟨b0, b1, b2⟩ := three_cells LB.out
  have f2 : w2'.frozen? ⟨w.heap.size, 2, none⟩ = false := by have := LB.out; simp [World.frozen?, this]
  have zY := heap_lt YB.out
  have zL := heap_lt LB.out
  go_upto_region 3 with fail
  clear b0 b1 b2 f2
  obtain ⟨w3', ew3'⟩ : ∃ wq, wq = w2'.setCell ⟨w.heap.size, 2, none⟩ (.slice none 0 0) := ⟨_, rfl⟩
  rw [← ew3']
  replace YB := hide (show w3'.heap[w.heap.size + 1]? = some (.cells (wycL yes).toArray 32 (0, 0)) by rw [ew3']; exact other_heap (by omega) ([.slice none 0 0]) 2 _ YB.out)
  replace Q := hide (show Below w.heap.size w w3' by rw [ew3']; exact Q.out.trans (below_setCells ([.slice none 0 0]) 2 _ (by omega)))
  replace LB := hide (show w3'.heap[w.heap.size]? = some (.cells ([.int .i64 L0.size, .slice A n c0, .slice none 0 0]).toArray 27 (0, 0)) by rw [ew3']; exact set_heap ([.slice none 0 0]) ([.int .i64 L0.size, .slice A n c0, .slice B n2 d0]) 2 _ LB.out)
  clear ew3'
  obtain ⟨b0, b1, b2⟩ := three_cells LB.out
  go_upto_block 0 with fail
  clear b0 b1 b2
  have hbs := hide (show w.heap.size + 2 ≤ w3'.heap.size from heap_lt YB.out)
  refine comWhole_layout w w3' w.heap.size (w.heap.size + 1) (w.heap.size + 2) n c0 L0.size A yes hn18 (by omega) (by omega) (by omega) (by omega) (by omega) (by rfl) hbs LB YB Q (by intro _ _ d9 _ _ h; cases d9 <;> exact h) ?_
  intro u15 u54 u55 u56 u57 u58 u59 u60 u61 u62 u63 u64 u65 wa hcut
  clear LB YB Q hbs
  obtain ⟨NA, nc, FB, fc2, rfl, LB, YB, ON, OF, hbs, Q⟩ := hcut
  obtain ⟨b0, b1, b2⟩ := three_cells LB.out
  go_upto_region 10 with fail
  clear b0 b1 b2
  obtain ⟨L, hL⟩ : ∃ L : Ly, L = ⟨L0.size, sg, List.replicate n (-1)⟩ := ⟨_, rfl⟩
  obtain ⟨lv, hlv⟩ : ∃ lv : Lv, lv = ⟨L, A, c0, NA, nc⟩ := ⟨_, rfl⟩
  have hLn : L.sgs.length = n := by rw [hL]; exact HN.out.symm
  have hcs : lv.cs = [.int .i64 L0.size, .slice A n c0, .slice NA n nc] := by rw [hlv, hL]; simp [Lv.cs, ← HN.out]
  have OK : Hid (lv.Ok wa) := hide (by
    have e : (List.replicate n [Value.int .i64 (-1)]) = inRow (List.replicate n (-1)) := by unfold inRow; rw [List.map_replicate]
    have h := ON.out
    rw [e] at h
    have hle := Own.le h
    rw [hlv, hL]
    exact ⟨Rd.next HA.out Q.out Q.out.size, inOwn_rd h, by show sg.length ≤ 1000; rw [← HN.out]; omega, by show (List.replicate n (-1 : Int)).length ≤ 1000; rw [List.length_replicate]; omega, by show sg.length ≤ c0; rw [← HN.out]; exact hnc, by unfold inRow at hle; rwa [List.length_map] at hle⟩)
  obtain ⟨fv, hfv⟩ : ∃ fv : Fv, fv = ⟨List.replicate n aFlt, FB, fc2⟩ := ⟨_, rfl⟩
  have OKF : Hid (fv.Ok wa) := hide (by
    have e : (List.replicate n (flcL aFlt)) = (List.replicate n aFlt).map flcL := by rw [List.map_replicate]
    have h := OF.out
    rw [e] at h
    rw [hfv]
    exact ⟨h.rd (fl_rows _), by show (List.replicate n aFlt).length ≤ 1000; rw [List.length_replicate]; omega⟩)
  have hvv : fv.v = .slice FB n fc2 := by rw [hfv]; simp [Fv.v]
  have hvl : fv.l = List.replicate n aFlt := by rw [hfv]
  replace LB := hide (show wa.heap[w.heap.size]? = some (.cells lv.cs.toArray 27 (0, 0)) by rw [hcs]; exact LB.out)
  have hws : WL L ∨ rightB L = false ∨ n = 0 := by
    rcases hr : rightB L with _ | _
    · exact .inr (.inl rfl)
    · by_cases h0 : n = 0
      · exact .inr (.inr h0)
      · exact .inl ⟨hr, by omega, fun a ha => by rw [hL] at ha; exact (List.mem_replicate.1 ha).2⟩
  have hnz : (lv.L = L ∧ lv.A = A ∧ lv.c = c0 ∧ lv.B = NA ∧ lv.d = nc) := by rw [hlv]; exact ⟨rfl, rfl, rfl, rfl, rfl⟩
  have RR := hide (fun W (q : Below wa.heap.size wa W) => show Calls Tryz.prog 15 #[.agg lv.cs.toArray] W fun e w' => e = .returned (.bool (rightB lv.L)) ∧ Below W.heap.size W w' from by have k := OK.out.next q; exact refRight15_any lv.L lv.A lv.c lv.B lv.d W k.a k.b k.s k.n k.c k.d)
  have F1 := hide (fun W (q : Below wa.heap.size wa W) (hr : rightB lv.L = true) => show Calls Tryz.prog 16 #[.agg lv.cs.toArray, .slice FA first.length fc] W fun e w' => e = .returned (.bool (fitA lv.L first)) ∧ Below W.heap.size W w' from fit20_any lv.L lv.A lv.c lv.B lv.d first FA fc W (OK.out.next q).a (Rd.next (Rd.next HFR.out Q.out Q.out.size) q q.size) HFL.out hr)
  have F2 := hide (fun W (q : Below wa.heap.size wa W) (hr : rightB lv.L = true) => show Calls Tryz.prog 16 #[.agg lv.cs.toArray, .slice SA subs.length sc] W fun e w' => e = .returned (.bool (fitA lv.L subs)) ∧ Below W.heap.size W w' from fit20_any lv.L lv.A lv.c lv.B lv.d subs SA sc W (OK.out.next q).a (Rd.next (Rd.next HSR.out Q.out Q.out.size) q q.size) HSL.out hr)
  have WY := hide (fun W => show Calls Tryz.prog 17 #[.agg (wycL yes).toArray] W fun e w' => e = .returned (.bool (wayB yes)) ∧ Below W.heap.size W w' from refWay_any yes W)
  rw [hnz.1] at RR F1 F2
  replace hnz := hide hnz
  replace hws := hide hws
  replace hL := hide hL
  replace hlv := hide hlv
  replace hcs := hide hcs
  replace hLn := hide hLn
  replace hfv := hide hfv
  replace hvv := hide hvv
  replace hvl := hide hvl
  clear ON OF
  have Q0 := Q
  replace Q := hide (Below.refl wa.heap.size wa)
  go_cut [96] (fun v W => ∃ bad : Bool, v = .bool bad ∧ (bad = false → rightB L = true ∧ n ≠ 0 ∧ fitA L first = true ∧ fitA L subs = true ∧ wayB yes = true) ∧ Hid (W.heap[w.heap.size]? = some (.cells lv.cs.toArray 27 (0, 0))) ∧ Hid (W.heap[w.heap.size + 1]? = some (.cells (wycL yes).toArray 32 (0, 0))) ∧ Hid (Below wa.heap.size wa W))
  case first =>
    obtain ⟨rb, hrb⟩ : ∃ rb, rb = rightB L := ⟨_, rfl⟩
    rw [← hrb] at RR
    have R1 := hide (RR.out wa Q.out)
    clear RR
    replace hrb := hide hrb
    go_wp2_with (refine wpList_load_row rfl 27 (.tmp 7) (by rfl) w.heap.size (by rfl) 27 lv.cs.toArray (0, 0) _ (by exact LB.out) Tryz.underlying27 (by rfl) (by kernel_rfl) ?_)
    (with_reducible refine (R1.out).mono ?_)
    rintro ew4' w4' ⟨rfl, qw4'⟩
    replace LB := hide (heap_below LB.out qw4')
    replace YB := hide (heap_below YB.out qw4')
    replace Q := hide (below_next Q.out Q.out.size qw4')
    clear qw4'
    clear R1
    cases rb with
    | false =>
      go_wp2_with fail
      go_meet
      exact ⟨true, rfl, fun h => by (cases h), LB, YB, Q⟩
    | true =>
      by_cases h0 : n = 0
      · have e1 : ((n : Int) == 0) = true := by rw [beq_iff_eq]; omega
        replace h0 := hide h0
        go_wp2_with fail
        go_meet
        exact ⟨true, rfl, fun h => by (cases h), LB, YB, Q⟩
      have e1 : ((n : Int) == 0) = false := by rw [beq_eq_false_iff_ne]; omega
      replace h0 := hide h0
      have R1 := hide (F1.out w4' Q.out hrb.out.symm)
      obtain ⟨f0, hf0⟩ : ∃ fb, fb = fitA L first := ⟨_, rfl⟩
      rw [← hf0] at R1
      replace hf0 := hide hf0
      clear F1
      go_wp2_with (refine wpList_load_rowG (by kernel_rfl) 27 (.tmp 7) (by rfl) w.heap.size (by rfl) 27 lv.cs.toArray (0, 0) _ (by exact LB.out) Tryz.underlying27 (by rfl) (by kernel_rfl) ?_)
      (with_reducible refine (R1.out).mono ?_)
      rintro ew5' w5' ⟨rfl, qw5'⟩
      replace LB := hide (heap_below LB.out qw5')
      replace YB := hide (heap_below YB.out qw5')
      replace Q := hide (below_next Q.out Q.out.size qw5')
      clear qw5'
      clear R1
      cases f0 with
      | false =>
        go_wp2_with fail
        go_meet
        exact ⟨true, rfl, fun h => by (cases h), LB, YB, Q⟩
      | true =>
        have R1 := hide (F2.out w5' Q.out hrb.out.symm)
        obtain ⟨f1, hf1⟩ : ∃ fb, fb = fitA L subs := ⟨_, rfl⟩
        rw [← hf1] at R1
        replace hf1 := hide hf1
        clear F2
        go_wp2_with (refine wpList_load_rowG (by kernel_rfl) 27 (.tmp 7) (by rfl) w.heap.size (by rfl) 27 lv.cs.toArray (0, 0) _ (by exact LB.out) Tryz.underlying27 (by rfl) (by kernel_rfl) ?_)
        (with_reducible refine (R1.out).mono ?_)
        rintro ew6' w6' ⟨rfl, qw6'⟩
        replace LB := hide (heap_below LB.out qw6')
        replace YB := hide (heap_below YB.out qw6')
        replace Q := hide (below_next Q.out Q.out.size qw6')
        clear qw6'
        clear R1
        cases f1 with
        | false =>
          go_wp2_with fail
          go_meet
          exact ⟨true, rfl, fun h => by (cases h), LB, YB, Q⟩
        | true =>
          obtain ⟨wb, hwb⟩ : ∃ wb, wb = wayB yes := ⟨_, rfl⟩
          rw [← hwb] at WY
          replace hwb := hide hwb
          go_wp2_with (refine wpList_load_rowG (by kernel_rfl) 32 (.tmp 10) (by rfl) (w.heap.size + 1) (by rfl) 32 (wycL yes).toArray (0, 0) _ (by exact YB.out) Tryz.underlying32 (by rfl) (by kernel_rfl) ?_)
          (with_reducible refine (WY.out _).mono ?_)
          rintro ew7' w7' ⟨rfl, qw7'⟩
          replace LB := hide (heap_below LB.out qw7')
          replace YB := hide (heap_below YB.out qw7')
          replace Q := hide (below_next Q.out Q.out.size qw7')
          clear qw7'
          clear WY
          cases wb with
          | false =>
            go_wp2_with fail
            go_meet
            exact ⟨true, rfl, fun h => by (cases h), LB, YB, Q⟩
          | true =>
            go_wp2_with fail
            (with_reducible refine (AL.out _).mono ?_)
            rintro ew8' w8' ⟨rfl, qw8'⟩
            replace LB := hide (heap_below LB.out qw8')
            replace YB := hide (heap_below YB.out qw8')
            replace Q := hide (below_next Q.out Q.out.size qw8')
            clear qw8'
            clear AL
            go_wp2_with fail
            go_meet
            exact ⟨false, rfl, fun _ => ⟨hrb.out.symm, h0.out, hf0.out.symm, hf1.out.symm, hwb.out.symm⟩, LB, YB, Q⟩
  case rest =>
  clear RR F1 F2 WY LB YB Q
  obtain ⟨bad, rfl, hbad, LB, YB, Q⟩ := hcut
  rename_i hK2 _ hK
  refine hK _ _ ?_
  clear hK
  have zaw := Q0.out.size
  cases bad with
  | true =>
    go_wp2_with fail
    (with_reducible refine (AL.out _).mono ?_)
    rintro ew9' w9' ⟨rfl, qw9'⟩
    replace LB := hide (heap_below LB.out qw9')
    replace YB := hide (heap_below YB.out qw9')
    replace Q := hide (below_next Q.out Q.out.size qw9')
    clear qw9'
    clear AL
    go_wp2_with fail
    go_ret
    exact ⟨rfl, below_next Q0.out zaw Q.out⟩
  | false =>
    obtain ⟨hr, h0, hf0, hf1, hwy⟩ := hbad rfl
    have wl : WL L := by
      rcases hws.out with h | h | h
      · exact h
      · rw [hr] at h; cases h
      · exact absurd h h0
    refine wp_cond_false (by rfl) (wp_skip ?_)
    refine hK2 _ _ ?_
    clear hK2 hbad hws h0
    have OK1 := hide (OK.out.next Q.out)
    have OKF1 := hide (OKF.out.next Q.out)
    have Qw : Hid (Below w.heap.size w wc) := hide (below_next Q0.out zaw Q.out)
    have LB1 := LB
    clear Q Q0 OK OKF HA
    have zLB := heap_lt LB.out
    have RF := hide (show InR wc wc.heap.size FA first from Rd.next HFR.out Qw.out Qw.out.size)
    have RS := hide (show InR wc wc.heap.size SA subs from Rd.next HSR.out Qw.out Qw.out.size)
    have Q := hide (Below.refl wc.heap.size wc)
    have hn16 : n ≤ 16 := by rw [← hLn.out]; exact wl.n
    have hfl1 := (fitA_iff.1 hf0).1
    have hsl1 := (fitA_iff.1 hf1).1
    have hLl : lv.L = L := hnz.out.1
    have OFI : Iv.Ok ⟨first, FA, fc⟩ wc := ⟨RF.out, HFL.out, by show first.length ≤ 1000; rw [hfl1, hLn.out]; omega⟩
    have OSU : Iv.Ok ⟨subs, SA, sc⟩ wc := ⟨RS.out, HSL.out, by show subs.length ≤ 1000; rw [hsl1, hLn.out]; omega⟩
    have hal : ∀ f ∈ fv.l, Alw 0 f := by
      rw [hvl.out]
      intro f hf
      rw [(List.mem_replicate.1 hf).2]
      exact ⟨rfl, by decide, Int.le_refl 0⟩
    have hfl2 : fv.l.length = L.sgs.length := by rw [hvl.out, List.length_replicate, hLn.out]
    have hgn : gnL first = first := by unfold gnL mayG; rw [if_pos]; rw [decide_eq_true_eq, hfl1]; exact ⟨wl.n0, wl.n⟩
    have hmay : mayG first.length = true := by unfold mayG; rw [decide_eq_true_eq, hfl1]; exact ⟨wl.n0, wl.n⟩
    have hcom : comB lv.L fv.l first first 0 = true := by rw [hLl]; exact comB_of wl hfl2 hal (by decide) hf0 hf0 (Int.le_refl 0) (Int.le_refl 0)
    have hns : newSndB yes yes m2 = true := by unfold newSndB; rw [hwy, decide_eq_true (by omega)]; rfl
    have N1 := hide (fun W (q : Below wc.heap.size wc W) => show Calls Tryz.prog 5 #[.agg lv.cs.toArray, .int .u8 0, .slice FA first.length fc, .slice FB n fc2, .agg (wycL yes).toArray, .agg (wycL yes).toArray, .int .i64 m2] W _ from by have h := newOut_yes lv 0 ⟨first, FA, fc⟩ fv yes yes m2 W (OK1.out.next q) (OKF1.out.next q) (OFI.next q) (by unfold newOutB; simp only [hgn]; rw [hmay, hcom, hns]; rfl); rw [hvv.out] at h; exact h)
    have hwt : wtB ⟨m4, m4, 0, false, false⟩ = true := wtB_iff.2 ⟨hea.1, by show m4 ≤ 1000000; omega, hea.1, by show m4 ≤ 1000000; omega, Int.le_refl 0, by show (0 : Int) ≤ max m4 m4; omega, .inr ⟨rfl, rfl⟩, .inl rfl⟩
    have hft : fitA lv.L subs = true := by rw [hLl]; exact hf1
    have N2 := hide (fun W (q : Below wc.heap.size wc W) => show Calls Tryz.prog 6 #[.agg lv.cs.toArray, .slice FA first.length fc, .slice SA subs.length sc, .slice FB n fc2, .agg #[.int .i64 m4, .int .i64 m4, .int .i64 0, .bool false, .bool false]] W _ from by have h := newIn_yes lv fv ⟨first, FA, fc⟩ ⟨subs, SA, sc⟩ ⟨m4, m4, 0, false, false⟩ W (OK1.out.next q) (OKF1.out.next q) (OFI.next q) (OSU.next q) (by unfold newInB; simp only [hgn]; rw [hcom, hft, hwt]; rfl) hmay; rw [hvv.out] at h; exact h)
    have HIR := hide (And.intro hcom (And.intro hft hwt))
    have HAW := hide (show lv.Away (fun k => wc.heap.size ≤ k) ∧ OffS (fun k => wc.heap.size ≤ k) fv.a fv.l.length ∧ OffS (fun k => wc.heap.size ≤ k) SA subs.length from ⟨OK1.out.away, OKF1.out.away, OSU.away⟩)
    have HWL := hide wl
    have HF0 := hide hf0
    have HF1 := hide hf1
    have HAL := hide hal
    have HFL2 := hide hfl2
    have HFL1 := hide hfl1
    have HLl := hide hLl
    have HNS := hide hns
    clear hr hwy wl hf0 hf1 hfl1 hsl1 hLl OFI OSU hal hfl2 hgn hmay hcom hns hwt hft
    have C1 := hide (N1.out wc Q.out)
    clear N1
    go_wp2_with (first | (refine wpList_load_row rfl 27 (.tmp 7) (by rfl) w.heap.size (by rfl) 27 lv.cs.toArray (0, 0) _ (by exact LB.out) Tryz.underlying27 (by rfl) (by kernel_rfl) ?_) | (refine wpList_load_row rfl 32 (.tmp 10) (by rfl) (w.heap.size + 1) (by rfl) 32 (wycL yes).toArray (0, 0) _ (by exact YB.out) Tryz.underlying32 (by rfl) (by kernel_rfl) ?_))
    (with_reducible refine (C1.out).mono ?_)
    rintro ew10' w10' ⟨⟨V, rfl, hV, hVn, hVi⟩, qw10'⟩
    replace LB := hide (heap_below LB.out qw10')
    replace YB := hide (heap_below YB.out qw10')
    replace Q := hide (below_next Q.out Q.out.size qw10')
    clear qw10'
    clear C1
    clear YB 
    have AV := hide (show V.Away (fun k => w10'.heap.size ≤ k) from hV.away)
    have HVI := hide hVi
    clear hVi hVn
    replace hV := hide hV
    obtain ⟨N0, hN0⟩ : ∃ N0, N0 = w10'.heap.size := ⟨_, rfl⟩
    rw [← hN0] at AV
    have zN0 : N0 ≤ w10'.heap.size := Nat.le_of_eq hN0
    replace hN0 := hide hN0
    have O := World.alloc_heap_new w10' (.cells Ou.zero.cs.toArray 40)
    have zLBb : w.heap.size < w10'.heap.size := heap_lt LB.out
    have zQb : wc.heap.size ≤ w10'.heap.size := Q.out.size
    obtain ⟨w12', hw12'⟩ : ∃ wx, wx = w10'.alloc (.cells Ou.zero.cs.toArray 40) := ⟨_, rfl⟩
    have q11' := hide (show Below w10'.heap.size w10' w12' by rw [hw12']; exact (Below.refl _ _).alloc (Nat.le_refl _) _)
    rw [← hw12'] at O
    replace O := hide O
    have Tw13' := hide (show (w10'.alloc (.cells Ou.zero.cs.toArray 40)).there w10'.heap.size 0 26 by rw [← hw12']; exact there_heap (cs := Ou.zero.cs) O.out)
    go_wp2_with (refine wpList_store_hid (by rfl) 40 (.tmp 17) (.tmp 112) (by rfl) w10'.heap.size 0 V.cs (by rfl) (by rfl) (by exact Tw13'.out) (by kernel_rfl) (by simp [Value.oneCell', Ou.cs, Fv.v, Iv.v, Bv.v]) ?_)
    intro w13' ew13'
    replace ew13' : Hid (w13' = w12'.setCells w10'.heap.size 0 V.cs) := by rw [hw12']; exact ew13'
    replace O := hide (show w13'.heap[w10'.heap.size]? = some (.cells V.cs.toArray 40 (0, 0)) by rw [ew13'.out]; exact whole_heap V.cs (xs := Ou.zero.cs) O.out rfl)
    replace q11' := hide (show Below w10'.heap.size w10' w13' by rw [ew13'.out]; exact q11'.out.trans (below_setCells _ _ _ (by omega)))
    clear ew13' Tw13' hw12'
    replace LB := hide (heap_below LB.out q11'.out)
    replace hV := hide ((hV.out.next q11'.out))
    replace Q := hide (below_next Q.out Q.out.size q11'.out)
    clear q11'
    generalize w10'.heap.size = b at *
    have C1 := hide (N2.out w13' Q.out)
    clear N2
    have zb1 : N0 ≤ b := zN0
    have zOu := heap_lt O.out
    go_wp2_with (refine wpList_load_row rfl 27 (.tmp 7) (by rfl) w.heap.size (by rfl) 27 lv.cs.toArray (0, 0) _ (by exact LB.out) Tryz.underlying27 (by rfl) (by kernel_rfl) ?_)
    (with_reducible refine (C1.out).mono ?_)
    rintro ew14' w14' ⟨⟨U, rfl, hU, hUn, hUi⟩, qw14'⟩
    replace LB := hide (heap_below LB.out qw14')
    replace O := hide (heap_below O.out qw14')
    replace hV := hide ((hV.out.next qw14'))
    replace Q := hide (below_next Q.out Q.out.size qw14')
    clear qw14'
    clear C1
    have AU := hide (show U.Away (fun k => k = b ∨ w14'.heap.size ≤ k) from Inn.Away.or ⟨by rw [hUi.ly]; exact HAW.out.1.mono (fun k h => by have : k = b := h; omega), by rw [hUi.fl]; exact HAW.out.2.1.mono (fun k h => by have : k = b := h; omega), offS_fresh hUn.S (fun k h => by have : k = b := h; omega), offS_fresh hUn.G (fun k h => by have : k = b := h; omega), by rw [hUi.subs]; exact HAW.out.2.2.mono (fun k h => by have : k = b := h; omega)⟩ hU.away)
    have HUI := hide hUi
    clear hUi hUn
    replace hU := hide hU
    obtain ⟨N1, hN1⟩ : ∃ N1, N1 = w14'.heap.size := ⟨_, rfl⟩
    rw [← hN1] at AU
    have zN1 : N1 ≤ w14'.heap.size := Nat.le_of_eq hN1
    replace hN1 := hide hN1
    have I := World.alloc_heap_new w14' (.cells Inn.zero.cs.toArray 47)
    have zLBc : w.heap.size < w14'.heap.size := heap_lt LB.out
    have zOc : b < w14'.heap.size := heap_lt O.out
    have zQc : wc.heap.size ≤ w14'.heap.size := Q.out.size
    obtain ⟨w16', hw16'⟩ : ∃ wx, wx = w14'.alloc (.cells Inn.zero.cs.toArray 47) := ⟨_, rfl⟩
    have q15' := hide (show Below w14'.heap.size w14' w16' by rw [hw16']; exact (Below.refl _ _).alloc (Nat.le_refl _) _)
    rw [← hw16'] at I
    replace I := hide I
    have Tw17' := hide (show (w14'.alloc (.cells Inn.zero.cs.toArray 47)).there w14'.heap.size 0 13 by rw [← hw16']; exact there_heap (cs := Inn.zero.cs) I.out)
    go_wp2_with (refine wpList_store_hid (by rfl) 47 (.tmp 19) (.tmp 123) (by rfl) w14'.heap.size 0 U.cs (by rfl) (by rfl) (by exact Tw17'.out) (by kernel_rfl) (by simp [Value.oneCell', Inn.cs, Fv.v, Iv.v]) ?_)
    intro w17' ew17'
    replace ew17' : Hid (w17' = w16'.setCells w14'.heap.size 0 U.cs) := by rw [hw16']; exact ew17'
    replace I := hide (show w17'.heap[w14'.heap.size]? = some (.cells U.cs.toArray 47 (0, 0)) by rw [ew17'.out]; exact whole_heap U.cs (xs := Inn.zero.cs) I.out rfl)
    replace q15' := hide (show Below w14'.heap.size w14' w17' by rw [ew17'.out]; exact q15'.out.trans (below_setCells _ _ _ (by omega)))
    clear ew17' Tw17' hw16'
    replace LB := hide (heap_below LB.out q15'.out)
    replace O := hide (heap_below O.out q15'.out)
    replace hV := hide ((hV.out.next q15'.out))
    replace hU := hide ((hU.out.next q15'.out))
    replace Q := hide (below_next Q.out Q.out.size q15'.out)
    clear q15'
    generalize w14'.heap.size = c at *
    have zbc : b < c := zOc
    have AV2 := hide (show V.Away (fun k => k = b ∨ c ≤ k) from AV.out.mono (fun k h => show N0 ≤ k by have : k = b ∨ c ≤ k := h; omega))
    have AU2 := hide (show U.Away (fun k => k = b ∨ c ≤ k) from AU.out.mono (fun k h => show k = b ∨ N1 ≤ k by have : k = b ∨ c ≤ k := h; omega))
    clear AV AU
    have hr : U.right = true := by
      unfold Inn.right
      rw [HUI.out.ly, HUI.out.fl, HUI.out.S, HUI.out.G, HUI.out.times, HUI.out.subs, HUI.out.w, HIR.out.1, HIR.out.2.1, HIR.out.2.2]
      rfl
    have C1 := hide (comStart_ok U w17' hU.out hr)
    clear hr
    go_wp2_with (refine wpList_load_row rfl 47 (.tmp 19) (by rfl) c (by rfl) 47 U.cs.toArray (0, 0) _ (by exact I.out) Tryz.underlying47 (by rfl) (by kernel_rfl) ?_)
    (with_reducible refine (C1.out).mono ?_)
    rintro ew18' w18' ⟨rfl, qw18'⟩
    replace LB := hide (heap_below LB.out qw18')
    replace O := hide (heap_below O.out qw18')
    replace I := hide (heap_below I.out qw18')
    replace hV := hide ((hV.out.next qw18'))
    replace hU := hide ((hU.out.next qw18'))
    replace Q := hide (below_next Q.out Q.out.size qw18')
    clear qw18'
    clear C1
    have Tw19' := hide (show World.there _ c 0 13 from there_heap (cs := U.cs) I.out)
    go_wp2_with (refine wpList_store_hid (by rfl) 47 (.tmp 19) (.tmp 128) (by rfl) c 0 (({ U with w := U.w.start } : Inn).cs) (by rfl) (by rfl) (by exact Tw19'.out) (by kernel_rfl) (by simp [Value.oneCell', Inn.cs, Fv.v, Iv.v]) ?_)
    intro w19' ew19'
    replace LB := hide (show w19'.heap[w.heap.size]? = some (.cells lv.cs.toArray 27 (0, 0)) by rw [ew19'.out]; exact other_heap (by omega) _ _ _ LB.out)
    replace O := hide (show w19'.heap[b]? = some (.cells V.cs.toArray 40 (0, 0)) by rw [ew19'.out]; exact other_heap (by omega) _ _ _ O.out)
    replace hV := hide (show V.Ok w19' by rw [ew19'.out]; exact hV.out.set AV2.out (show _ ∨ _ by omega) _ _)
    replace hU := hide (show U.Ok w19' by rw [ew19'.out]; exact hU.out.set AU2.out (show _ ∨ _ by omega) _ _)
    replace Q := hide (show Below wc.heap.size wc w19' by rw [ew19'.out]; exact Q.out.trans (below_setCells _ _ _ (by have := Q.out.size; omega)))
    replace I := hide (show w19'.heap[c]? = some (.cells (({ U with w := U.w.start } : Inn).cs).toArray 47 (0, 0)) by rw [ew19'.out]; exact whole_heap (({ U with w := U.w.start } : Inn).cs) (xs := U.cs) I.out rfl)
    clear ew19' Tw19'
    obtain ⟨U0, hU0⟩ : ∃ U0, U0 = ({ U with w := U.w.start } : Inn) := ⟨_, rfl⟩
    have hU0k : Hid (U0.Ok w19') := hide (by rw [hU0]; exact ⟨hU.out.ly, hU.out.fl, hU.out.S, hU.out.G, hU.out.subs⟩)
    have AU0 := hide (show U0.Away (fun k => k = b ∨ c ≤ k) by rw [hU0]; exact ⟨AU2.out.ly, AU2.out.fl, AU2.out.S, AU2.out.G, AU2.out.subs⟩)
    have RI0 : Hid (RI L first subs m4 m4 0 U0) := hide (by rw [hU0]; exact ⟨by show U.ly.L = L; rw [HUI.out.ly]; exact HLl.out, by show U.fl.l.length = _; rw [HUI.out.fl]; exact HFL2.out, by show ∀ f ∈ U.fl.l, Alw 0 f; rw [HUI.out.fl]; exact HAL.out, HUI.out.S, HUI.out.G, by show 0 ≤ U.times; rw [HUI.out.times]; exact Int.le_refl 0, by show U.times ≤ 0; rw [HUI.out.times]; exact Int.le_refl 0, by show U.subs.l = subs; rw [HUI.out.subs], by show wtB U.w.start = true; rw [HUI.out.w]; exact wtStart_right HIR.out.2.2, rfl, by show U.w.each = m4; rw [HUI.out.w], by show U.w.first = m4; rw [HUI.out.w]⟩)
    have RO0 : Hid (RO L first first 0 V) := hide (RO.of HVI.out HLl.out HFL2.out HAL.out HFL1.out (sndNew_right HNS.out))
    rw [← hU0] at I
    clear hU0 AU2
    clear hU
    clear LB 
    go_upto_region 18 with fail
    have q5 : Below w19'.heap.size w19' (w19'.alloc (.cells #[] 2)) := (Below.refl _ _).alloc (Nat.le_refl _) _
    have OC := hide (show Own (w19'.alloc (.cells #[] 2)) w19'.heap.size 2 1 (some ⟨w19'.heap.size, 0, none⟩) 0 [] from Own.lit w19' w19'.heap.size 2 1 [] (Nat.le_refl _) (by simp) (by simp))
    have zO9 := heap_lt O.out
    have zI9 := heap_lt I.out
    have zQ9 := Q.out.size
    replace O := hide (heap_below O.out q5)
    replace I := hide (heap_below I.out q5)
    replace hV := hide ((hV.out.next q5))
    replace hU0k := hide ((hU0k.out.next q5))
    replace Q := hide (below_next Q.out Q.out.size q5)
    clear q5
    have RDF := hide (show Rd (w19'.alloc (.cells #[] 2)) (w19'.alloc (.cells #[] 2)).heap.size FA 1 (inRow first) from Rd.next RF.out Q.out Q.out.size)
    have zz : w19'.heap.size ≤ (w19'.alloc (.cells #[] 2)).heap.size := by simp
    have hl16 := HFL1.out
    rw [hLn.out] at hl16
    have hl17 : first.length ≤ 16 := by omega
    replace hl16 := hide hl16
    skip
    go_wp2_with (at_builtin; refine wpList_append_rows _ rfl _ _ 33 rfl slInt64 w19'.heap.size _ _ _ [] (by rfl) (by exact OC.out) _ _ _ (inRow first) (by rfl) (by exact RDF.out) (inRow_rows _) (by intro r hr; obtain ⟨v, _, rfl⟩ := List.mem_map.1 hr; simp [Value.oneCell']) (by simp [inRow]; omega) (by simp [inRow, maxLen]; omega) (by exact zz) (by rfl) (by simp [inRow]) ?_)
    intro CA cc w9 o9 g9
    have kp := kp_append g9
    replace O := hide (kp.heap O.out (fun h => by have : b = w19'.heap.size := h; omega))
    replace I := hide (kp.heap I.out (fun h => by have : c = w19'.heap.size := h; omega))
    replace hV := hide (hV.out.kp kp (AV2.out.mono (fun k h => show k = b ∨ c ≤ k by have : k = w19'.heap.size := h; omega)))
    replace hU0k := hide (hU0k.out.kp kp (AU0.out.mono (fun k h => show k = b ∨ c ≤ k by have : k = w19'.heap.size := h; omega)))
    replace Q := hide (below_append Q.out g9 OC.out (by omega) (by simp; omega))
    replace OC := hide (show Own w9 w19'.heap.size 2 1 CA cc (inRow first) from o9)
    have zN9 : w19'.heap.size ≤ w9.heap.size := Nat.le_trans zz g9.size
    clear kp o9 g9 zz RDF
    generalize w19'.heap.size = N at *
    go_upto_block 2 with fail
    have q9 : Below w9.heap.size w9 (w9.alloc (.cells #[.slice CA first.length cc] 33)) := (Below.refl _ _).alloc (Nat.le_refl _) _
    have zI8 := heap_lt I.out
    have OG := hide (show Own (w9.alloc (.cells #[.slice CA first.length cc] 33)) N 33 1 (some ⟨w9.heap.size, 0, none⟩) 1 (vRow [.slice CA first.length cc]) from Own.lit w9 N 33 1 [[.slice CA first.length cc]] zN9 (by simp [maxLen]) (by simp))
    replace O := hide (heap_below O.out q9)
    replace I := hide (heap_below I.out q9)
    replace hV := hide (hV.out.next q9)
    replace hU0k := hide (hU0k.out.next q9)
    replace OC := hide (OC.out.grown q9)
    replace Q := hide (below_next Q.out Q.out.size q9)
    clear q9
    have aV := hide (show V.Away (Zb b c w9.heap.size) from AV2.out.mono (fun k h => show k = b ∨ c ≤ k by unfold Zb at h; omega))
    have aU := hide (show U0.Away (Zb b c w9.heap.size) from AU0.out.mono (fun k h => show k = b ∨ c ≤ k by unfold Zb at h; omega))
    have hfs : Src wc CA first (.slice FA first.length fc) first := ⟨FA, fc, rfl, .inl RF.out⟩
    refine comWhole_acts wc (w9.alloc (.cells #[.slice CA first.length cc] 33)) b c N first CA cc w9.heap.size 1 (.slice CA first.length cc) V U0 L subs m4 w.heap.size n sc acap SA AA acts lv _ _ HWL.out HLl.out (by rw [HLl.out]; exact HWL.out) HF0.out HF1.out RO0.out RI0.out ⟨CA, cc, rfl, .inr ⟨rfl, rfl⟩⟩ hfs hfs ⟨SA, sc, rfl, .inl RS.out⟩ hea.1 hn16 zO9 (by rfl) ⟨O, I, hV, aV, hU0k, aU, OC, OG, Q⟩ LB1 OK1 (hide (Rd.next HAR.out Qw.out Qw.out.size)) (hide (fun a ha => ⟨Rd.next (HAA.out a ha).1 Qw.out Qw.out.size, (HAA.out a ha).2⟩)) (hide hLn.out.symm) (by omega) zbc zI9 (by intro _ _ d9 _ _ h; cases d9 <;> exact h) ?_
    intro u14 u22 u23 u24 u25 u26 u27 u28 u29 u30 u31 u32 u33 u34 u35 u36 u37 u38 u39 u40 u41 u42 u43 u44 u45 u46 u47 u148 u149 u150 u151 u152 u153 u154 u155 u156 u157 u158 u159 u160 u161 u162 u163 u164 u165 u166 u167 u168 u169 u170 u171 u172 u173 u174 u175 u176 u177 u178 u179 u180 u181 u182 u183 u184 u185 u186 u187 u188 u189 u190 u191 u192 u193 u194 u195 u196 u197 u198 u199 u200 u201 u202 u203 u204 u205 u206 u207 u208 u209 u210 u211 u212 u213 u214 u215 u216 u217 u218 u219 u220 u221 u222 u223 u224 u225 u226 u227 u228 u229 u230 u231 u232 u233 u234 u235 u236 u237 u238 u239 u240 u241 u242 u243 u244 u245 u246 u247 u248 u249 u250 u251 u252 u253 u254 u255 u256 u257 u258 u259 u260 u261 u262 u263 u264 u265 u266 u267 u268 u269 u270 u271 u272 u273 u274 u275 u276 u277 u278 u279 u280 u281 u282 u283 u284 wz qz
    have QF := hide (below_next Qw.out Qw.out.size qz)
    clear O I hV aV hU0k aU OC OG Q qz hfs
    go_wp2_with fail
    go_ret
    exact ⟨rfl, QF.out⟩
end Go.Proofs.YtnhegnneohpkaaaGreat
