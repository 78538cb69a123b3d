import Derived.Test.YtkmddjbialpppaaGreatDoorNbB
namespace Go.Proofs.YtkmddjbialpppaaGreatDoor
open Go.ChangeShapes Go.WideShapes Go.ChangeAt Go.RowKit
open CM PD SG ND
set_option maxRecDepth 100000 in
set_option maxHeartbeats 64000000 in
theorem nb_good (c d : Cf) (id : Int) (t u : Tv) (mem : Int) (w : World) (hcl : c.l.length ≤ c.c) (hd : d = { c with l := c.l.take 6 }) (hts : t.data.size ≤ maxLen) (hu : u = { t with data := t.data.extract 0 (min t.data.size 12) }) (hui : 0 ≤ u.id ∧ 0 ≤ u.mask) (ho : d.Ok w) (hmem : 0 ≤ mem ∧ mem < 65536) (hb : cF d = true) (hi0 : 0 ≤ id) (hi1 : id < d.nodes) (ht : tvB u = true) :
    Calls Tryz.prog 3 #[.agg c.cs.toArray, .int .i64 id, .agg (bD t).toArray, .int .u16 mem] w fun e w' => e = .returned (.bool true) ∧ Below w.heap.size w w' := by
  obtain ⟨w0, hw0⟩ : ∃ w0, w0 = (w.alloc (.cells c.cs.toArray 25)).alloc (.cells (bD t).toArray 27) := ⟨_, rfl⟩
  have C := aA (aB (World.alloc_heap_new w (.cells c.cs.toArray 25)) ((Below.refl _ (w.alloc (.cells c.cs.toArray 25))).alloc (Nat.le_refl _) (.cells (bD t).toArray 27)))
  have T := aA (World.alloc_heap_new (w.alloc (.cells c.cs.toArray 25)) (.cells (bD t).toArray 27))
  have Q : Hid (Below w.heap.size w w0) := by rw [hw0]; exact aA (((Below.refl w.heap.size w).alloc (Nat.le_refl _) (.cells c.cs.toArray 25)).alloc (by simp; try omega) (.cells (bD t).toArray 27))
  rw [← hw0] at C T
  simp only [World.size_alloc] at T
  have FE := aA (fun W => few28_any c (c.l.take 6) W rfl hcl)
  rw [← hd] at FE
  obtain ⟨m, em, hm⟩ := jL (P := Tryz.prog) (t.data.size : Int) 12
  obtain ⟨k, hk⟩ : ∃ k : Nat, k = min t.data.size 12 := ⟨_, rfl⟩
  have hmk : m = k := by omega
  subst hmk
  have hkl : k ≤ t.data.size := by omega
  rw [← hk] at hu
  unfold maxLen at hts
  have HU := aA hu
  have DOK := aA (fun W (q : Below w.heap.size w W) => ho.next q)
  have AL := aA alive28
  have CR := aA (fun W (q : Below w.heap.size w W) => cD d W (ho.next q))
  have TR := aA (fun W => iY u W hui.1 hui.2)
  clear hk em hd hcl hu hui
  have hfs := eZ hb
  unfold gN cK at hfs
  simp only [Bool.and_eq_true, decide_eq_true_eq] at hfs
  have HFS := aA (show (2 ≤ d.nodes ∧ d.nodes ≤ 4) ∧ 0 ≤ d.base ∧ d.base ≤ 2048 ∧ 0 ≤ id ∧ id ≤ 3 ∧ id < d.nodes from by have := ho.base; omega)
  clear hfs
  have HBD := aA (show d.l.length ≤ 1000 from ho.n)
  obtain ⟨S, hS⟩ : ∃ S, S = cY d.l (sendP id) d.l.length := ⟨_, rfl⟩
  obtain ⟨H, hH⟩ : ∃ H, H = cY d.l (iT id) d.l.length := ⟨_, rfl⟩
  have NE := aA (fun W (q : Below w.heap.size w W) => show Calls Tryz.prog 6 #[.agg d.cs.toArray, .int .i64 id, .agg (bD u).toArray, .int .u16 mem] W fun e w' => ∃ os oA oc is iA ic, e = .returned (.tuple #[.agg (eD d id os oA oc is iA ic (u.go 3) mem).cs.toArray, .int .i64 0]) ∧ (eD d id os oA oc is iA ic (u.go 3) mem).Ok w' ∧ (eD d id os oA oc is iA ic (u.go 3) mem).Rt ∧ (∀ i (hi : i < os.length), ∃ p, d.l[S.getD i 0]? = some p ∧ OutIs p os[i]) ∧ Below W.heap.size W w' from
    (ndNew_in d id u mem W (ho.next q) hb hi0 hi1 hmem).mono fun e w' h => by
      obtain ⟨⟨E, h | h⟩, k⟩ := h
      · rw [ht] at h
        cases h.1
      · obtain ⟨_, rfl, os, oA, oc, is, iA, ic, e1, h1, h2, h3, _⟩ := h
        rw [← hS] at h3
        exact ⟨os, oA, oc, is, iA, ic, e1, h1, h2, h3, k⟩)
  have SE := aA (fun W (q : Below w.heap.size w W) => show Calls Tryz.prog 11 #[.agg d.cs.toArray, .int .i64 id] W fun e w' => ∃ A cc, e = .returned (.slice A S.length cc) ∧ Rd w' w'.heap.size A 1 (aX S) ∧ Below W.heap.size W w' from by
    have k := refSent_any d id W (ho.next q)
    rw [show cY d.l (kL id) d.l.length = S from hS.symm] at k
    exact k.mono fun _ _ ⟨⟨A, cc, a, b⟩, e⟩ => ⟨A, cc, a, b, e⟩)
  have HE := aA (fun W (q : Below w.heap.size w W) => show Calls Tryz.prog 12 #[.agg d.cs.toArray, .int .i64 id] W fun e w' => ∃ A cc, e = .returned (.slice A H.length cc) ∧ Below W.heap.size W w' from by
    have k := refHeard_any d id W (ho.next q) HFS.out.1 (fun p hp => conf_dst hb hp)
    rw [show cY d.l (fT d id) d.l.length = H by rw [hH, ← hear_congr hi0 hi1]] at k
    exact k.mono fun _ _ ⟨⟨A, cc, a, b⟩, e⟩ => ⟨A, cc, a, e⟩)
  have HSL := aA (fun (k : Nat) (hk : k < S.length) => show S[k] < d.l.length ∧ S.getD k 0 = S[k] from ⟨by subst hS; exact wh_at hk, by rw [List.getD_eq_getElem?_getD, List.getElem?_eq_getElem hk, Option.getD_some]⟩)
  have HSN := aA (show S.length ≤ 1000 from by rw [hS]; exact Nat.le_trans (eW _ _ _) ho.n)
  have GO := aA (fun W => refGo_any u 3 W)
  rw [hb] at CR
  rw [ht] at TR
  have HSS := aA hS
  have HHH := aA hH
  clear hb ht ho hS hH hmem hi0 hi1
  go_enter Tryz.func3, Tryz.ntmps3
  go_upto_region 1 with fail
  change Code.wp _ _ _ _ ((w.alloc (.cells c.cs.toArray 25)).alloc (.cells (bD t).toArray 27))
  rw [← hw0]
  clear hw0
  go_wp2_with (refine wpList_load_row rfl 25 (.tmp 4) (by rfl) w.heap.size (by rfl) 25 c.cs.toArray (0, 0) _ (by exact C.out) Tryz.underlying25 (by rfl) (by kernel_rfl) ?_)
  (with_reducible refine (FE.out w0).mono ?_)
  rintro ew1' w1' ⟨rfl, qw1'⟩
  replace C := aA (aB C.out qw1')
  replace T := aA (aB T.out qw1')
  replace Q := aA (aC Q.out Q.out.size qw1')
  clear qw1'
  clear FE
  have c5 := (dI T.out).2.2.2.2.2.1
  have f5 : w1'.frozen? ⟨w.heap.size + 1, 5, none⟩ = false := by have := T.out; simp [World.frozen?, this]
  clear c5 f5
  have Tw2' := aA (show World.there _ w.heap.size 0 8 from aK (cs := c.cs) C.out)
  go_wp2_with (refine aF (by rfl) 25 (.tmp 4) (.tmp 19) (by rfl) w.heap.size 0 d.cs (by rfl) (by rfl) (by exact Tw2'.out) (by kernel_rfl) (by simp [Value.oneCell', Cf.cs]) ?_)
  intro w2' ew2'
  replace T := aA (show w2'.heap[w.heap.size + 1]? = some (.cells (bD t).toArray 27 (0, 0)) by rw [ew2'.out]; exact aG (by omega) _ _ _ T.out)
  replace Q := aA (show Below w.heap.size w w2' by rw [ew2'.out]; exact Q.out.trans (aE _ _ _ (by have := Q.out.size; omega)))
  replace C := aA (show w2'.heap[w.heap.size]? = some (.cells d.cs.toArray 25 (0, 0)) by rw [ew2'.out]; exact aJ d.cs (xs := c.cs) C.out rfl)
  clear ew2' Tw2'
  have c5 := (dI T.out).2.2.2.2.2.1
  have f5 : w2'.frozen? ⟨w.heap.size + 1, 5, none⟩ = false := by have := T.out; simp [World.frozen?, this]
  go_upto_region 3 with fail
  clear c5 f5 hm hkl hts
  obtain ⟨w3', ew3'⟩ : ∃ wq, wq = (w2').setCell ⟨w.heap.size + 1, 5, none⟩ (.string (t.data.extract 0 k)) := ⟨_, rfl⟩
  rw [← ew3']
  replace C := aA (show w3'.heap[w.heap.size]? = some (.cells d.cs.toArray 25 (0, 0)) by rw [ew3']; exact aG (by omega) [.string (t.data.extract 0 k)] 5 _ (C.out))
  replace Q := aA (show Below w.heap.size w w3' by rw [ew3']; exact Below.trans (Q.out) (aE [.string (t.data.extract 0 k)] 5 _ (by have := Q.out.size; omega)))
  replace T := aA (show w3'.heap[w.heap.size + 1]? = some (.cells (bD ({ t with data := t.data.extract 0 k } : Tv)).toArray 27 (0, 0)) by rw [ew3']; exact aU [.string (t.data.extract 0 k)] (bD t) 5 _ T.out)
  clear ew3'
  rw [← HU.out] at T
  clear HU
  go_wp2_with (first | (refine wpList_load_row rfl 25 (.tmp 4) (by rfl) w.heap.size (by rfl) 25 d.cs.toArray (0, 0) _ (by exact C.out) Tryz.underlying25 (by rfl) (by kernel_rfl) ?_) | (refine wpList_load_row rfl 27 (.tmp 6) (by rfl) (w.heap.size + 1) (by rfl) 27 (bD u).toArray (0, 0) _ (by exact T.out) Tryz.underlying27 (by rfl) (by kernel_rfl) ?_))
  (with_reducible refine (NE.out w3' Q.out).mono ?_)
  rintro ew4' w4' ⟨os, oA, oc, is, iA, ic, rfl, hok, hrt, hout, qw4'⟩
  replace C := aA (aB C.out qw4')
  replace T := aA (aB T.out qw4')
  replace Q := aA (aC Q.out Q.out.size qw4')
  clear qw4'
  clear NE
  obtain ⟨n, hn⟩ : ∃ n, n = eD d id os oA oc is iA ic (u.go 3) mem := ⟨_, rfl⟩
  rw [← hn] at hok hrt ⊢
  have HLO := aA (show n.os.length = S.length by have k := (Nd.shape_iff.1 hrt.shape).2.1; rw [HSS.out, k, hn]; rfl)
  have HLI := aA (show n.is.length = H.length by have k := (Nd.shape_iff.1 hrt.shape).2.2; rw [HHH.out, k, hn]; rfl)
  have HOU := aA (show ∀ i (hi : i < n.os.length), ∃ p, d.l[S.getD i 0]? = some p ∧ OutIs p n.os[i] by subst hn; exact hout)
  have HTV := aA (show n.tv = u.go 3 by rw [hn]; rfl)
  have HPN := aA (show n.pn = (⟨mem, 0, fun _ => 0, d.heard⟩ : Pn) by rw [hn]; rfl)
  have HNM := aA (show n.nm = (⟨0, false, 0, 0, 0, 0, d.rep, d.cycle, d.heard, d.wait⟩ : Nm) by rw [hn]; rfl)
  have HSM := aA (show n.sm.st = 0 by rw [hn]; rfl)
  have HFI := aA (show n.fi.has = -1 ∧ n.fi.on = false by rw [hn]; exact ⟨rfl, rfl⟩)
  have HUP := aA (show n.up = false by rw [hn]; rfl)
  have HCF := aA (show n.cf.base = d.base ∧ n.id = id by rw [hn]; exact ⟨rfl, rfl⟩)
  have NOK := aA hok
  have NRT := aA hrt
  clear hn hok hrt hout HSS HHH
  clear os oA oc is iA ic
  replace GO := aA (show ∀ W, Calls Tryz.prog 13 #[.agg (bD u).toArray, .int .i64 3] W fun e w' => e = .returned (.agg (bD n.tv).toArray) ∧ Below W.heap.size W w' by rw [HTV.out]; exact GO.out)
  have N := World.alloc_heap_new w4' (.cells zNd.cs.toArray 53)
  have zCnb : w.heap.size < w4'.heap.size := aH C.out
  have zTnb : w.heap.size + 1 < w4'.heap.size := aH T.out
  have zQnb : w.heap.size ≤ w4'.heap.size := Q.out.size
  obtain ⟨w6', hw6'⟩ : ∃ wx, wx = w4'.alloc (.cells zNd.cs.toArray 53) := ⟨_, rfl⟩
  have q5' := aA (show Below w4'.heap.size w4' w6' by rw [hw6']; exact (Below.refl _ _).alloc (Nat.le_refl _) _)
  rw [← hw6'] at N
  replace N := aA N
  have Tw7' := aA (show (w4'.alloc (.cells zNd.cs.toArray 53)).there w4'.heap.size 0 91 by rw [← hw6']; exact aK (cs := zNd.cs) N.out)
  go_wp2_with (refine aF (by rfl) 53 (.tmp 9) (.tmp 34) (by rfl) w4'.heap.size 0 n.cs (by rfl) (by rfl) (by exact Tw7'.out) (by kernel_rfl) (by exact dB _) ?_)
  intro w7' ew7'
  replace ew7' : Hid (w7' = w6'.setCells w4'.heap.size 0 n.cs) := by rw [hw6']; exact ew7'
  replace N := aA (show w7'.heap[w4'.heap.size]? = some (.cells n.cs.toArray 53 (0, 0)) by rw [ew7'.out]; exact aJ n.cs (xs := zNd.cs) N.out rfl)
  replace q5' := aA (show Below w4'.heap.size w4' w7' by rw [ew7'.out]; exact q5'.out.trans (aE _ _ _ (by omega)))
  clear ew7' Tw7' hw6'
  replace C := aA (aB C.out q5'.out)
  replace T := aA (aB T.out q5'.out)
  replace NOK := aA (NOK.out.next q5'.out)
  replace Q := aA (aC Q.out Q.out.size q5'.out)
  clear q5'
  generalize w4'.heap.size = nb at *
  obtain ⟨_, hfb0, hfb1, hi0, hi3, hi1⟩ := HFS.out
  have k0 : decide (id < 0) = false := by simp only [decide_eq_false_iff_not]; omega
  have k1 : decide (d.nodes ≤ id) = false := by simp only [decide_eq_false_iff_not]; omega
  clear hfb0 hfb1 hi3 hi0 hi1
  go_wp2_with (refine wpList_load_row rfl 25 (.tmp 4) (by rfl) w.heap.size (by rfl) 25 d.cs.toArray (0, 0) _ (by exact C.out) Tryz.underlying25 (by rfl) (by kernel_rfl) ?_)
  (with_reducible refine (CR.out w7' Q.out).mono ?_)
  rintro ew8' w8' ⟨rfl, qw8'⟩
  replace C := aA (aB C.out qw8')
  replace T := aA (aB T.out qw8')
  replace N := aA (aB N.out qw8')
  replace NOK := aA (NOK.out.next qw8')
  replace Q := aA (aC Q.out Q.out.size qw8')
  clear qw8'
  clear CR
  obtain ⟨d0, _⟩ := bL C.out
  go_wp2_with (refine bU (by kernel_rfl) 27 (.tmp 6) (by rfl) (w.heap.size + 1) (by rfl) 27 (bD u).toArray (0, 0) _ (by exact T.out) Tryz.underlying27 (by rfl) (by kernel_rfl) ?_)
  (with_reducible refine (TR.out w8').mono ?_)
  rintro ew9' w9' ⟨rfl, qw9'⟩
  replace C := aA (aB C.out qw9')
  replace T := aA (aB T.out qw9')
  replace N := aA (aB N.out qw9')
  replace NOK := aA (NOK.out.next qw9')
  replace Q := aA (aC Q.out Q.out.size qw9')
  clear qw9'
  clear TR
  go_upto_region 6 with fail
  clear d0 k0 k1
  refine bB [0, 1, 3, 4] [(0, fun W => W.heap[w.heap.size]? = some (.cells d.cs.toArray 25 (0, 0))), (3, fun W => W.heap[w.heap.size]? = some (.cells d.cs.toArray 25 (0, 0)))] (by kernel_rfl) ?_
  replace C := aA (show w9'.drew.heap[w.heap.size]? = some (.cells d.cs.toArray 25 (0, 0)) from C.out)
  replace T := aA (show w9'.drew.heap[w.heap.size + 1]? = some (.cells (bD u).toArray 27 (0, 0)) from T.out)
  replace N := aA (show w9'.drew.heap[nb]? = some (.cells n.cs.toArray 53 (0, 0)) from N.out)
  replace NOK := aA (show n.Ok (w9'.drew) from NOK.out.next ((Below.refl w9'.heap.size w9').drew))
  replace Q := aA (show Below w.heap.size w w9'.drew from Q.out.drew)
  generalize w9'.drew = w10' at *
  refine aQ (i := 0) (v := .agg d.cs.toArray) rfl rfl (by kernel_rfl) (by kernel_rfl) (by kernel_rfl) (by kernel_rfl) (by kernel_rfl) (fun _ _ _ h => h) rfl (fun W h => bZ W (w.heap.size) 25 (d.cs) _ h Tryz.underlying25 rfl (by kernel_rfl) _ _ (.tmp 4) (by rfl) (by rfl)) (C.out) ?_
  go_simp
  refine aD (i := 1) (v := .int .i64 id) rfl rfl (by kernel_rfl) (by kernel_rfl) (by kernel_rfl) (by kernel_rfl) (by kernel_rfl) (fun _ _ _ h => h) rfl (fun W => by go_simp) ?_
  go_simp
  refine aQ (i := 3) (v := .agg d.cs.toArray) rfl rfl (by kernel_rfl) (by kernel_rfl) (by kernel_rfl) (by kernel_rfl) (by kernel_rfl) (fun _ _ _ h => h) rfl (fun W h => bZ W (w.heap.size) 25 (d.cs) _ h Tryz.underlying25 rfl (by kernel_rfl) _ _ (.tmp 4) (by rfl) (by rfl)) (C.out) ?_
  go_simp
  refine aD (i := 4) (v := .int .i64 id) rfl rfl (by kernel_rfl) (by kernel_rfl) (by kernel_rfl) (by kernel_rfl) (by kernel_rfl) (fun _ _ _ h => h) rfl (fun W => by go_simp) ?_
  go_simp
  refine aI (i := 2) (by kernel_rfl) ?_
  refine aM rfl rfl ?_
  go_simp
  (with_reducible refine (SE.out w10' Q.out).mono ?_)
  rintro ew11' w11' ⟨SA, sc, rfl, RS, qw11'⟩
  replace C := aA (aB C.out qw11')
  replace T := aA (aB T.out qw11')
  replace N := aA (aB N.out qw11')
  replace NOK := aA (NOK.out.next qw11')
  replace Q := aA (aC Q.out Q.out.size qw11')
  clear qw11'
  clear SE
  replace RS := aA (show Rd w11' w11'.heap.size SA 1 (aX S) from RS)
  go_simp
  refine ⟨aO (by kernel_rfl) (.cons C.out (.cons C.out .nil)), ?_⟩
  go_simp
  refine aI (i := 5) (by kernel_rfl) ?_
  refine aM rfl rfl ?_
  go_simp
  (with_reducible refine (HE.out w11' Q.out).mono ?_)
  rintro ew12' w12' ⟨HA, hc, rfl, qw12'⟩
  replace C := aA (aB C.out qw12')
  replace T := aA (aB T.out qw12')
  replace N := aA (aB N.out qw12')
  replace NOK := aA (NOK.out.next qw12')
  replace RS := aA (Rd.next RS.out qw12' qw12'.size)
  replace Q := aA (aC Q.out Q.out.size qw12')
  clear qw12'
  clear HE
  go_simp
  refine ⟨aO (by kernel_rfl) (.cons C.out (.cons C.out .nil)), ?_⟩
  go_simp
  refine aI (i := 6) (by kernel_rfl) ?_
  refine aM rfl rfl ?_
  go_simp
  refine ⟨aN (by kernel_rfl) (by kernel_rfl), ?_⟩
  go_simp
  refine aI (i := 7) (by kernel_rfl) ?_
  refine aM rfl rfl ?_
  go_simp
  refine ⟨aN (by kernel_rfl) (by kernel_rfl), ?_⟩
  go_simp
  refine aS (by kernel_rfl) ?_ _
  go_upto_region 7 with fail
  have e1 : ((n.os.length : Int) != (S.length : Int)) = false := by rw [HLO.out]; simp
  have e2 : ((n.is.length : Int) != (H.length : Int)) = false := by rw [HLI.out]; simp
  have RR := aA (fun W (h : n.Ok W) => j0 n W h NRT.out)
  refine bB [0, 1, 2, 3, 5, 6, 7, 8, 9, 10, 11, 12, 13, 14, 15, 16, 17, 18, 19, 20, 21, 22, 23, 24, 25, 26, 28, 29, 30, 31, 32, 33, 34, 35, 36, 37, 38, 39, 41, 42] [(3, fun W => W.heap[nb]? = some (.cells n.cs.toArray 53 (0, 0))), (9, fun W => W.cell? ⟨nb, 9, none⟩ = some (.slice n.oA n.os.length n.oc)), (17, fun W => W.cell? ⟨nb, 10, none⟩ = some (.slice n.iA n.is.length n.ic)), (25, fun W => W.rangeAt nb 41 (bD n.tv)), (26, fun W => W.heap[w.heap.size + 1]? = some (.cells (bD u).toArray 27 (0, 0))), (32, fun W => W.rangeAt nb 54 (bO (⟨mem, 0, fun _ => 0, d.heard⟩ : Pn))), (35, fun W => W.cell? ⟨w.heap.size, 5, none⟩ = some (.int .i64 d.heard))] (by kernel_rfl) ?_
  replace C := aA (show w12'.drew.heap[w.heap.size]? = some (.cells d.cs.toArray 25 (0, 0)) from C.out)
  replace T := aA (show w12'.drew.heap[w.heap.size + 1]? = some (.cells (bD u).toArray 27 (0, 0)) from T.out)
  replace N := aA (show w12'.drew.heap[nb]? = some (.cells n.cs.toArray 53 (0, 0)) from N.out)
  replace RS := aA (show Rd (w12'.drew) (w12'.drew).heap.size SA 1 (aX S) from RS.out)
  replace NOK := aA (show n.Ok (w12'.drew) from NOK.out.next ((Below.refl w12'.heap.size w12').drew))
  replace Q := aA (show Below w.heap.size w w12'.drew from Q.out.drew)
  generalize w12'.drew = w13' at *
  refine aD (i := 0) (v := .int .i64 0) rfl rfl (by kernel_rfl) (by kernel_rfl) (by kernel_rfl) (by kernel_rfl) (by kernel_rfl) (fun _ _ _ h => h) rfl (fun W => by go_simp) ?_
  go_simp
  refine aD (i := 1) (v := .bool false) rfl rfl (by kernel_rfl) (by kernel_rfl) (by kernel_rfl) (by kernel_rfl) (by kernel_rfl) (fun _ _ _ h => h) rfl (fun W => by go_simp) ?_
  go_simp
  refine aD (i := 2) (v := .bool false) rfl rfl (by kernel_rfl) (by kernel_rfl) (by kernel_rfl) (by kernel_rfl) (by kernel_rfl) (fun _ _ _ h => h) rfl (fun W => by go_simp) ?_
  go_simp
  refine bC (i := 3) (v := .agg n.cs.toArray) rfl rfl (by kernel_rfl) (by kernel_rfl) (by kernel_rfl) (by kernel_rfl) (by kernel_rfl) (fun _ _ _ h => h) (by kernel_rfl) (fun W h => bZ W (nb) 53 (n.cs) _ h Tryz.underlying53 rfl (by kernel_rfl) _ _ (.tmp 9) (by rfl) (by rfl)) (N.out) ?_
  go_simp
  refine aI (i := 4) (by kernel_rfl) ?_
  refine dL rfl (by kernel_rfl) ?_
  go_simp
  (with_reducible refine (RR.out w13' NOK.out).mono ?_)
  rintro ew14' w14' ⟨rfl, qw14'⟩
  replace C := aA (aB C.out qw14')
  replace T := aA (aB T.out qw14')
  replace N := aA (aB N.out qw14')
  replace NOK := aA (NOK.out.next qw14')
  replace RS := aA (Rd.next RS.out qw14' qw14'.size)
  replace Q := aA (aC Q.out Q.out.size qw14')
  clear qw14'
  clear RR
  go_simp
  refine ⟨aO (by kernel_rfl) (.cons (N.out) (.cons (aZ N.out 9 (v := .slice n.oA n.os.length n.oc) rfl) (.cons (aZ N.out 10 (v := .slice n.iA n.is.length n.ic) rfl) (.cons (aL (vs := bD n.tv) N.out 41 rfl) (.cons (T.out) (.cons ((by have k := aL (vs := bO n.pn) N.out 54 rfl; rwa [HPN.out] at k)) (.cons ((bL C.out).2.2.2.2.2.1) .nil))))))), ?_⟩
  go_simp
  refine aR (i := 5) (v := .bool false) rfl rfl (by kernel_rfl) (by kernel_rfl) (by kernel_rfl) (by kernel_rfl) (by kernel_rfl) (fun _ _ _ h => h) (by kernel_rfl) (fun W => by go_simp) ?_
  go_simp
  refine aD (i := 6) (v := .bool false) rfl rfl (by kernel_rfl) (by kernel_rfl) (by kernel_rfl) (by kernel_rfl) (by kernel_rfl) (fun _ _ _ h => h) rfl (fun W => by go_simp) ?_
  go_simp
  refine aD (i := 7) (v := .bool false) rfl rfl (by kernel_rfl) (by kernel_rfl) (by kernel_rfl) (by kernel_rfl) (by kernel_rfl) (fun _ _ _ h => h) rfl (fun W => by go_simp) ?_
  go_simp
  refine aR (i := 8) (v := .pointer (some ⟨nb, 9, none⟩)) rfl rfl (by kernel_rfl) (by kernel_rfl) (by kernel_rfl) (by kernel_rfl) (by kernel_rfl) (fun _ _ _ h => h) (by kernel_rfl) (fun W => by go_simp) ?_
  go_simp
  refine bC (i := 9) (v := .slice n.oA n.os.length n.oc) rfl rfl (by kernel_rfl) (by kernel_rfl) (by kernel_rfl) (by kernel_rfl) (by kernel_rfl) (fun _ _ _ h => h) (by kernel_rfl) (fun W h => by go_simp) (aZ N.out 9 (v := .slice n.oA n.os.length n.oc) rfl) ?_
  go_simp
  refine aR (i := 10) (v := .int .i64 n.os.length) rfl rfl (by kernel_rfl) (by kernel_rfl) (by kernel_rfl) (by kernel_rfl) (by kernel_rfl) (fun _ _ _ h => h) (by kernel_rfl) (fun W => by go_simp) ?_
  go_simp
  refine aR (i := 11) (v := .slice SA S.length sc) rfl rfl (by kernel_rfl) (by kernel_rfl) (by kernel_rfl) (by kernel_rfl) (by kernel_rfl) (fun _ _ _ h => h) (by kernel_rfl) (fun W => by go_simp) ?_
  go_simp
  refine aR (i := 12) (v := .int .i64 S.length) rfl rfl (by kernel_rfl) (by kernel_rfl) (by kernel_rfl) (by kernel_rfl) (by kernel_rfl) (fun _ _ _ h => h) (by kernel_rfl) (fun W => by go_simp) ?_
  go_simp
  refine aR (i := 13) (v := .bool false) rfl rfl (by kernel_rfl) (by kernel_rfl) (by kernel_rfl) (by kernel_rfl) (by kernel_rfl) (fun _ _ _ h => h) (by kernel_rfl) (fun W => by go_simp) ?_
  go_simp
  refine aD (i := 14) (v := .bool false) rfl rfl (by kernel_rfl) (by kernel_rfl) (by kernel_rfl) (by kernel_rfl) (by kernel_rfl) (fun _ _ _ h => h) rfl (fun W => by go_simp) ?_
  go_simp
  refine aD (i := 15) (v := .bool false) rfl rfl (by kernel_rfl) (by kernel_rfl) (by kernel_rfl) (by kernel_rfl) (by kernel_rfl) (fun _ _ _ h => h) rfl (fun W => by go_simp) ?_
  go_simp
  refine aR (i := 16) (v := .pointer (some ⟨nb, 10, none⟩)) rfl rfl (by kernel_rfl) (by kernel_rfl) (by kernel_rfl) (by kernel_rfl) (by kernel_rfl) (fun _ _ _ h => h) (by kernel_rfl) (fun W => by go_simp) ?_
  go_simp
  refine bC (i := 17) (v := .slice n.iA n.is.length n.ic) rfl rfl (by kernel_rfl) (by kernel_rfl) (by kernel_rfl) (by kernel_rfl) (by kernel_rfl) (fun _ _ _ h => h) (by kernel_rfl) (fun W h => by go_simp) (aZ N.out 10 (v := .slice n.iA n.is.length n.ic) rfl) ?_
  go_simp
  refine aR (i := 18) (v := .int .i64 n.is.length) rfl rfl (by kernel_rfl) (by kernel_rfl) (by kernel_rfl) (by kernel_rfl) (by kernel_rfl) (fun _ _ _ h => h) (by kernel_rfl) (fun W => by go_simp) ?_
  go_simp
  refine aR (i := 19) (v := .slice HA H.length hc) rfl rfl (by kernel_rfl) (by kernel_rfl) (by kernel_rfl) (by kernel_rfl) (by kernel_rfl) (fun _ _ _ h => h) (by kernel_rfl) (fun W => by go_simp) ?_
  go_simp
  refine aR (i := 20) (v := .int .i64 H.length) rfl rfl (by kernel_rfl) (by kernel_rfl) (by kernel_rfl) (by kernel_rfl) (by kernel_rfl) (fun _ _ _ h => h) (by kernel_rfl) (fun W => by go_simp) ?_
  go_simp
  refine aR (i := 21) (v := .bool false) rfl rfl (by kernel_rfl) (by kernel_rfl) (by kernel_rfl) (by kernel_rfl) (by kernel_rfl) (fun _ _ _ h => h) (by kernel_rfl) (fun W => by go_simp) ?_
  go_simp
  refine aD (i := 22) (v := .bool false) rfl rfl (by kernel_rfl) (by kernel_rfl) (by kernel_rfl) (by kernel_rfl) (by kernel_rfl) (fun _ _ _ h => h) rfl (fun W => by go_simp) ?_
  go_simp
  refine aD (i := 23) (v := .bool false) rfl rfl (by kernel_rfl) (by kernel_rfl) (by kernel_rfl) (by kernel_rfl) (by kernel_rfl) (fun _ _ _ h => h) rfl (fun W => by go_simp) ?_
  go_simp
  refine aR (i := 24) (v := .pointer (some ⟨nb, 41, none⟩)) rfl rfl (by kernel_rfl) (by kernel_rfl) (by kernel_rfl) (by kernel_rfl) (by kernel_rfl) (fun _ _ _ h => h) (by kernel_rfl) (fun W => by go_simp) ?_
  go_simp
  refine bC (i := 25) (v := .agg (bD n.tv).toArray) rfl rfl (by kernel_rfl) (by kernel_rfl) (by kernel_rfl) (by kernel_rfl) (by kernel_rfl) (fun _ _ _ h => h) (by kernel_rfl) (fun W h => bQ W (nb) (41) 27 (bD n.tv) _ h Tryz.underlying27 rfl (by kernel_rfl) _ _ (.tmp 94) (by rfl) (by rfl)) (aL (vs := bD n.tv) N.out 41 rfl) ?_
  go_simp
  refine bC (i := 26) (v := .agg (bD u).toArray) rfl rfl (by kernel_rfl) (by kernel_rfl) (by kernel_rfl) (by kernel_rfl) (by kernel_rfl) (fun _ _ _ h => h) (by kernel_rfl) (fun W h => bZ W (w.heap.size + 1) 27 (bD u) _ h Tryz.underlying27 rfl (by kernel_rfl) _ _ (.tmp 6) (by rfl) (by rfl)) (T.out) ?_
  go_simp
  refine aI (i := 27) (by kernel_rfl) ?_
  refine dL rfl (by kernel_rfl) ?_
  go_simp
  (with_reducible refine (GO.out w14').mono ?_)
  rintro ew15' w15' ⟨rfl, qw15'⟩
  replace C := aA (aB C.out qw15')
  replace T := aA (aB T.out qw15')
  replace N := aA (aB N.out qw15')
  replace NOK := aA (NOK.out.next qw15')
  replace RS := aA (Rd.next RS.out qw15' qw15'.size)
  replace Q := aA (aC Q.out Q.out.size qw15')
  clear qw15'
  clear GO
  go_simp
  refine ⟨aO (by kernel_rfl) (.cons (N.out) (.cons (aZ N.out 9 (v := .slice n.oA n.os.length n.oc) rfl) (.cons (aZ N.out 10 (v := .slice n.iA n.is.length n.ic) rfl) (.cons (aL (vs := bD n.tv) N.out 41 rfl) (.cons (T.out) (.cons ((by have k := aL (vs := bO n.pn) N.out 54 rfl; rwa [HPN.out] at k)) (.cons ((bL C.out).2.2.2.2.2.1) .nil))))))), ?_⟩
  go_simp
  refine aR (i := 28) (v := .bool false) rfl rfl (by kernel_rfl) (by kernel_rfl) (by kernel_rfl) (by kernel_rfl) (by kernel_rfl) (fun _ _ _ h => h) (by kernel_rfl) (fun W => exec_neq_tv n.tv _ _ (.tmp 95) (.tmp 97) _ (by rfl) (by rfl) (by rfl) W) ?_
  go_simp
  refine aD (i := 29) (v := .bool false) rfl rfl (by kernel_rfl) (by kernel_rfl) (by kernel_rfl) (by kernel_rfl) (by kernel_rfl) (fun _ _ _ h => h) rfl (fun W => by go_simp) ?_
  go_simp
  refine aD (i := 30) (v := .bool false) rfl rfl (by kernel_rfl) (by kernel_rfl) (by kernel_rfl) (by kernel_rfl) (by kernel_rfl) (fun _ _ _ h => h) rfl (fun W => by go_simp) ?_
  go_simp
  refine aR (i := 31) (v := .pointer (some ⟨nb, 54, none⟩)) rfl rfl (by kernel_rfl) (by kernel_rfl) (by kernel_rfl) (by kernel_rfl) (by kernel_rfl) (fun _ _ _ h => h) (by kernel_rfl) (fun W => by go_simp) ?_
  go_simp
  refine bC (i := 32) (v := .agg (bO (⟨mem, 0, fun _ => 0, d.heard⟩ : Pn)).toArray) rfl rfl (by kernel_rfl) (by kernel_rfl) (by kernel_rfl) (by kernel_rfl) (by kernel_rfl) (fun _ _ _ h => h) (by kernel_rfl) (fun W h => bQ W (nb) (54) 47 (bO (⟨mem, 0, fun _ => 0, d.heard⟩ : Pn)) _ h Tryz.underlying47 rfl (by kernel_rfl) _ _ (.tmp 101) (by rfl) (by rfl)) ((by have k := aL (vs := bO n.pn) N.out 54 rfl; rwa [HPN.out] at k)) ?_
  go_simp
  refine aR (i := 33) (v := .int .u16 mem) rfl rfl (by kernel_rfl) (by kernel_rfl) (by kernel_rfl) (by kernel_rfl) (by kernel_rfl) (fun _ _ _ h => h) (by kernel_rfl) (fun W => by go_simp) ?_
  go_simp
  refine aR (i := 34) (v := .pointer (some ⟨w.heap.size, 5, none⟩)) rfl rfl (by kernel_rfl) (by kernel_rfl) (by kernel_rfl) (by kernel_rfl) (by kernel_rfl) (fun _ _ _ h => h) (by kernel_rfl) (fun W => by go_simp) ?_
  go_simp
  refine bC (i := 35) (v := .int .i64 d.heard) rfl rfl (by kernel_rfl) (by kernel_rfl) (by kernel_rfl) (by kernel_rfl) (by kernel_rfl) (fun _ _ _ h => h) (by kernel_rfl) (fun W h => by go_simp) ((bL C.out).2.2.2.2.2.1) ?_
  go_simp
  refine aR (i := 36) (v := .agg (bO (⟨mem, 0, fun _ => 0, d.heard⟩ : Pn)).toArray) rfl rfl (by kernel_rfl) (by kernel_rfl) (by kernel_rfl) (by kernel_rfl) (by kernel_rfl) (fun _ _ _ h => h) (by kernel_rfl) (fun W => by kernel_rfl) ?_
  go_simp
  refine aR (i := 37) (v := .bool false) rfl rfl (by kernel_rfl) (by kernel_rfl) (by kernel_rfl) (by kernel_rfl) (by kernel_rfl) (fun _ _ _ h => h) (by kernel_rfl) (fun W => exec_neq_pn mem d.heard _ _ (.tmp 102) (.tmp 106) _ (by rfl) (by rfl) (by rfl) W) ?_
  go_simp
  refine aD (i := 38) (v := .bool false) rfl rfl (by kernel_rfl) (by kernel_rfl) (by kernel_rfl) (by kernel_rfl) (by kernel_rfl) (fun _ _ _ h => h) rfl (fun W => by go_simp) ?_
  go_simp
  refine aD (i := 39) (v := .bool false) rfl rfl (by kernel_rfl) (by kernel_rfl) (by kernel_rfl) (by kernel_rfl) (by kernel_rfl) (fun _ _ _ h => h) rfl (fun W => by go_simp) ?_
  go_simp
  refine aI (i := 40) (by kernel_rfl) ?_
  refine dL rfl (by kernel_rfl) ?_
  go_simp
  (with_reducible refine (AL.out w15').mono ?_)
  rintro ew16' w16' ⟨rfl, qw16'⟩
  replace C := aA (aB C.out qw16')
  replace T := aA (aB T.out qw16')
  replace N := aA (aB N.out qw16')
  replace NOK := aA (NOK.out.next qw16')
  replace RS := aA (Rd.next RS.out qw16' qw16'.size)
  replace Q := aA (aC Q.out Q.out.size qw16')
  clear qw16'
  clear AL
  go_simp
  refine ⟨aO (by kernel_rfl) (.cons (N.out) (.cons (aZ N.out 9 (v := .slice n.oA n.os.length n.oc) rfl) (.cons (aZ N.out 10 (v := .slice n.iA n.is.length n.ic) rfl) (.cons (aL (vs := bD n.tv) N.out 41 rfl) (.cons (T.out) (.cons ((by have k := aL (vs := bO n.pn) N.out 54 rfl; rwa [HPN.out] at k)) (.cons ((bL C.out).2.2.2.2.2.1) .nil))))))), ?_⟩
  go_simp
  refine aR (i := 41) (v := .bool false) rfl rfl (by kernel_rfl) (by kernel_rfl) (by kernel_rfl) (by kernel_rfl) (by kernel_rfl) (fun _ _ _ h => h) (by kernel_rfl) (fun W => by go_simp) ?_
  go_simp
  refine aD (i := 42) (v := .bool false) rfl rfl (by kernel_rfl) (by kernel_rfl) (by kernel_rfl) (by kernel_rfl) (by kernel_rfl) (fun _ _ _ h => h) rfl (fun W => by go_simp) ?_
  go_simp
  refine aS (by kernel_rfl) ?_ _
  clear e1 e2
  have DOK2 := aA (DOK.out _ Q.out)
  clear DOK T HTV HLI
  go_wp2_with fail
  generalize w16' = v17' at *
  have C5 := C
  have N5 := N
  have Q5 := Q
  have RS5 := RS
  have NOK5 := NOK
  go_loopw [115] (fun vi W => ∃ k : Nat, k ≤ S.length ∧ vi = .int .i64 k ∧ Hid (Below v17'.heap.size v17' W)) (fun vi _ => S.length - (intOf vi).toNat)
  case atStart => exact ⟨0, Nat.zero_le _, rfl, aA (Below.refl _ _)⟩
  case round =>
    clear C N Q RS NOK
    obtain ⟨k, hk, rfl, QL⟩ := hrel
    have C := aA (aB C5.out QL.out)
    have N := aA (aB N5.out QL.out)
    have Q := aA (aC Q5.out Q5.out.size QL.out)
    have NOK := aA (NOK5.out.next QL.out)
    by_cases hlt : k < S.length
    ·
      have RS := Rd.next RS5.out QL.out QL.out.size
      have DK := DOK2.out.next QL.out
      clear RS5 DOK2 C5 N5 Q5 NOK5
      obtain ⟨sb, so, rfl, hsb, c0⟩ := NR.at_ RS hlt
      have hki : (k : Int) < (S.length : Int) := by omega
      obtain ⟨hj, hgd⟩ := HSL.out k hlt
      have hko : k < n.os.length := by rw [HLO.out]; exact hlt
      obtain ⟨p, hp, hI⟩ := HOU.out k hko
      obtain ⟨ob, oo, eo, hob, ro⟩ := rd_at NOK.out.outs hko
      have OOK := aA (NOK.out.o _ (List.getElem_mem hko))
      obtain ⟨pb, po, ep, hpb, rp⟩ := rd_at DK.r hj
      have hpp : d.l[S[k]] = p := by rw [hgd, List.getElem?_eq_getElem hj] at hp; exact Option.some.inj hp
      rw [hpp] at rp
      have hko2 : (k : Int) < (n.os.length : Int) := by omega
      have hj2 : (S[k] : Int) < (d.l.length : Int) := by omega
      have HFL := aA (show n.os[k].fill = p.fill from by
        rcases hI with ⟨_, _, _, e, _⟩ | ⟨_, e, _⟩
        · exact e
        · cases e)
      have HRI := aA hI.right
      have EO := aA eo
      have EP := aA ep
      have RO := aA ro
      have RP := aA rp
      have HOB := aA hob
      have HPB := aA hpb
      clear hI hp hgd hpp eo ep ro rp hob hpb hj DK RS HOU HSL
      generalize n.os[k] = ov at *
      generalize S[k] = j at *
      have efl : (ov.fill != ov.fill) = false := by simp
      have RT := aA (fun W (h : ov.Ok W) => show Calls Tryz.prog 14 #[.agg ov.cs.toArray] W fun e w' => e = .returned (.bool true) ∧ Below W.heap.size W w' from by
        have k := rightOut_any ov W h
        rwa [HRI.out] at k)
      go_upto_region 12 with fail
      clear c0
      refine bB [0, 1, 2, 3, 4, 5, 6, 7, 8, 9, 10, 11, 12, 13, 14, 15, 16, 17, 18, 20, 21] [(1, fun W => W.cell? ⟨nb, 9, none⟩ = some (.slice (some ⟨ob, oo, none⟩) n.os.length n.oc)), (5, fun W => W.cell? ⟨ob, oo + k * 26 + 3, none⟩ = some (.int .u8 ov.fill)), (7, fun W => W.cell? ⟨w.heap.size, 1, none⟩ = some (.slice (some ⟨pb, po, none⟩) d.l.length d.c)), (11, fun W => W.cell? ⟨pb, po + j * 22 + 6, none⟩ = some (.int .u8 ov.fill)), (15, fun W => W.cell? ⟨nb, 9, none⟩ = some (.slice (some ⟨ob, oo, none⟩) n.os.length n.oc)), (18, fun W => W.rangeAt ob (oo + k * 26) ov.cs)] (by kernel_rfl) ?_
      replace RO := aA (show wr.drew.rangeAt ob (oo + k * 26) ov.cs from RO.out)
      replace RP := aA (show wr.drew.rangeAt pb (po + j * 22) p.cs from RP.out)
      replace HOB := aA (show ob < wr.drew.heap.size from HOB.out)
      replace HPB := aA (show pb < wr.drew.heap.size from HPB.out)
      replace QL := aA (show Below v17'.heap.size v17' wr.drew from QL.out.drew)
      replace C := aA (show wr.drew.heap[w.heap.size]? = some (.cells d.cs.toArray 25 (0, 0)) from C.out)
      replace N := aA (show wr.drew.heap[nb]? = some (.cells n.cs.toArray 53 (0, 0)) from N.out)
      replace NOK := aA (show n.Ok (wr.drew) from NOK.out.next ((Below.refl wr.heap.size wr).drew))
      replace OOK := aA (show ov.Ok (wr.drew) from OOK.out.next ((Below.refl wr.heap.size wr).drew))
      replace Q := aA (show Below w.heap.size w wr.drew from Q.out.drew)
      generalize wr.drew = w18' at *
      refine aD (i := 0) (v := .pointer (some ⟨nb, 9, none⟩)) rfl rfl (by kernel_rfl) (by kernel_rfl) (by kernel_rfl) (by kernel_rfl) (by kernel_rfl) (fun _ _ _ h => h) rfl (fun W => by go_simp) ?_
      go_simp
      refine aQ (i := 1) (v := .slice (some ⟨ob, oo, none⟩) n.os.length n.oc) rfl rfl (by kernel_rfl) (by kernel_rfl) (by kernel_rfl) (by kernel_rfl) (by kernel_rfl) (fun _ _ _ h => h) rfl (fun W h => by go_simp) ((by rw [← EO.out]; exact aZ N.out 9 (v := .slice n.oA n.os.length n.oc) rfl)) ?_
      go_simp
      refine aD (i := 2) (v := .int .i64 k) rfl rfl (by kernel_rfl) (by kernel_rfl) (by kernel_rfl) (by kernel_rfl) (by kernel_rfl) (fun _ _ _ h => h) rfl (fun W => by go_simp) ?_
      go_simp
      refine aD (i := 3) (v := .pointer (some ⟨ob, oo + k * 26, none⟩)) rfl rfl (by kernel_rfl) (by kernel_rfl) (by kernel_rfl) (by kernel_rfl) (by kernel_rfl) (fun _ _ _ h => h) rfl (fun W => by go_simp) ?_
      go_simp
      refine aD (i := 4) (v := .pointer (some ⟨ob, oo + k * 26 + 3, none⟩)) rfl rfl (by kernel_rfl) (by kernel_rfl) (by kernel_rfl) (by kernel_rfl) (by kernel_rfl) (fun _ _ _ h => h) rfl (fun W => by go_simp) ?_
      go_simp
      refine aQ (i := 5) (v := .int .u8 ov.fill) rfl rfl (by kernel_rfl) (by kernel_rfl) (by kernel_rfl) (by kernel_rfl) (by kernel_rfl) (fun _ _ _ h => h) rfl (fun W h => by go_simp) ((RO.out 3 _ rfl)) ?_
      go_simp
      refine aD (i := 6) (v := .pointer (some ⟨w.heap.size, 1, none⟩)) rfl rfl (by kernel_rfl) (by kernel_rfl) (by kernel_rfl) (by kernel_rfl) (by kernel_rfl) (fun _ _ _ h => h) rfl (fun W => by go_simp) ?_
      go_simp
      refine aQ (i := 7) (v := .slice (some ⟨pb, po, none⟩) d.l.length d.c) rfl rfl (by kernel_rfl) (by kernel_rfl) (by kernel_rfl) (by kernel_rfl) (by kernel_rfl) (fun _ _ _ h => h) rfl (fun W h => by go_simp) ((by rw [← EP.out]; exact (bL C.out).2.1)) ?_
      go_simp
      refine aD (i := 8) (v := .int .i64 j) rfl rfl (by kernel_rfl) (by kernel_rfl) (by kernel_rfl) (by kernel_rfl) (by kernel_rfl) (fun _ _ _ h => h) rfl (fun W => by go_simp) ?_
      go_simp
      refine aD (i := 9) (v := .pointer (some ⟨pb, po + j * 22, none⟩)) rfl rfl (by kernel_rfl) (by kernel_rfl) (by kernel_rfl) (by kernel_rfl) (by kernel_rfl) (fun _ _ _ h => h) rfl (fun W => by go_simp) ?_
      go_simp
      refine aD (i := 10) (v := .pointer (some ⟨pb, po + j * 22 + 6, none⟩)) rfl rfl (by kernel_rfl) (by kernel_rfl) (by kernel_rfl) (by kernel_rfl) (by kernel_rfl) (fun _ _ _ h => h) rfl (fun W => by go_simp) ?_
      go_simp
      refine aQ (i := 11) (v := .int .u8 ov.fill) rfl rfl (by kernel_rfl) (by kernel_rfl) (by kernel_rfl) (by kernel_rfl) (by kernel_rfl) (fun _ _ _ h => h) rfl (fun W h => by go_simp) ((by rw [HFL.out]; exact RP.out 6 _ rfl)) ?_
      go_simp
      refine aD (i := 12) (v := .bool false) rfl rfl (by kernel_rfl) (by kernel_rfl) (by kernel_rfl) (by kernel_rfl) (by kernel_rfl) (fun _ _ _ h => h) rfl (fun W => by go_simp) ?_
      go_simp
      refine aD (i := 13) (v := .bool false) rfl rfl (by kernel_rfl) (by kernel_rfl) (by kernel_rfl) (by kernel_rfl) (by kernel_rfl) (fun _ _ _ h => h) rfl (fun W => by go_simp) ?_
      go_simp
      refine aR (i := 14) (v := .pointer (some ⟨nb, 9, none⟩)) rfl rfl (by kernel_rfl) (by kernel_rfl) (by kernel_rfl) (by kernel_rfl) (by kernel_rfl) (fun _ _ _ h => h) (by kernel_rfl) (fun W => by go_simp) ?_
      go_simp
      refine bC (i := 15) (v := .slice (some ⟨ob, oo, none⟩) n.os.length n.oc) rfl rfl (by kernel_rfl) (by kernel_rfl) (by kernel_rfl) (by kernel_rfl) (by kernel_rfl) (fun _ _ _ h => h) (by kernel_rfl) (fun W h => by go_simp) ((by rw [← EO.out]; exact aZ N.out 9 (v := .slice n.oA n.os.length n.oc) rfl)) ?_
      go_simp
      refine aR (i := 16) (v := .int .i64 k) rfl rfl (by kernel_rfl) (by kernel_rfl) (by kernel_rfl) (by kernel_rfl) (by kernel_rfl) (fun _ _ _ h => h) (by kernel_rfl) (fun W => by go_simp) ?_
      go_simp
      refine aR (i := 17) (v := .pointer (some ⟨ob, oo + k * 26, none⟩)) rfl rfl (by kernel_rfl) (by kernel_rfl) (by kernel_rfl) (by kernel_rfl) (by kernel_rfl) (fun _ _ _ h => h) (by kernel_rfl) (fun W => by go_simp) ?_
      go_simp
      refine bC (i := 18) (v := .agg (ov.cs).toArray) rfl rfl (by kernel_rfl) (by kernel_rfl) (by kernel_rfl) (by kernel_rfl) (by kernel_rfl) (fun _ _ _ h => h) (by kernel_rfl) (fun W h => bQ W (ob) (oo + k * 26) 77 (ov.cs) _ h Tryz.underlying77 rfl (by kernel_rfl) _ _ (.tmp 137) (by rfl) (by rfl)) (RO.out) ?_
      go_simp
      refine aI (i := 19) (by kernel_rfl) ?_
      refine dL rfl (by kernel_rfl) ?_
      go_simp
      (with_reducible refine (RT.out w18' OOK.out).mono ?_)
      rintro ew19' w19' ⟨rfl, qw19'⟩
      replace RO := aA (show w19'.rangeAt ob (oo + k * 26) ov.cs from fun j v hj => aT qw19' HOB.out (RO.out j v hj))
      replace RP := aA (show w19'.rangeAt pb (po + j * 22) p.cs from fun j v hj => aT qw19' HPB.out (RP.out j v hj))
      replace QL := aA (aC QL.out QL.out.size qw19')
      replace C := aA (aB C.out qw19')
      replace N := aA (aB N.out qw19')
      replace NOK := aA (NOK.out.next qw19')
      replace OOK := aA (OOK.out.next qw19')
      replace Q := aA (aC Q.out Q.out.size qw19')
      clear qw19'
      clear RT
      go_simp
      refine ⟨aO (by kernel_rfl) (.cons ((by rw [← EO.out]; exact aZ N.out 9 (v := .slice n.oA n.os.length n.oc) rfl)) (.cons ((RO.out 3 _ rfl)) (.cons ((by rw [← EP.out]; exact (bL C.out).2.1)) (.cons ((by rw [HFL.out]; exact RP.out 6 _ rfl)) (.cons ((by rw [← EO.out]; exact aZ N.out 9 (v := .slice n.oA n.os.length n.oc) rfl)) (.cons (RO.out) .nil)))))), ?_⟩
      go_simp
      refine aR (i := 20) (v := .bool false) rfl rfl (by kernel_rfl) (by kernel_rfl) (by kernel_rfl) (by kernel_rfl) (by kernel_rfl) (fun _ _ _ h => h) (by kernel_rfl) (fun W => by go_simp) ?_
      go_simp
      refine aD (i := 21) (v := .bool false) rfl rfl (by kernel_rfl) (by kernel_rfl) (by kernel_rfl) (by kernel_rfl) (by kernel_rfl) (fun _ _ _ h => h) rfl (fun W => by go_simp) ?_
      go_simp
      refine aS (by kernel_rfl) ?_ _
      clear efl
      have hsn := HSN.out
      go_wp2_with fail
      go_roundw
      case rel => exact ⟨k + 1, by omega, by go_num, QL⟩
      case measure => simp [intOf]; omega
    obtain rfl : k = S.length := by omega
    have hnl : ¬ (S.length : Int) < (S.length : Int) := by omega
    clear C5 N5 Q5 RS5 NOK5 HOU HSL DOK2 QL hlt hk
    have DR := aA (fun W (h : n.Ok W) => ndDrive_down n W h NRT.out.shape (.inl HUP.out))
    have FR := aA (fun W => show Calls Tryz.prog 16 #[.agg n.cs.toArray] W fun e w' => e = .returned (.agg (frN2 (d.base + id)).toArray) ∧ Below W.heap.size W w' from by
      have k := ndFrame_ok n W NRT.out.pn (by rw [HCF.out.1]; exact ⟨HFS.out.2.1, HFS.out.2.2.1⟩) (by rw [HCF.out.2]; exact ⟨HFS.out.2.2.2.1, HFS.out.2.2.2.2.1⟩)
      rw [HCF.out.1, HCF.out.2, HPN.out] at k
      exact k)
    go_wp2_with (refine wpList_load_row rfl 53 (.tmp 9) (by rfl) nb (by rfl) 53 n.cs.toArray (0, 0) _ (by exact N.out) Tryz.underlying53 (by rfl) (by kernel_rfl) ?_)
    (with_reducible refine (DR.out wr NOK.out).mono ?_)
    rintro ew20' w20' ⟨rfl, qw20'⟩
    replace C := aA (aB C.out qw20')
    replace N := aA (aB N.out qw20')
    replace NOK := aA (NOK.out.next qw20')
    replace Q := aA (aC Q.out Q.out.size qw20')
    clear qw20'
    clear DR
    go_wp2_with (refine wpList_load_row rfl 53 (.tmp 9) (by rfl) nb (by rfl) 53 n.cs.toArray (0, 0) _ (by exact N.out) Tryz.underlying53 (by rfl) (by kernel_rfl) ?_)
    (with_reducible refine (FR.out w20').mono ?_)
    rintro ew21' w21' ⟨rfl, qw21'⟩
    replace C := aA (aB C.out qw21')
    replace N := aA (aB N.out qw21')
    replace NOK := aA (NOK.out.next qw21')
    replace Q := aA (aC Q.out Q.out.size qw21')
    clear qw21'
    clear FR
    have G := World.alloc_heap_new w21' (.cells ([.int .u32 0, .bool false, .bool false, .int .i64 0, .string ⟨#[]⟩]).toArray 35)
    have zCgb : w.heap.size < w21'.heap.size := aH C.out
    have zNgb : nb < w21'.heap.size := aH N.out
    have zQgb : w.heap.size ≤ w21'.heap.size := Q.out.size
    obtain ⟨w23', hw23'⟩ : ∃ wx, wx = w21'.alloc (.cells ([.int .u32 0, .bool false, .bool false, .int .i64 0, .string ⟨#[]⟩]).toArray 35) := ⟨_, rfl⟩
    have q22' := aA (show Below w21'.heap.size w21' w23' by rw [hw23']; exact (Below.refl _ _).alloc (Nat.le_refl _) _)
    rw [← hw23'] at G
    replace G := aA G
    have Tw24' := aA (show (w21'.alloc (.cells ([.int .u32 0, .bool false, .bool false, .int .i64 0, .string ⟨#[]⟩]).toArray 35)).there w21'.heap.size 0 5 by rw [← hw23']; exact aK (cs := [.int .u32 0, .bool false, .bool false, .int .i64 0, .string ⟨#[]⟩]) G.out)
    go_wp2_with (refine aF (by rfl) 35 (.tmp 17) (.tmp 149) (by rfl) w21'.heap.size 0 (frN2 (d.base + id)) (by rfl) (by rfl) (by exact Tw24'.out) (by kernel_rfl) (by simp [Value.oneCell', frN2]) ?_)
    intro w24' ew24'
    replace ew24' : Hid (w24' = w23'.setCells w21'.heap.size 0 (frN2 (d.base + id))) := by rw [hw23']; exact ew24'
    replace G := aA (show w24'.heap[w21'.heap.size]? = some (.cells (frN2 (d.base + id)).toArray 35 (0, 0)) by rw [ew24'.out]; exact aJ (frN2 (d.base + id)) (xs := [.int .u32 0, .bool false, .bool false, .int .i64 0, .string ⟨#[]⟩]) G.out rfl)
    replace q22' := aA (show Below w21'.heap.size w21' w24' by rw [ew24'.out]; exact q22'.out.trans (aE _ _ _ (by omega)))
    clear ew24' Tw24' hw23'
    replace C := aA (aB C.out q22'.out)
    replace N := aA (aB N.out q22'.out)
    replace NOK := aA (NOK.out.next q22'.out)
    replace Q := aA (aC Q.out Q.out.size q22'.out)
    clear q22'
    generalize w21'.heap.size = gb at *
    obtain ⟨_, hfb0, hfb1, hi0, hi3, _⟩ := HFS.out
    obtain ⟨_, _, d2, d3, d4, d5, d6, _⟩ := bL C.out
    have n83 := aZ N.out 83 (v := .int .i64 n.sm.st) rfl
    rw [HSM.out] at n83
    have n37 := aZ N.out 37 (v := .int .i64 n.fi.has) rfl
    rw [HFI.out.1] at n37
    have n38 := aZ N.out 38 (v := .bool n.fi.on) rfl
    rw [HFI.out.2] at n38
    have NMR := aA (show w24'.rangeAt nb 73 (bR (⟨0, false, 0, 0, 0, 0, d.rep, d.cycle, d.heard, d.wait⟩ : Nm)) by have k := aL (vs := bR n.nm) N.out 73 rfl; rwa [HNM.out] at k)
    go_wp2_with (first | (refine cI (by kernel_rfl) 49 (.tmp 157) (by rfl) nb 73 (by rfl) (bR (⟨0, false, 0, 0, 0, 0, d.rep, d.cycle, d.heard, d.wait⟩ : Nm)) _ (by exact NMR.out) Tryz.underlying49 (by rfl) (by kernel_rfl) ?_) | (refine gO (by kernel_rfl) (.build 49 #[(6, .tmp 160), (7, .tmp 162), (8, .tmp 164), (9, .tmp 166)]) rfl (.agg (bR (⟨0, false, 0, 0, 0, 0, d.rep, d.cycle, d.heard, d.wait⟩ : Nm)).toArray) (fun W => by kernel_rfl) ?_) | (refine gO (by kernel_rfl) (.binOp .eql 49 (.tmp 158) (.tmp 167) 49) rfl (.bool true) (fun W => exec_eql_nm (⟨0, false, 0, 0, 0, 0, d.rep, d.cycle, d.heard, d.wait⟩ : Nm) _ _ (.tmp 158) (.tmp 167) _ (by rfl) (by rfl) (by rfl) W) ?_) | (refine bU (by kernel_rfl) 35 (.tmp 17) (by rfl) gb (by rfl) 35 (frN2 (d.base + id)).toArray (0, 0) _ (by exact G.out) Tryz.underlying35 (by rfl) (by kernel_rfl) ?_) | (refine gO (by kernel_rfl) (.build 35 #[(0, .tmp 194), (3, .const (.int .i64 2)), (4, .const (.string ⟨#[0, 0]⟩))]) rfl (.agg (frN2 (d.base + id)).toArray) (fun W => by kernel_rfl) ?_) | (refine gO (by kernel_rfl) (.binOp .eql 35 (.tmp 189) (.tmp 195) 35) rfl (.bool true) (fun W => exec_eql_fr (d.base + id) _ _ (.tmp 189) (.tmp 195) _ (by rfl) (by rfl) (by rfl) W) ?_))
    go_ret
    exact ⟨rfl, Q.out⟩
end Go.Proofs.YtkmddjbialpppaaGreatDoor
