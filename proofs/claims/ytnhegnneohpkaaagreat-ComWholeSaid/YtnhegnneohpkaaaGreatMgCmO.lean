/- campanilelaw20.alive. -/
import Derived.Test.YtnhegnneohpkaaaGreatCmN
import Derived.Test.YtnhegnneohpkaaaGreatMgSgG
namespace Go.Proofs.YtnhegnneohpkaaaGreat
open Go.ChangeShapes Go.WideShapes Go.ChangeAt Go.RowKit
open CM PD SG

def aF1 : List Flt := stF [aFlt] [7] [true] 1
def aS1 : Snd := (if (stO [aFlt] [7] [true] 1).any id = true then pSnd.ask else pSnd).swap (passA aF1 [7])
def aStr : ByteArray := ⟨(packF pL [7] [true] 0).toArray⟩

set_option maxRecDepth 100000 in
set_option maxHeartbeats 32000000 in
theorem alive20_ok (w : World) :
    Calls Tryz.prog 13 #[] w fun e w' => e = .returned (.bool true) ∧ Below w.heap.size w w' := by
  have Q := hide (Below.refl w.heap.size w)
  have P := hide (pair_ok w)
  go_enter Tryz.func13, Tryz.ntmps13
  go_wp2_with fail
  (with_reducible refine (P.out).mono ?_)
  rintro ew1' w1' ⟨⟨V, U, ly, fl, su, rfl, hV, hU, e1, e2, e3, iV, iU⟩, qw1'⟩
  replace Q := hide (below_next Q.out Q.out.size qw1')
  clear qw1'
  clear P
  obtain ⟨N, zN, AV, AU⟩ : ∃ N, N ≤ w1'.heap.size ∧ V.Away (fun k => N ≤ k) ∧ U.Away (fun k => N ≤ k) := ⟨_, Nat.le_refl _, hV.away, hU.away⟩
  replace AV := hide AV
  replace AU := hide AU
  replace hV := hide hV
  replace hU := hide hU
  replace e1 := hide e1
  replace e2 := hide e2
  replace e3 := hide e3
  replace iV := hide iV
  replace iU := hide iU
  have O := heap_below (World.alloc_heap_new w1' (.cells Ou.zero.cs.toArray 40)) ((Below.refl _ _).alloc (Nat.le_refl _) (.cells Inn.zero.cs.toArray 47))
  have I := World.alloc_heap_new (w1'.alloc (.cells Ou.zero.cs.toArray 40)) (.cells Inn.zero.cs.toArray 47)
  simp only [World.size_alloc] at I
  have zQb : w.heap.size ≤ w1'.heap.size := Q.out.size
  obtain ⟨w3', hw3'⟩ : ∃ wx, wx = (w1'.alloc (.cells Ou.zero.cs.toArray 40)).alloc (.cells Inn.zero.cs.toArray 47) := ⟨_, rfl⟩
  have q2' := hide (show Below w1'.heap.size w1' w3' by rw [hw3']; exact ((Below.refl _ _).alloc (Nat.le_refl _) _).alloc (by simp <;> omega) _)
  rw [← hw3'] at O I
  replace O := hide O
  replace I := hide I
  have Tw4' := hide (show ((w1'.alloc (.cells Ou.zero.cs.toArray 40)).alloc (.cells Inn.zero.cs.toArray 47)).there w1'.heap.size 0 26 by rw [← hw3']; exact there_heap (cs := Ou.zero.cs) O.out)
  go_wp2_with (refine wpList_store_hid (by rfl) 40 (.tmp 1) (.tmp 17) (by rfl) w1'.heap.size 0 V.cs (by rfl) (by rfl) (by exact Tw4'.out) (by kernel_rfl) (by simp [Value.oneCell', Ou.cs, Fv.v, Iv.v, Bv.v]) ?_)
  intro w4' ew4'
  replace ew4' : Hid (w4' = w3'.setCells w1'.heap.size 0 V.cs) := by rw [hw3']; exact ew4'
  replace I := hide (show w4'.heap[w1'.heap.size + 1]? = some (.cells Inn.zero.cs.toArray 47 (0, 0)) by rw [ew4'.out]; exact other_heap (by omega) _ _ _ I.out)
  replace O := hide (show w4'.heap[w1'.heap.size]? = some (.cells V.cs.toArray 40 (0, 0)) by rw [ew4'.out]; exact whole_heap V.cs (xs := Ou.zero.cs) O.out rfl)
  replace q2' := hide (show Below w1'.heap.size w1' w4' by rw [ew4'.out]; exact q2'.out.trans (below_setCells _ _ _ (by omega)))
  clear ew4' Tw4' hw3'
  have Tw5' := hide (show w4'.there (w1'.heap.size + 1) 0 13 from there_heap (cs := Inn.zero.cs) I.out)
  go_wp2_with (refine wpList_store_hid (by rfl) 47 (.tmp 2) (.tmp 18) (by rfl) (w1'.heap.size + 1) 0 U.cs (by rfl) (by rfl) (by exact Tw5'.out) (by kernel_rfl) (by simp [Value.oneCell', Inn.cs, Fv.v, Iv.v]) ?_)
  intro w5' ew5'
  replace O := hide (show w5'.heap[w1'.heap.size]? = some (.cells V.cs.toArray 40 (0, 0)) by rw [ew5'.out]; exact other_heap (by omega) _ _ _ O.out)
  replace I := hide (show w5'.heap[w1'.heap.size + 1]? = some (.cells U.cs.toArray 47 (0, 0)) by rw [ew5'.out]; exact whole_heap U.cs (xs := Inn.zero.cs) I.out rfl)
  replace q2' := hide (show Below w1'.heap.size w1' w5' by rw [ew5'.out]; exact q2'.out.trans (below_setCells _ _ _ (by omega)))
  clear ew5' Tw5'
  replace hV := hide ((hV.out.next q2'.out))
  replace hU := hide ((hU.out.next q2'.out))
  replace Q := hide (below_next Q.out Q.out.size q2'.out)
  clear q2'
  generalize w1'.heap.size = b at *
  replace AV := hide (show V.Away (fun k => k = b ∨ k = b + 1) from AV.out.mono (fun k h => show N ≤ k by have : k = b ∨ k = b + 1 := h; omega))
  replace AU := hide (show U.Away (fun k => k = b ∨ k = b + 1) from AU.out.mono (fun k h => show N ≤ k by have : k = b ∨ k = b + 1 := h; omega))
  have hr : V.right = true := by
      unfold Ou.right
      rw [iV.out.ly, iV.out.fl, iV.out.S, iV.out.G, iV.out.times, iV.out.news, iV.out.snd, e1.out, e2.out]
      show (comB pL [aFlt] [0] [0] 0 && (decide ((List.replicate 1 false).length = pL.sgs.length) && sndB pSnd)) = true
      decide +kernel
  have hL : V.ly.L = pL := by rw [iV.out.ly]; exact e1.out
  have hk : 0 < V.ly.L.sgs.length := by rw [hL]; decide
  have C1 := hide (show Calls Tryz.prog 8 #[.agg V.cs.toArray, .int .i64 0, .int .i64 7] w5' _ from comWrite_ok V 0 7 w5' hV.out hr hk ⟨by decide, by decide⟩ (by simp only [hL]; show fitsB ⟨0, 8, false, false⟩ 7 = true; decide +kernel))
  clear hr hk
  have zb0 := heap_lt O.out
  have zb1 := heap_lt I.out
  replace hL := hide hL
  go_wp2_with (refine wpList_load_row rfl 40 (.tmp 1) (by rfl) b (by rfl) 40 V.cs.toArray (0, 0) _ (by exact O.out) Tryz.underlying40 (by rfl) (by kernel_rfl) ?_)
  (with_reducible refine (C1.out).mono ?_)
  rintro ew6' w6' ⟨V1, rfl, hV1, iW, qw6'⟩
  replace O := hide (heap_below O.out qw6')
  replace I := hide (heap_below I.out qw6')
  replace hV := hide ((hV.out.next qw6'))
  replace hU := hide ((hU.out.next qw6'))
  replace Q := hide (below_next Q.out Q.out.size qw6')
  clear qw6'
  clear C1
  have AV1 := hide (iW.away AV.out (fun k h => by have : k = b ∨ k = b + 1 := h; omega))
  replace hV1 := hide hV1
  replace iW := hide iW
  clear hV
  have a1 := hide (show V1.ly.L = pL by rw [iW.out.ly]; exact hL.out)
  have a2 := hide (show V1.fl.l = [aFlt] by rw [iW.out.fl, iV.out.fl]; exact e2.out)
  have a3 := hide (show V1.S.l = [7] by rw [iW.out.S, iV.out.S]; rfl)
  have a4 := hide (show V1.G.l = [0] by rw [iW.out.G, iV.out.G])
  have a5 := hide (show V1.times = 0 by rw [iW.out.times, iV.out.times])
  have a6 := hide (show V1.news.l = [true] by rw [iW.out.news, iV.out.news]; rfl)
  have a7 := hide (show V1.snd = pSnd by rw [iW.out.snd, iV.out.snd])
  have a8 := hide (show V1.fill = 0 by rw [iW.out.fill, iV.out.fill])
  have Tw7' := hide (show World.there _ b 0 26 from there_heap (cs := V.cs) O.out)
  go_wp2_with (refine wpList_store_hid (by rfl) 40 (.tmp 1) (.tmp 23) (by rfl) b 0 V1.cs (by rfl) (by rfl) (by exact Tw7'.out) (by kernel_rfl) (by simp [Value.oneCell', Ou.cs, Fv.v, Iv.v, Bv.v]) ?_)
  intro w7' ew7'
  replace I := hide (show w7'.heap[b + 1]? = some (.cells U.cs.toArray 47 (0, 0)) by rw [ew7'.out]; exact other_heap (by omega) _ _ _ I.out)
  replace hU := hide (show U.Ok w7' by rw [ew7'.out]; exact hU.out.set AU.out (show _ ∨ _ by omega) _ _)
  replace hV1 := hide (show V1.Ok w7' by rw [ew7'.out]; exact hV1.out.set AV1.out (show _ ∨ _ by omega) _ _)
  replace Q := hide (show Below w.heap.size w w7' by rw [ew7'.out]; exact Q.out.trans (below_setCells _ _ _ (by have := Q.out.size; omega)))
  replace O := hide (show w7'.heap[b]? = some (.cells V1.cs.toArray 40 (0, 0)) by rw [ew7'.out]; exact whole_heap V1.cs (xs := V.cs) O.out rfl)
  clear ew7' Tw7'
  have hr : V1.right = true := by
      unfold Ou.right
      rw [a1.out, a2.out, a3.out, a4.out, a5.out, a6.out, a7.out]
      show (comB pL [aFlt] [7] [0] 0 && (decide ([true].length = pL.sgs.length) && sndB pSnd)) = true
      decide +kernel
  have hE : V1.gvE = true := by
      unfold Ou.gvE
      rw [a2.out, a3.out, a6.out]
      decide +kernel
  have hF : V1.gvF = aF1 := by
      unfold Ou.gvF
      rw [a2.out, a3.out, a6.out]
      rfl
  have hS : V1.gvS = aS1 := by
      unfold Ou.gvS
      rw [hF, a3.out, a7.out]
      unfold Ou.gvE
      rw [a2.out, a3.out, a6.out]
      rfl
  have C2 := hide (comGive_ok V1 w7' hV1.out hr (by rw [a5.out]; decide))
  rw [hE] at C2
  have zb2 := heap_lt O.out
  have zb3 := heap_lt I.out
  replace hF := hide hF
  replace hS := hide hS
  clear hr hE
  go_wp2_with (refine wpList_load_row rfl 40 (.tmp 1) (by rfl) b (by rfl) 40 V1.cs.toArray (0, 0) _ (by exact O.out) Tryz.underlying40 (by rfl) (by kernel_rfl) ?_)
  (with_reducible refine (C2.out).mono ?_)
  rintro ew8' w8' ⟨V2, rfl, hV2, iG, qw8'⟩
  replace O := hide (heap_below O.out qw8')
  replace I := hide (heap_below I.out qw8')
  replace hU := hide ((hU.out.next qw8'))
  replace hV1 := hide ((hV1.out.next qw8'))
  replace Q := hide (below_next Q.out Q.out.size qw8')
  clear qw8'
  clear C2
  have AV2 := hide (iG.away AV1.out (fun k h => by have : k = b ∨ k = b + 1 := h; omega))
  replace hV2 := hide hV2
  replace iG := hide iG
  clear hV1
  have b1 := hide (show V2.ly.L = pL by rw [iG.out.ly]; exact a1.out)
  have b2 := hide (show V2.fl.l = aF1 by rw [iG.out.fl]; exact hF.out)
  have b3 := hide (show V2.S.l = [7] by rw [iG.out.S]; exact a3.out)
  have b4 := hide (show V2.G.l = [7] by rw [iG.out.G]; exact a3.out)
  have b5 := hide (show V2.times = 1 by rw [iG.out.times, a5.out]; rfl)
  have b6 := hide (show V2.news.l = [true] by rw [iG.out.news]; exact a6.out)
  have b7 := hide (show V2.snd = aS1 by rw [iG.out.snd]; exact hS.out)
  have b8 := hide (show V2.fill = 0 by rw [iG.out.fill]; exact a8.out)
  have Tw9' := hide (show World.there _ b 0 26 from there_heap (cs := V1.cs) O.out)
  go_wp2_with (refine wpList_store_hid (by rfl) 40 (.tmp 1) (.tmp 28) (by rfl) b 0 V2.cs (by rfl) (by rfl) (by exact Tw9'.out) (by kernel_rfl) (by simp [Value.oneCell', Ou.cs, Fv.v, Iv.v, Bv.v]) ?_)
  intro w9' ew9'
  replace I := hide (show w9'.heap[b + 1]? = some (.cells U.cs.toArray 47 (0, 0)) by rw [ew9'.out]; exact other_heap (by omega) _ _ _ I.out)
  replace hU := hide (show U.Ok w9' by rw [ew9'.out]; exact hU.out.set AU.out (show _ ∨ _ by omega) _ _)
  replace hV2 := hide (show V2.Ok w9' by rw [ew9'.out]; exact hV2.out.set AV2.out (show _ ∨ _ by omega) _ _)
  replace Q := hide (show Below w.heap.size w w9' by rw [ew9'.out]; exact Q.out.trans (below_setCells _ _ _ (by have := Q.out.size; omega)))
  replace O := hide (show w9'.heap[b]? = some (.cells V2.cs.toArray 40 (0, 0)) by rw [ew9'.out]; exact whole_heap V2.cs (xs := V1.cs) O.out rfl)
  clear ew9' Tw9'
  have hr : V2.right = true := by
      unfold Ou.right
      rw [b1.out, b2.out, b3.out, b4.out, b5.out, b6.out, b7.out]
      show (comB pL aF1 [7] [7] 1 && (decide ([true].length = pL.sgs.length) && sndB aS1)) = true
      decide +kernel
  have hT : V2.snd.tickE = true := by
      rw [b7.out]
      decide +kernel
  have hB : V2.tkS 0 = aStr := by
      unfold Ou.tkS
      rw [hT, b1.out, b4.out, b6.out]
      rfl
  have C3 := hide (comTickOut_ok V2 0 w9' hV2.out hr b8.out)
  rw [hT, hB] at C3
  clear hr hT hB
  go_wp2_with (refine wpList_load_row rfl 40 (.tmp 1) (by rfl) b (by rfl) 40 V2.cs.toArray (0, 0) _ (by exact O.out) Tryz.underlying40 (by rfl) (by kernel_rfl) ?_)
  (with_reducible refine (C3.out).mono ?_)
  rintro ew10' w10' ⟨V3, rfl, hV3, iT, qw10'⟩
  replace O := hide (heap_below O.out qw10')
  replace I := hide (heap_below I.out qw10')
  replace hU := hide ((hU.out.next qw10'))
  replace hV2 := hide ((hV2.out.next qw10'))
  replace Q := hide (below_next Q.out Q.out.size qw10')
  clear qw10'
  clear C3
  clear hV3 iT
  clear hV2
  have T := World.alloc_heap_new w10' (.cells Ou.zero.cs.toArray 40)
  have zOc : b < w10'.heap.size := heap_lt O.out
  have zIc : b + 1 < w10'.heap.size := heap_lt I.out
  have zQc : w.heap.size ≤ w10'.heap.size := Q.out.size
  obtain ⟨w12', hw12'⟩ : ∃ wx, wx = w10'.alloc (.cells Ou.zero.cs.toArray 40) := ⟨_, rfl⟩
  have q11' := hide (show Below w10'.heap.size w10' w12' by rw [hw12']; exact (Below.refl _ _).alloc (Nat.le_refl _) _)
  rw [← hw12'] at T
  replace T := hide T
  have Tw13' := hide (show (w10'.alloc (.cells Ou.zero.cs.toArray 40)).there w10'.heap.size 0 26 by rw [← hw12']; exact there_heap (cs := Ou.zero.cs) T.out)
  go_wp2_with (refine wpList_store_hid (by rfl) 40 (.tmp 7) (.tmp 34) (by rfl) w10'.heap.size 0 V3.cs (by rfl) (by rfl) (by exact Tw13'.out) (by kernel_rfl) (by simp [Value.oneCell', Ou.cs, Fv.v, Iv.v, Bv.v]) ?_)
  intro w13' ew13'
  replace ew13' : Hid (w13' = w12'.setCells w10'.heap.size 0 V3.cs) := by rw [hw12']; exact ew13'
  replace T := hide (show w13'.heap[w10'.heap.size]? = some (.cells V3.cs.toArray 40 (0, 0)) by rw [ew13'.out]; exact whole_heap V3.cs (xs := Ou.zero.cs) T.out rfl)
  replace q11' := hide (show Below w10'.heap.size w10' w13' by rw [ew13'.out]; exact q11'.out.trans (below_setCells _ _ _ (by omega)))
  clear ew13' Tw13' hw12'
  replace O := hide (heap_below O.out q11'.out)
  replace I := hide (heap_below I.out q11'.out)
  replace hU := hide ((hU.out.next q11'.out))
  replace Q := hide (below_next Q.out Q.out.size q11'.out)
  clear q11'
  generalize w10'.heap.size = c at *
  clear T 
  have hr : U.right = true := by
      unfold Inn.right
      rw [iU.out.ly, iU.out.fl, iU.out.S, iU.out.G, iU.out.times, iU.out.subs, iU.out.w, e1.out, e2.out, e3.out]
      show (comB pL [aFlt] [0] [0] 0 && (fitA pL [9] && wtB pWt.start)) = true
      decide +kernel
  have hL2 : U.ly.L = pL := by rw [iU.out.ly]; exact e1.out
  have hO : U.cmO aStr.data.toList = [true] := by
      unfold Inn.cmO
      rw [hL2, iU.out.fl, e2.out]
      decide +kernel
  have hC : U.cmE aStr.data.toList = true := by
      unfold Inn.cmE
      rw [hO]
      rfl
  have hM : U.cmV aStr.data.toList = [7] := by
      unfold Inn.cmV
      rw [hO, hL2, iU.out.fl, iU.out.G, e2.out]
      decide +kernel
  have C4 := hide (comCome_ok U aStr w13' hU.out hr (by rw [iU.out.times]; decide) (by rw [hL2]; decide +kernel) (by rw [iU.out.w]; rfl) (by decide +kernel) (by rw [hL2]; have : unV pL aStr.data.toList = [7] := (by decide +kernel); rw [this]; intro v hv; rw [List.mem_singleton.1 hv]; exact ⟨by decide, by decide⟩))
  rw [hC] at C4
  replace hM := hide hM
  replace hL2 := hide hL2
  replace hO := hide hO
  replace hC := hide hC
  clear hr
  have zb4 := heap_lt O.out
  have zb5 := heap_lt I.out
  go_wp2_with (refine wpList_load_row rfl 47 (.tmp 2) (by rfl) (b + 1) (by rfl) 47 U.cs.toArray (0, 0) _ (by exact I.out) Tryz.underlying47 (by rfl) (by kernel_rfl) ?_)
  (with_reducible refine (C4.out).mono ?_)
  rintro ew14' w14' ⟨U1, rfl, hU1, iC, qw14'⟩
  replace O := hide (heap_below O.out qw14')
  replace I := hide (heap_below I.out qw14')
  replace hU := hide ((hU.out.next qw14'))
  replace Q := hide (below_next Q.out Q.out.size qw14')
  clear qw14'
  clear C4
  have AU1 := hide (iC.away AU.out (fun k h => by have : k = b ∨ k = b + 1 := h; omega))
  replace hU1 := hide hU1
  replace iC := hide iC
  clear hU
  have Tw15' := hide (show World.there _ (b + 1) 0 13 from there_heap (cs := U.cs) I.out)
  go_wp2_with (refine wpList_store_hid (by rfl) 47 (.tmp 2) (.tmp 42) (by rfl) (b + 1) 0 U1.cs (by rfl) (by rfl) (by exact Tw15'.out) (by kernel_rfl) (by simp [Value.oneCell', Inn.cs, Fv.v, Iv.v]) ?_)
  intro w15' ew15'
  replace O := hide (show w15'.heap[b]? = some (.cells V2.cs.toArray 40 (0, 0)) by rw [ew15'.out]; exact other_heap (by omega) _ _ _ O.out)
  replace hU1 := hide (show U1.Ok w15' by rw [ew15'.out]; exact hU1.out.set AU1.out (show _ ∨ _ by omega) _ _)
  replace Q := hide (show Below w.heap.size w w15' by rw [ew15'.out]; exact Q.out.trans (below_setCells _ _ _ (by have := Q.out.size; omega)))
  replace I := hide (show w15'.heap[b + 1]? = some (.cells U1.cs.toArray 47 (0, 0)) by rw [ew15'.out]; exact whole_heap U1.cs (xs := U.cs) I.out rfl)
  clear ew15' Tw15'
  have hG : U1.S.l = [7] ∧ U1.G.l = [7] ∧ U1.times = 1 ∧ U1.w = pWt.start.got := by
    rcases iC.out.rest with ⟨_, _, _, _, h⟩ | ⟨r1, r2, r3, r4, _, _, _⟩
    · rw [hC.out] at h
      cases h
    · exact ⟨r1.trans hM.out, r2.trans hM.out, by rw [r3, iU.out.times]; rfl, by rw [r4, iU.out.w]⟩
  obtain ⟨g1, g2, g3, g4⟩ := hG
  have g5 : U1.fl.l = stF [aFlt] [7] [true] 1 := by
    rw [iC.out.fl, hL2.out, iU.out.fl, e2.out]
    rfl
  have hk : 0 < U1.G.l.length := by rw [g2]; decide
  have hr : U1.right = true := by
    unfold Inn.right
    rw [iC.out.ly, hL2.out, g5, g1, g2, g3, g4, iC.out.subs, iU.out.subs, e3.out]
    show (comB pL (stF [aFlt] [7] [true] 1) [7] [7] 1 && (fitA pL [9] && wtB pWt.start.got)) = true
    decide +kernel
  have C5 := hide (show Calls Tryz.prog 12 #[.agg U1.cs.toArray, .int .i64 0] w15' _ from comRead_ok U1 0 w15' hU1.out hr hk)
  have g7 : U1.G.l[0] = 7 := by simp only [g2]; rfl
  rw [g7] at C5
  clear hr hk g1 g2 g3 g4 g5 g7
  go_wp2_with (refine wpList_load_row rfl 47 (.tmp 2) (by rfl) (b + 1) (by rfl) 47 U1.cs.toArray (0, 0) _ (by exact I.out) Tryz.underlying47 (by rfl) (by kernel_rfl) ?_)
  (with_reducible refine (C5.out).mono ?_)
  rintro ew16' w16' ⟨rfl, qw16'⟩
  replace O := hide (heap_below O.out qw16')
  replace I := hide (heap_below I.out qw16')
  replace hU1 := hide ((hU1.out.next qw16'))
  replace Q := hide (below_next Q.out Q.out.size qw16')
  clear qw16'
  clear C5
  go_wp2_with fail
  go_ret
  exact ⟨rfl, Q.out⟩
end Go.Proofs.YtnhegnneohpkaaaGreat

/- Loads of rows that are guarded, in a plain region. Nothing of the program's text. -/
namespace Go.Proofs.YtnhegnneohpkaaaGreat
open Go.ChangeShapes Go.WideShapes Go.ChangeAt Go.RowKit

theorem wpList_load_rowG {P : Program} {ops : Array Oper} {rest : List Oper} {o : Oper} {a : Act} {w : World} {Q : Exit → Act → World → Prop} (hw : Region.wanted o (yielded ops a.tmps) = true) (ty : TypeId) (x : Operand) (ho : o.op = .load ty x)
    (g : Nat) (hx : a.eval x = .pointer (some ⟨g, 0, none⟩)) (t : TypeId) (cs : Array Value) (fr : Nat × Nat) (d : TypeDesc) (hg : w.heap[g]? = some (.cells cs t fr))
    (hu : P.underlying ty = some d) (hd : (match d with | .struct _ | .array _ _ => true | _ => false) = true) (hi : (P.info? ty).map (·.size) = some cs.size)
    (h : wpList P ops Q rest (a.put o.dst (.agg cs)) w) : wpList P ops Q (o :: rest) a w :=
  wpList_step fun K hK => by
    rw [if_pos hw]
    exact wp_load_row ty x ho g hx t cs fr d hg hu hd hi (hK _ _ h)
theorem wpList_load_midG {P : Program} {ops : Array Oper} {rest : List Oper} {op : Oper} {a : Act} {w : World} {Q : Exit → Act → World → Prop} (hw : Region.wanted op (yielded ops a.tmps) = true) (ty : TypeId) (x : Operand) (ho : op.op = .load ty x)
    (b o : Nat) (hx : a.eval x = .pointer (some ⟨b, o, none⟩)) (cs : List Value) (d : TypeDesc) (hc : w.rangeAt b o cs)
    (hu : P.underlying ty = some d) (hd : d.isRow = true) (hi : (P.info? ty).map (·.size) = some cs.length)
    (h : wpList P ops Q rest (a.put op.dst (.agg cs.toArray)) w) : wpList P ops Q (op :: rest) a w :=
  wpList_step fun K hK => by
    rw [if_pos hw]
    exact wp_load_mid ty x ho b o hx cs d hc hu hd hi (hK _ _ h)
end Go.Proofs.YtnhegnneohpkaaaGreat
