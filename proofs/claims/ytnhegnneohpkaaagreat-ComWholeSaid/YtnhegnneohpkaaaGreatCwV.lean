/- The walk of ComWhole: the deeds. -/
import Derived.Test.YtnhegnneohpkaaaGreatCwX
import Derived.Test.YtnhegnneohpkaaaGreatCwZ
namespace Go.Proofs.YtnhegnneohpkaaaGreat
open Go.ChangeShapes Go.WideShapes Go.ChangeAt Go.RowKit
open CM PD SG

set_option maxRecDepth 100000 in
set_option maxHeartbeats 64000000 in
theorem comWhole_acts (w1 ws : World) (b c N : Nat) (first : List Int) (CA : Option Addr) (cc gg gc : Nat) (lv0 : Value) (o : Ou) (i : Inn) (L : Ly) (subs : List Int) (each : Int) (lb n sc acap : Nat) (sa AA : Option Addr) (acts : List Dd) (lv : Lv) (nv0 wv0 : Value) (wl : WL L) (hlL : lv.L = L) (wlv : WL lv.L) (hF : fitA L first = true) (hU : fitA L subs = true) (ro : RO L first first 0 o) (ri : RI L first subs each each 0 i) (hl0 : Src w1 CA first lv0 first) (hn0 : Src w1 CA first nv0 first) (hw0 : Src w1 CA first wv0 first) (hsu : Src w1 CA first (.slice sa subs.length sc) subs) (he0 : 0 ≤ each) (hn16 : n ≤ 16) (zbN : b < N) {sl0 sl1 sl3 sl4 sl6 sl8 sl9 sl10 sl11 sl12 sl13 sl14 sl15 sl18 sl20 sl21 sl26 sl27 sl28 sl29 sl30 sl31 sl32 sl33 sl34 sl35 sl36 sl37 sl38 sl39 sl40 sl41 sl42 sl43 sl44 sl45 sl46 sl47 sl48 sl49 sl50 sl51 sl52 sl53 sl54 sl55 sl56 sl57 sl58 sl59 sl60 sl61 sl62 sl63 sl64 sl65 sl66 sl67 sl68 sl69 sl70 sl71 sl72 sl73 sl74 sl75 sl76 sl77 sl78 sl79 sl80 sl81 sl82 sl83 sl84 sl85 sl86 sl87 sl88 sl89 sl90 sl91 sl92 sl93 sl94 sl95 sl96 sl97 sl98 sl99 sl100 sl101 sl102 sl103 sl104 sl105 sl106 sl107 sl108 sl109 sl110 sl111 sl112 sl113 sl114 sl115 sl116 sl117 sl118 sl119 sl120 sl121 sl122 sl123 sl124 sl125 sl126 sl127 sl128 sl129 sl130 sl131 sl132 sl133 sl134 sl135 sl136 sl137 sl138 sl139 sl140 sl141 sl142 sl143 sl144 sl145 sl149 sl150 sl151 sl152 sl153 sl154 sl155 sl156 sl157 sl158 sl159 sl160 sl161 sl162 sl163 sl164 sl165 sl166 sl167 sl168 sl169 sl170 sl171 sl172 sl173 sl174 sl175 sl176 sl177 sl178 sl179 sl180 sl181 sl182 sl183 sl184 sl185 sl186 sl187 sl188 sl189 sl190 sl191 sl192 sl193 sl194 sl195 sl196 sl197 sl198 sl199 sl200 sl201 sl202 sl203 sl204 sl205 sl206 sl207 sl208 sl209 sl210 sl211 sl212 sl213 sl214 sl215 sl216 sl217 sl218 sl219 sl220 sl221 sl222 sl223 sl224 sl225 sl226 sl227 sl228 sl229 sl230 sl231 sl232 sl233 sl234 sl235 sl236 sl237 sl238 sl239 sl240 sl241 sl242 sl243 sl244 sl245 sl246 sl247 sl248 sl249 sl250 sl251 sl252 sl253 sl254 sl255 sl256 sl257 sl258 sl259 sl260 sl261 sl262 sl263 sl264 sl265 sl266 sl267 sl268 sl269 sl270 sl271 sl272 sl273 sl274 sl275 sl276 sl277 sl278 sl279 sl280 sl281 sl282 sl283 sl284 : Value} {K' : Act → World → Prop} {Q' : Exit → Act → World → Prop} {Cd : Code} (hC : Cd = partC Tryz.f4.body (isBlock 2))
    (H : St w1 ws b c N first CA cc gg gc ([lv0]) o i)
    (LB1 : Hid (w1.heap[lb]? = some (.cells lv.cs.toArray 27 (0, 0))))
    (hlv : Hid (lv.Ok w1))
    (AR : Hid (Rd w1 w1.heap.size AA 4 (acts.map Dd.cs)))
    (HA : Hid (∀ a ∈ acts, InR w1 w1.heap.size a.vs.a a.vs.l ∧ ∀ v ∈ a.vs.l, lim v))
    (HN : Hid (n = L.sgs.length))
    (zb : w1.heap.size ≤ b)
    (zbc : b < c)
    (zcN : c < N)
    (hQ : ∀ c (a : Act) d v w, Q' (.panic c) (a.put d v) w → Q' (.panic c) a w)
    (hK : ∀ (v14 v22 v23 v24 v25 v26 v27 v28 v29 v30 v31 v32 v33 v34 v35 v36 v37 v38 v39 v40 v41 v42 v43 v44 v45 v46 v47 v148 v149 v150 v151 v152 v153 v154 v155 v156 v157 v158 v159 v160 v161 v162 v163 v164 v165 v166 v167 v168 v169 v170 v171 v172 v173 v174 v175 v176 v177 v178 v179 v180 v181 v182 v183 v184 v185 v186 v187 v188 v189 v190 v191 v192 v193 v194 v195 v196 v197 v198 v199 v200 v201 v202 v203 v204 v205 v206 v207 v208 v209 v210 v211 v212 v213 v214 v215 v216 v217 v218 v219 v220 v221 v222 v223 v224 v225 v226 v227 v228 v229 v230 v231 v232 v233 v234 v235 v236 v237 v238 v239 v240 v241 v242 v243 v244 v245 v246 v247 v248 v249 v250 v251 v252 v253 v254 v255 v256 v257 v258 v259 v260 v261 v262 v263 v264 v265 v266 v267 v268 v269 v270 v271 v272 v273 v274 v275 v276 v277 v278 v279 v280 v281 v282 v283 v284 : Value) (W' : World), (fun W => Below w1.heap.size w1 W)  W' → K' ⟨List.toArray (sl0 :: sl1 :: (.slice sa subs.length sc) :: sl3 :: sl4 :: (.int .i64 each) :: sl6 :: (.pointer (some ⟨lb, 0, none⟩)) :: sl8 :: sl9 :: sl10 :: sl11 :: sl12 :: sl13 :: v14 :: sl15 :: (.int .i64 n) :: (.pointer (some ⟨b, 0, none⟩)) :: sl18 :: (.pointer (some ⟨c, 0, none⟩)) :: sl20 :: sl21 :: v22 :: v23 :: v24 :: v25 :: v26 :: v27 :: v28 :: v29 :: v30 :: v31 :: v32 :: v33 :: v34 :: v35 :: v36 :: v37 :: v38 :: v39 :: v40 :: v41 :: v42 :: v43 :: v44 :: v45 :: v46 :: v47 :: sl48 :: sl49 :: sl50 :: sl51 :: sl52 :: sl53 :: sl54 :: sl55 :: sl56 :: sl57 :: sl58 :: sl59 :: sl60 :: sl61 :: sl62 :: sl63 :: sl64 :: sl65 :: sl66 :: sl67 :: sl68 :: sl69 :: sl70 :: sl71 :: sl72 :: sl73 :: sl74 :: sl75 :: sl76 :: sl77 :: sl78 :: sl79 :: sl80 :: sl81 :: sl82 :: sl83 :: sl84 :: sl85 :: sl86 :: sl87 :: sl88 :: sl89 :: sl90 :: sl91 :: sl92 :: sl93 :: sl94 :: sl95 :: sl96 :: sl97 :: sl98 :: sl99 :: sl100 :: sl101 :: sl102 :: sl103 :: sl104 :: sl105 :: sl106 :: sl107 :: sl108 :: sl109 :: sl110 :: sl111 :: sl112 :: sl113 :: sl114 :: sl115 :: sl116 :: sl117 :: sl118 :: sl119 :: sl120 :: sl121 :: sl122 :: sl123 :: sl124 :: sl125 :: sl126 :: sl127 :: sl128 :: sl129 :: sl130 :: sl131 :: sl132 :: sl133 :: sl134 :: sl135 :: sl136 :: sl137 :: sl138 :: sl139 :: sl140 :: sl141 :: sl142 :: sl143 :: sl144 :: sl145 :: (.slice AA acts.length acap) :: (.int .i64 acts.length) :: v148 :: v149 :: v150 :: v151 :: v152 :: v153 :: v154 :: v155 :: v156 :: v157 :: v158 :: v159 :: v160 :: v161 :: v162 :: v163 :: v164 :: v165 :: v166 :: v167 :: v168 :: v169 :: v170 :: v171 :: v172 :: v173 :: v174 :: v175 :: v176 :: v177 :: v178 :: v179 :: v180 :: v181 :: v182 :: v183 :: v184 :: v185 :: v186 :: v187 :: v188 :: v189 :: v190 :: v191 :: v192 :: v193 :: v194 :: v195 :: v196 :: v197 :: v198 :: v199 :: v200 :: v201 :: v202 :: v203 :: v204 :: v205 :: v206 :: v207 :: v208 :: v209 :: v210 :: v211 :: v212 :: v213 :: v214 :: v215 :: v216 :: v217 :: v218 :: v219 :: v220 :: v221 :: v222 :: v223 :: v224 :: v225 :: v226 :: v227 :: v228 :: v229 :: v230 :: v231 :: v232 :: v233 :: v234 :: v235 :: v236 :: v237 :: v238 :: v239 :: v240 :: v241 :: v242 :: v243 :: v244 :: v245 :: v246 :: v247 :: v248 :: v249 :: v250 :: v251 :: v252 :: v253 :: v254 :: v255 :: v256 :: v257 :: v258 :: v259 :: v260 :: v261 :: v262 :: v263 :: v264 :: v265 :: v266 :: v267 :: v268 :: v269 :: v270 :: v271 :: v272 :: v273 :: v274 :: v275 :: v276 :: v277 :: v278 :: v279 :: v280 :: v281 :: v282 :: v283 :: v284 :: []), []⟩ W') :
    Cd.wp Tryz.prog (Exit.then K' Q') ⟨List.toArray (sl0 :: sl1 :: (.slice sa subs.length sc) :: sl3 :: sl4 :: (.int .i64 each) :: sl6 :: (.pointer (some ⟨lb, 0, none⟩)) :: sl8 :: sl9 :: sl10 :: sl11 :: sl12 :: sl13 :: sl14 :: sl15 :: (.int .i64 n) :: (.pointer (some ⟨b, 0, none⟩)) :: sl18 :: (.pointer (some ⟨c, 0, none⟩)) :: sl20 :: sl21 :: (.slice (some ⟨gg, 0, none⟩) 1 gc) :: (nv0) :: (wv0) :: (.int .i64 0) :: sl26 :: sl27 :: sl28 :: sl29 :: sl30 :: sl31 :: sl32 :: sl33 :: sl34 :: sl35 :: sl36 :: sl37 :: sl38 :: sl39 :: sl40 :: sl41 :: sl42 :: sl43 :: sl44 :: sl45 :: sl46 :: sl47 :: sl48 :: sl49 :: sl50 :: sl51 :: sl52 :: sl53 :: sl54 :: sl55 :: sl56 :: sl57 :: sl58 :: sl59 :: sl60 :: sl61 :: sl62 :: sl63 :: sl64 :: sl65 :: sl66 :: sl67 :: sl68 :: sl69 :: sl70 :: sl71 :: sl72 :: sl73 :: sl74 :: sl75 :: sl76 :: sl77 :: sl78 :: sl79 :: sl80 :: sl81 :: sl82 :: sl83 :: sl84 :: sl85 :: sl86 :: sl87 :: sl88 :: sl89 :: sl90 :: sl91 :: sl92 :: sl93 :: sl94 :: sl95 :: sl96 :: sl97 :: sl98 :: sl99 :: sl100 :: sl101 :: sl102 :: sl103 :: sl104 :: sl105 :: sl106 :: sl107 :: sl108 :: sl109 :: sl110 :: sl111 :: sl112 :: sl113 :: sl114 :: sl115 :: sl116 :: sl117 :: sl118 :: sl119 :: sl120 :: sl121 :: sl122 :: sl123 :: sl124 :: sl125 :: sl126 :: sl127 :: sl128 :: sl129 :: sl130 :: sl131 :: sl132 :: sl133 :: sl134 :: sl135 :: sl136 :: sl137 :: sl138 :: sl139 :: sl140 :: sl141 :: sl142 :: sl143 :: sl144 :: sl145 :: (.slice AA acts.length acap) :: (.int .i64 acts.length) :: (.int .i64 0) :: sl149 :: sl150 :: sl151 :: sl152 :: sl153 :: sl154 :: sl155 :: sl156 :: sl157 :: sl158 :: sl159 :: sl160 :: sl161 :: sl162 :: sl163 :: sl164 :: sl165 :: sl166 :: sl167 :: sl168 :: sl169 :: sl170 :: sl171 :: sl172 :: sl173 :: sl174 :: sl175 :: sl176 :: sl177 :: sl178 :: sl179 :: sl180 :: sl181 :: sl182 :: sl183 :: sl184 :: sl185 :: sl186 :: sl187 :: sl188 :: sl189 :: sl190 :: sl191 :: sl192 :: sl193 :: sl194 :: sl195 :: sl196 :: sl197 :: sl198 :: sl199 :: sl200 :: sl201 :: sl202 :: sl203 :: sl204 :: sl205 :: sl206 :: sl207 :: sl208 :: sl209 :: sl210 :: sl211 :: sl212 :: sl213 :: sl214 :: sl215 :: sl216 :: sl217 :: sl218 :: sl219 :: sl220 :: sl221 :: sl222 :: sl223 :: sl224 :: sl225 :: sl226 :: sl227 :: sl228 :: sl229 :: sl230 :: sl231 :: sl232 :: sl233 :: sl234 :: sl235 :: sl236 :: sl237 :: sl238 :: sl239 :: sl240 :: sl241 :: sl242 :: sl243 :: sl244 :: sl245 :: sl246 :: sl247 :: sl248 :: sl249 :: sl250 :: sl251 :: sl252 :: sl253 :: sl254 :: sl255 :: sl256 :: sl257 :: sl258 :: sl259 :: sl260 :: sl261 :: sl262 :: sl263 :: sl264 :: sl265 :: sl266 :: sl267 :: sl268 :: sl269 :: sl270 :: sl271 :: sl272 :: sl273 :: sl274 :: sl275 :: sl276 :: sl277 :: sl278 :: sl279 :: sl280 :: sl281 :: sl282 :: sl283 :: sl284 :: []), []⟩ ws := by
  subst hC
  conv => arg 2; whnf
  go_cut [] from 99999 (fun W => Below w1.heap.size w1 W)
  case rest => exact hK _ _ _ _ _ _ _ _ _ _ _ _ _ _ _ _ _ _ _ _ _ _ _ _ _ _ _ _ _ _ _ _ _ _ _ _ _ _ _ _ _ _ _ _ _ _ _ _ _ _ _ _ _ _ _ _ _ _ _ _ _ _ _ _ _ _ _ _ _ _ _ _ _ _ _ _ _ _ _ _ _ _ _ _ _ _ _ _ _ _ _ _ _ _ _ _ _ _ _ _ _ _ _ _ _ _ _ _ _ _ _ _ _ _ _ _ _ _ _ _ _ _ _ _ _ _ _ _ _ _ _ _ _ _ _ _ _ _ _ _ _ _ _ _ _ _ _ _ _ _ _ _ _ _ _ _ _ _ _ _ _ _ _ _ _ hcut
  case first =>
    clear hK
    go_wp2_with fail
    go_loopw [148, 22, 23, 24, 25] (fun vi v22 v23 v24 v25 W => ∃ k : Nat, k ≤ acts.length ∧ k ≤ 20 ∧ vi = .int .i64 k ∧ ∃ (o1 : Ou) (i1 : Inn) (S1 G1 WG1 : List Int) (gg1 gc1 gk1 q1 : Nat) (gs1 : List Value) (lv1 : Value), v22 = .slice (some ⟨gg1, 0, none⟩) gs1.length gc1 ∧ Hid (gs1.length = gk1 + 1) ∧ gk1 ≤ k ∧ gs1[gk1]? = some lv1 ∧ Src w1 CA first lv1 G1 ∧ Src w1 CA first v23 S1 ∧ Src w1 CA first v24 WG1 ∧ v25 = .int .i64 q1 ∧ q1 ≤ 12 * k ∧ Hid (fitA L S1 = true) ∧ Hid (fitA L G1 = true) ∧ Hid (fitA L WG1 = true) ∧ Hid (RO L S1 G1 (k : Int) o1) ∧ Hid (RI L WG1 subs each (max (each - (q1 : Int)) 0) (24 * (k : Int)) i1) ∧ St w1 W b c N first CA cc gg1 gc1 gs1 o1 i1) (fun vi _ _ _ _ _ => acts.length - (intOf vi).toNat)
    case atStart => exact ⟨0, Nat.zero_le _, by omega, rfl, o, i, first, first, first, gg, gc, 0, 0, [lv0], lv0, rfl, hide rfl, Nat.le_refl _, rfl, hl0, hn0, hw0, rfl, by omega, hide hF, hide hF, hide hF, hide ro, hide (by have e : max (each - ((0 : Nat) : Int)) 0 = each := (by omega); rw [e]; exact ri), H⟩
    case round =>
      clear H ro ri hl0 hn0 hw0
      obtain ⟨k, hk, hk20, rfl, o1, i1, S1, G1, WG1, gg1, gc1, gk1, q1, gs1, lv1, rfl, HL1, hgk, hl1, hs1, ⟨na, nc, rfl, hs2⟩, ⟨wa, wcp, rfl, hs3⟩, rfl, hq1, HS, HG, HW, HRO, HRI, ⟨O, I, hO, aO, hI, aI, OC, OG, Q⟩⟩ := hrel
      replace hl1 := hide hl1
      replace hs1 := hide hs1
      replace hs2 := hide hs2
      replace hs3 := hide hs3
      by_cases hlt : k < acts.length
      · have hki : (k : Int) < (acts.length : Int) := by omega
        obtain ⟨ab0, ao, rfl, hab0, hrow⟩ := AR.out (by rw [List.length_map]; omega)
        have PA := hide (show wr.rangeAt ab0 (ao + k * 4) acts[k].cs from fun j v hv => cellBelow Q.out hab0 (hrow k acts[k].cs j v (by rw [List.getElem?_map, List.getElem?_eq_getElem hlt]; rfl) hv))
        obtain ⟨HV0, HL0⟩ := HA.out _ (List.getElem_mem hlt)
        generalize acts[k] = ad at *
        obtain ⟨⟨vl, va, vc⟩, gv, lo, tk⟩ := ad
        dsimp only at HV0 HL0
        have HV := hide HV0
        have LV := hide HL0
        clear HV0 HL0 hrow hab0
        have zN := hide (show N ≤ wr.heap.size from by have := og_lt OG.out (by have := HL1.out; omega); omega)
        have A := World.alloc_heap_new wr (.cells (Dd.cs ⟨⟨[], none, 0⟩, false, false, 0⟩).toArray 69)
        have zOab : b < wr.heap.size := heap_lt O.out
        have zIab : c < wr.heap.size := heap_lt I.out
        have zQab : w1.heap.size ≤ wr.heap.size := Q.out.size
        obtain ⟨w2', hw2'⟩ : ∃ wx, wx = wr.alloc (.cells (Dd.cs ⟨⟨[], none, 0⟩, false, false, 0⟩).toArray 69) := ⟨_, rfl⟩
        have q1' := hide (show Below wr.heap.size wr w2' by rw [hw2']; exact (Below.refl _ _).alloc (Nat.le_refl _) _)
        rw [← hw2'] at A
        replace A := hide A
        have Tw3' := hide (show (wr.alloc (.cells (Dd.cs ⟨⟨[], none, 0⟩, false, false, 0⟩).toArray 69)).there wr.heap.size 0 4 by rw [← hw2']; exact there_heap (cs := Dd.cs ⟨⟨[], none, 0⟩, false, false, 0⟩) A.out)
        go_wp2_with (first | (refine wpList_load_mid rfl 69 (.tmp 151) (by rfl) ab0 (ao + k * 4) (by rfl) (Dd.cs ⟨⟨vl, va, vc⟩, gv, lo, tk⟩) _ (by exact PA.out) Tryz.underlying69 (by rfl) (by kernel_rfl) ?_) | (refine wpList_store_hid (by rfl) 69 (.tmp 27) (.tmp 152) (by rfl) wr.heap.size 0 (Dd.cs ⟨⟨vl, va, vc⟩, gv, lo, tk⟩) (by rfl) (by rfl) (by exact Tw3'.out) (by kernel_rfl) (by simp [Value.oneCell', Dd.cs]) ?_))
        intro w3' ew3'
        replace ew3' : Hid (w3' = w2'.setCells wr.heap.size 0 (Dd.cs ⟨⟨vl, va, vc⟩, gv, lo, tk⟩)) := by rw [hw2']; exact ew3'
        replace A := hide (show w3'.heap[wr.heap.size]? = some (.cells (Dd.cs ⟨⟨vl, va, vc⟩, gv, lo, tk⟩).toArray 69 (0, 0)) by rw [ew3'.out]; exact whole_heap (Dd.cs ⟨⟨vl, va, vc⟩, gv, lo, tk⟩) (xs := Dd.cs ⟨⟨[], none, 0⟩, false, false, 0⟩) A.out rfl)
        replace q1' := hide (show Below wr.heap.size wr w3' by rw [ew3'.out]; exact q1'.out.trans (below_setCells _ _ _ (by omega)))
        clear ew3' Tw3' hw2'
        replace O := hide (heap_below O.out q1'.out)
        replace I := hide (heap_below I.out q1'.out)
        replace hO := hide ((hO.out.next q1'.out))
        replace hI := hide ((hI.out.next q1'.out))
        replace OC := hide ((OC.out.grown q1'.out))
        replace OG := hide ((OG.out.grown q1'.out))
        replace Q := hide (below_next Q.out Q.out.size q1'.out)
        clear q1'
        generalize wr.heap.size = ab at *
        have zab : c < ab := by have := zN.out; omega
        clear PA zN
        by_cases h20 : (20 : Int) ≤ (k : Int)
        · skip
          go_wp2_with fail
          go_meet
          exact Q.out
        have hk2 : k < 20 := by omega
        have LB := hide (heap_below LB1.out Q.out)
        obtain ⟨ac, HAC⟩ : ∃ ac, ac = Dd.cs ⟨⟨vl, va, vc⟩, gv, lo, tk⟩ := ⟨_, rfl⟩
        obtain ⟨a0, a1, a2, a3⟩ := dd_cells A.out
        dsimp only at a0 a1 a2 a3
        rw [← HAC] at A
        replace HAC := hide HAC
        clear a1 a2 a3
        have FT := hide (show Calls Tryz.prog 16 #[.agg lv.cs.toArray, .slice va vl.length vc] w3' _ from fit20_any lv.L lv.A lv.c lv.B lv.d vl va vc w3' (hlv.out.next Q.out).a (Rd.next HV.out Q.out Q.out.size) LV.out wlv.right)
        have HFB : Hid (fitA L vl = fitA lv.L vl) := hide (by rw [hlL])
        generalize fitA lv.L vl = fb at *
        go_upto_region 24 with fail
        go_wp2_with (refine wpList_load_row rfl 27 (.tmp 7) (by rfl) lb (by rfl) 27 lv.cs.toArray (0, 0) _ (by exact LB.out) Tryz.underlying27 (by rfl) (by kernel_rfl) ?_)
        clear a0
        (with_reducible refine (FT.out).mono ?_)
        rintro ew4' w4' ⟨rfl, qw4'⟩
        replace O := hide (heap_below O.out qw4')
        replace I := hide (heap_below I.out qw4')
        replace A := hide (heap_below A.out qw4')
        replace LB := hide (heap_below LB.out qw4')
        replace hO := hide ((hO.out.next qw4'))
        replace hI := hide ((hI.out.next qw4'))
        replace OC := hide ((OC.out.grown qw4'))
        replace OG := hide ((OG.out.grown qw4'))
        replace Q := hide (below_next Q.out Q.out.size qw4')
        clear qw4'
        clear FT
        clear LB 
        go_upto_if 158 with fail
        refine comWhole_writes w1 w4' b c N first CA cc gg1 gc1 gs1 o1 i1 L S1 G1 (k : Int) vl va vc gv lo tk ac ab _ fb wl (by omega) HS.out HG.out HRO.out (by rfl) HFB ⟨O, I, hO, aO, hI, aI, OC, OG, Q⟩ A HV HAC LV zab (by have := HL1.out; omega) zb zbc zcN ?hq ?_
        case hq => intro _ _ d9 _ _ h; exact hQ _ _ _ _ _ h
        intro u14 u23 u28 u29 u30 u31 u159 u160 u161 u162 u163 u164 u165 u166 u167 u168 u169 u170 u171 u172 u173 u174 u175 u176 u177 u178 u179 wc hcut
        clear O I A hO hI OC OG Q aO aI
        obtain ⟨o2, H2, A, ro2, hu23⟩ := hcut
        obtain ⟨O, I, hO, aO, hI, aI, OC, OG, Q⟩ := H2
        have hN : ∃ (S2 : List Int) (na2 : Option Addr) (nc2 : Nat), u23 = .slice na2 S2.length nc2 ∧ Hid (InR w1 w1.heap.size na2 S2 ∨ na2 = CA ∧ S2 = first) ∧ Hid (fitA L S2 = true) ∧ Hid (RO L S2 G1 (k : Int) o2) := by
          cases fb with
          | false => exact ⟨S1, na, nc, hu23, hs2, HS, hide ro2⟩
          | true => exact ⟨vl, va, vc, hu23, hide (.inl HV.out), HFB, hide ro2⟩
        clear hu23 ro2 HRO hs2 HS HFB
        obtain ⟨S2, na2, nc2, rfl, hs2, HS, HRO⟩ := hN
        obtain ⟨a0, a1, a2, a3⟩ := dd_cells (a := ⟨⟨vl, va, vc⟩, gv, lo, tk⟩) (by have := A.out; rw [HAC.out] at this; exact this)
        dsimp only at a1
        clear a0 a2 a3
        go_upto_if 181 with fail
        clear a1
        refine comWhole_give w1 wc b c N first CA cc gg1 gc1 gs1 o2 i1 L S2 G1 (k : Int) na2 S2.length nc2 ac ab gv wl (by omega) HS.out HG.out HRO.out (by have := HL1.out; omega) (by have := HL1.out; omega) zbN (by rfl) ⟨O, I, hO, aO, hI, aI, OC, OG, Q⟩ A zab zb zbc zcN ?hq ?_
        case hq => intro _ _ d9 _ _ h; exact hQ _ _ _ _ _ h
        intro u14 u22 u32 u33 u34 u182 u183 u184 u185 u186 u187 u188 u189 u190 u191 u192 u193 u194 wd hcut
        clear O I A hO hI OC OG Q aO aI
        obtain ⟨o3, gg2, gc2, gs2, G2, H2, A, ro3, hu22, hgs⟩ := hcut
        obtain ⟨O, I, hO, aO, hI, aI, OC, OG, Q⟩ := H2
        have hN : ∃ (gk2 : Nat) (la : Option Addr) (lc : Nat), gs2.length = gk2 + 1 ∧ gk2 ≤ k + 1 ∧ Hid (gs2[gk2]? = some (.slice la G2.length lc)) ∧ Hid (Src w1 CA first (.slice la G2.length lc) G2) ∧ Hid (fitA L G2 = true) := by
          rcases hgs with ⟨rfl, rfl⟩ | ⟨rfl, rfl⟩
          · obtain ⟨la, lc, rfl, hs⟩ := hs1.out
            exact ⟨gk1, la, lc, HL1.out, by omega, hl1, hide ⟨la, lc, rfl, hs⟩, HG⟩
          · exact ⟨gs1.length, na2, nc2, by simp, by have := HL1.out; omega, hide (by simp), hide ⟨na2, nc2, rfl, hs2.out⟩, HS⟩
        clear hgs hl1 hs1 HL1 HG HRO hgk
        obtain ⟨gk2, la, lc, HL2, hgk, hl2, hs1, HG⟩ := hN
        have hgn : 0 < gs2.length := by omega
        rw [HL2] at hu22
        subst hu22
        replace HL2 := hide HL2
        have HRO := hide ro3
        clear ro3
        go_upto_region 39 with fail
        go_cut [199, 200] from 195 to 200 (fun v v0 W => ∃ T : Nat, T ≤ 11 ∧ v = .int .i64 T ∧ v0 = .int .i64 0 ∧ W = wd)
        case first =>
          obtain ⟨a0, a1, a2, a3⟩ := dd_cells (a := ⟨⟨vl, va, vc⟩, gv, lo, tk⟩) (by have := A.out; rw [HAC.out] at this; exact this)
          dsimp only at a3
          clear a0 a1 a2
          obtain ⟨T, hT⟩ : ∃ T : Nat, (T : Int) = (tk.tmod 12 + 12).tmod 12 := ⟨((tk.tmod 12 + 12).tmod 12).toNat, by have := Int.tmod_nonneg 12 (show 0 ≤ tk.tmod 12 + 12 by have := Int.lt_tmod_of_pos tk (show (0 : Int) < 12 by decide); omega); omega⟩
          have hT11 : T ≤ 11 := by have := Int.tmod_lt_of_pos (tk.tmod 12 + 12) (show (0 : Int) < 12 by decide); omega
          have hm1 := Int.lt_tmod_of_pos tk (show (0 : Int) < 12 by decide)
          have hm2 := Int.tmod_lt_of_pos tk (show (0 : Int) < 12 by decide)
          have hw1 : IntKind.i64.wrap (tk.tmod 12) = tk.tmod 12 := IntWalk.i64_in _ (by omega)
          have hw2 : IntKind.i64.wrap (tk.tmod 12 + 12) = tk.tmod 12 + 12 := IntWalk.i64_in _ (by omega)
          have hw3 : IntKind.i64.wrap ((tk.tmod 12 + 12).tmod 12) = (tk.tmod 12 + 12).tmod 12 := IntWalk.i64_in _ (by omega)
          replace hT := hide hT
          clear O I hO hI OC OG Q aO aI
          go_wp2_with fail
          go_meet
          exact ⟨T, hT11, by rw [hT.out]; exact congrArg _ (Int.tmod_eq_emod_of_nonneg (by omega)).symm, rfl, rfl⟩
        case rest =>
        rename_i hK2 _ hK
        obtain ⟨T, hT, rfl, rfl, rfl⟩ := hcut
        refine hK _ _ ?_
        clear hK
        refine wp_as_then ?_
        refine comWhole_ticks w1 _ b c N first CA cc gg2 gc2 gs2 o3 i1 L S2 G2 WG1 subs each _ ((k : Int) + 1) (24 * (k : Int)) gk2 n q1 T sc sa la G2.length lc _ vl va vc gv lo tk ac ab wl (by omega) (by omega) HS.out HG.out (by have := hO.out.G.m; rwa [HRO.out.G] at this) HW.out hU HRO.out HRI.out rfl ⟨_, _, rfl, hs3.out⟩ hsu he0 (by omega) (by omega) hn16 (by omega) hgn zbN (by rfl) ⟨O, I, hO, aO, hI, aI, OC, OG, Q⟩ A zab HAC hl2 hs1 HN zb zbc zcN ?hq ?_
        case hq => intro _ _ d9 _ _ h; exact hQ _ _ _ _ _ h
        intro u14 u24 u25 u35 u36 u37 u38 u39 u40 u41 u42 u43 u44 u45 u46 u47 u200 u201 u202 u203 u204 u205 u206 u207 u208 u209 u210 u211 u212 u213 u214 u215 u216 u217 u218 u219 u220 u221 u222 u223 u224 u225 u226 u227 u228 u229 u230 u231 u232 u233 u234 u235 u236 u237 u238 u239 u240 u241 u242 u243 u244 u245 u246 u247 u248 u249 u250 u251 u252 u253 u254 u255 u256 u257 u258 u259 u260 u261 u262 u263 u264 u265 u266 u267 u268 u269 u270 u271 u272 u273 u274 u275 u276 u277 u278 u279 u280 u281 u282 u283 we hcut
        clear O I A hO hI OC OG Q aO aI
        obtain ⟨o4, i4, WG4, q4, H4, A, ro4, ri4, hs4, hw4, rfl, hq4⟩ := hcut
        have HRO4 : Hid (RO L S2 G2 ((k + 1 : Nat) : Int) o4) := hide (by have e : ((k + 1 : Nat) : Int) = (k : Int) + 1 := (by omega); rw [e]; exact ro4)
        have HRI4 : Hid (RI L WG4 subs each (max (each - (q4 : Int)) 0) (24 * ((k + 1 : Nat) : Int)) i4) := hide (ri4.mono (by omega))
        replace hs4 := hide hs4
        clear ro4 ri4 HRI HRO A
        have hK7 := ‹∀ (a : Act) (w : World), Code.wp _ _ _ a w → _›
        refine hK7 _ _ ?_
        clear hK7
        go_wp2_with fail
        go_roundw
        case rel => exact ⟨k + 1, by omega, by omega, by go_num, o4, i4, S2, G2, WG4, gg2, gc2, gk2, q4, gs2, _, by rw [HL2.out], HL2, by omega, hl2.out, hs1.out, ⟨_, _, rfl, hs2.out⟩, hs4.out, rfl, by omega, HS, HG, hide hw4, HRO4, HRI4, H4⟩
        case measure => simp [intOf]; omega
      · obtain rfl : k = acts.length := by omega
        have hki : ¬ (acts.length : Int) < (acts.length : Int) := by omega
        go_wp2_with fail
        go_meet
        exact Q.out
end Go.Proofs.YtnhegnneohpkaaaGreat
