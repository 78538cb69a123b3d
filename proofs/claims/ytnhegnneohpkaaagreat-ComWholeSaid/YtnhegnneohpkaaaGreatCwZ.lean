/- The walk of ComWhole: the ticks of a deed. -/
import Derived.Test.YtnhegnneohpkaaaGreatCwY
namespace Go.Proofs.YtnhegnneohpkaaaGreat
open Go.ChangeShapes Go.WideShapes Go.ChangeAt Go.RowKit
open CM PD SG

set_option maxRecDepth 100000 in
set_option maxHeartbeats 64000000 in
theorem comWhole_ticks (w1 ws : World) (b c N : Nat) (first : List Int) (CA : Option Addr) (cc gg gc : Nat) (gs : List Value) (o : Ou) (i : Inn) (L : Ly) (S G WG subs : List Int) (each left mo M : Int) (gk n q0 T sc : Nat) (sa la : Option Addr) (ln lc : Nat) (wv : Value) (vl : List Int) (va : Option Addr) (vc : Nat) (gv lo : Bool) (tk : Int) (ac : List Value) (ab : Nat) (wl : WL L) (hmo : mo < 1099511627776) (hM : M + 2 * (T : Int) < 1099511627000) (hS : fitA L S = true) (hG : fitA L G = true) (hGl : ∀ v ∈ G, lim v) (hW : fitA L WG = true) (hU : fitA L subs = true) (ro : RO L S G mo o) (ri : RI L WG subs each left M i) (hleft : left = max (each - (q0 : Int)) 0) (hsw : Src w1 CA first wv WG) (hsu : Src w1 CA first (.slice sa subs.length sc) subs) (he : 0 ≤ each) (hT : T ≤ 1000) (hq0 : q0 ≤ 100000) (hn16 : n ≤ 16) (hgk : gk ≤ 30) (gn : 0 < gs.length) (zbN : b < N) {sl0 sl1 sl3 sl4 sl6 sl7 sl8 sl9 sl10 sl11 sl12 sl13 sl14 sl15 sl18 sl20 sl21 sl23 sl26 sl28 sl29 sl30 sl31 sl32 sl33 sl34 sl35 sl36 sl37 sl38 sl39 sl40 sl41 sl42 sl43 sl44 sl45 sl46 sl47 sl48 sl49 sl50 sl51 sl52 sl53 sl54 sl55 sl56 sl57 sl58 sl59 sl60 sl61 sl62 sl63 sl64 sl65 sl66 sl67 sl68 sl69 sl70 sl71 sl72 sl73 sl74 sl75 sl76 sl77 sl78 sl79 sl80 sl81 sl82 sl83 sl84 sl85 sl86 sl87 sl88 sl89 sl90 sl91 sl92 sl93 sl94 sl95 sl96 sl97 sl98 sl99 sl100 sl101 sl102 sl103 sl104 sl105 sl106 sl107 sl108 sl109 sl110 sl111 sl112 sl113 sl114 sl115 sl116 sl117 sl118 sl119 sl120 sl121 sl122 sl123 sl124 sl125 sl126 sl127 sl128 sl129 sl130 sl131 sl132 sl133 sl134 sl135 sl136 sl137 sl138 sl139 sl140 sl141 sl142 sl143 sl144 sl145 sl146 sl147 sl148 sl149 sl150 sl151 sl152 sl153 sl154 sl155 sl156 sl157 sl158 sl159 sl160 sl161 sl162 sl163 sl164 sl165 sl166 sl167 sl168 sl169 sl170 sl171 sl172 sl173 sl174 sl175 sl176 sl177 sl178 sl179 sl180 sl181 sl182 sl183 sl184 sl185 sl186 sl187 sl188 sl189 sl190 sl191 sl192 sl193 sl194 sl195 sl196 sl197 sl198 sl201 sl202 sl203 sl204 sl205 sl206 sl207 sl208 sl209 sl210 sl211 sl212 sl213 sl214 sl215 sl216 sl217 sl218 sl219 sl220 sl221 sl222 sl223 sl224 sl225 sl226 sl227 sl228 sl229 sl230 sl231 sl232 sl233 sl234 sl235 sl236 sl237 sl238 sl239 sl240 sl241 sl242 sl243 sl244 sl245 sl246 sl247 sl248 sl249 sl250 sl251 sl252 sl253 sl254 sl255 sl256 sl257 sl258 sl259 sl260 sl261 sl262 sl263 sl264 sl265 sl266 sl267 sl268 sl269 sl270 sl271 sl272 sl273 sl274 sl275 sl276 sl277 sl278 sl279 sl280 sl281 sl282 sl283 sl284 : Value} {K' : Act → World → Prop} {Q' : Exit → Act → World → Prop} {Cd : Code} (hC : Cd = partC Tryz.f4.body (isBlock 6))
    (H : St w1 ws b c N first CA cc gg gc gs o i)
    (A : Hid (ws.heap[ab]? = some (.cells ac.toArray 69 (0, 0))))
    (zab : c < ab)
    (HAC : Hid (ac = Dd.cs ⟨⟨vl, va, vc⟩, gv, lo, tk⟩))
    (HLV : Hid (gs[gk]? = some (.slice la ln lc)))
    (HSL : Hid (Src w1 CA first (.slice la ln lc) G))
    (HN : Hid (n = L.sgs.length))
    (zb : w1.heap.size ≤ b)
    (zbc : b < c)
    (zcN : c < N)
    (hQ : ∀ c (a : Act) d v w, Q' (.panic c) (a.put d v) w → Q' (.panic c) a w)
    (hK : ∀ (v14 v24 v25 v35 v36 v37 v38 v39 v40 v41 v42 v43 v44 v45 v46 v47 v200 v201 v202 v203 v204 v205 v206 v207 v208 v209 v210 v211 v212 v213 v214 v215 v216 v217 v218 v219 v220 v221 v222 v223 v224 v225 v226 v227 v228 v229 v230 v231 v232 v233 v234 v235 v236 v237 v238 v239 v240 v241 v242 v243 v244 v245 v246 v247 v248 v249 v250 v251 v252 v253 v254 v255 v256 v257 v258 v259 v260 v261 v262 v263 v264 v265 v266 v267 v268 v269 v270 v271 v272 v273 v274 v275 v276 v277 v278 v279 v280 v281 v282 v283 : Value) (W' : World), (fun v24 v25 W => ∃ (o' : Ou) (i' : Inn) (WG' : List Int) (q' : Nat), St w1 W b c N first CA cc gg gc gs o' i' ∧ Hid (W.heap[ab]? = some (.cells ac.toArray 69 (0, 0))) ∧ RO L S G mo o' ∧ RI L WG' subs each (max (each - (q' : Int)) 0) (M + 2 * (T : Int)) i' ∧ Src w1 CA first v24 WG' ∧ fitA L WG' = true ∧ v25 = .int .i64 q' ∧ q' ≤ q0 + T) v24 v25 W' → K' ⟨List.toArray (sl0 :: sl1 :: (.slice sa subs.length sc) :: sl3 :: sl4 :: (.int .i64 each) :: sl6 :: sl7 :: sl8 :: sl9 :: sl10 :: sl11 :: sl12 :: sl13 :: v14 :: sl15 :: (.int .i64 n) :: (.pointer (some ⟨b, 0, none⟩)) :: sl18 :: (.pointer (some ⟨c, 0, none⟩)) :: sl20 :: sl21 :: (.slice (some ⟨gg, 0, none⟩) (gk + 1) gc) :: sl23 :: v24 :: v25 :: sl26 :: (.pointer (some ⟨ab, 0, none⟩)) :: sl28 :: sl29 :: sl30 :: sl31 :: sl32 :: sl33 :: sl34 :: v35 :: v36 :: v37 :: v38 :: v39 :: v40 :: v41 :: v42 :: v43 :: v44 :: v45 :: v46 :: v47 :: sl48 :: sl49 :: sl50 :: sl51 :: sl52 :: sl53 :: sl54 :: sl55 :: sl56 :: sl57 :: sl58 :: sl59 :: sl60 :: sl61 :: sl62 :: sl63 :: sl64 :: sl65 :: sl66 :: sl67 :: sl68 :: sl69 :: sl70 :: sl71 :: sl72 :: sl73 :: sl74 :: sl75 :: sl76 :: sl77 :: sl78 :: sl79 :: sl80 :: sl81 :: sl82 :: sl83 :: sl84 :: sl85 :: sl86 :: sl87 :: sl88 :: sl89 :: sl90 :: sl91 :: sl92 :: sl93 :: sl94 :: sl95 :: sl96 :: sl97 :: sl98 :: sl99 :: sl100 :: sl101 :: sl102 :: sl103 :: sl104 :: sl105 :: sl106 :: sl107 :: sl108 :: sl109 :: sl110 :: sl111 :: sl112 :: sl113 :: sl114 :: sl115 :: sl116 :: sl117 :: sl118 :: sl119 :: sl120 :: sl121 :: sl122 :: sl123 :: sl124 :: sl125 :: sl126 :: sl127 :: sl128 :: sl129 :: sl130 :: sl131 :: sl132 :: sl133 :: sl134 :: sl135 :: sl136 :: sl137 :: sl138 :: sl139 :: sl140 :: sl141 :: sl142 :: sl143 :: sl144 :: sl145 :: sl146 :: sl147 :: sl148 :: sl149 :: sl150 :: sl151 :: sl152 :: sl153 :: sl154 :: sl155 :: sl156 :: sl157 :: sl158 :: sl159 :: sl160 :: sl161 :: sl162 :: sl163 :: sl164 :: sl165 :: sl166 :: sl167 :: sl168 :: sl169 :: sl170 :: sl171 :: sl172 :: sl173 :: sl174 :: sl175 :: sl176 :: sl177 :: sl178 :: sl179 :: sl180 :: sl181 :: sl182 :: sl183 :: sl184 :: sl185 :: sl186 :: sl187 :: sl188 :: sl189 :: sl190 :: sl191 :: sl192 :: sl193 :: sl194 :: sl195 :: sl196 :: sl197 :: sl198 :: (.int .i64 T) :: v200 :: v201 :: v202 :: v203 :: v204 :: v205 :: v206 :: v207 :: v208 :: v209 :: v210 :: v211 :: v212 :: v213 :: v214 :: v215 :: v216 :: v217 :: v218 :: v219 :: v220 :: v221 :: v222 :: v223 :: v224 :: v225 :: v226 :: v227 :: v228 :: v229 :: v230 :: v231 :: v232 :: v233 :: v234 :: v235 :: v236 :: v237 :: v238 :: v239 :: v240 :: v241 :: v242 :: v243 :: v244 :: v245 :: v246 :: v247 :: v248 :: v249 :: v250 :: v251 :: v252 :: v253 :: v254 :: v255 :: v256 :: v257 :: v258 :: v259 :: v260 :: v261 :: v262 :: v263 :: v264 :: v265 :: v266 :: v267 :: v268 :: v269 :: v270 :: v271 :: v272 :: v273 :: v274 :: v275 :: v276 :: v277 :: v278 :: v279 :: v280 :: v281 :: v282 :: v283 :: sl284 :: []), []⟩ W') :
    Cd.wp Tryz.prog (Exit.then K' Q') ⟨List.toArray (sl0 :: sl1 :: (.slice sa subs.length sc) :: sl3 :: sl4 :: (.int .i64 each) :: sl6 :: sl7 :: sl8 :: sl9 :: sl10 :: sl11 :: sl12 :: sl13 :: sl14 :: sl15 :: (.int .i64 n) :: (.pointer (some ⟨b, 0, none⟩)) :: sl18 :: (.pointer (some ⟨c, 0, none⟩)) :: sl20 :: sl21 :: (.slice (some ⟨gg, 0, none⟩) (gk + 1) gc) :: sl23 :: (wv) :: (.int .i64 q0) :: sl26 :: (.pointer (some ⟨ab, 0, none⟩)) :: sl28 :: sl29 :: sl30 :: sl31 :: sl32 :: sl33 :: sl34 :: sl35 :: sl36 :: sl37 :: sl38 :: sl39 :: sl40 :: sl41 :: sl42 :: sl43 :: sl44 :: sl45 :: sl46 :: sl47 :: sl48 :: sl49 :: sl50 :: sl51 :: sl52 :: sl53 :: sl54 :: sl55 :: sl56 :: sl57 :: sl58 :: sl59 :: sl60 :: sl61 :: sl62 :: sl63 :: sl64 :: sl65 :: sl66 :: sl67 :: sl68 :: sl69 :: sl70 :: sl71 :: sl72 :: sl73 :: sl74 :: sl75 :: sl76 :: sl77 :: sl78 :: sl79 :: sl80 :: sl81 :: sl82 :: sl83 :: sl84 :: sl85 :: sl86 :: sl87 :: sl88 :: sl89 :: sl90 :: sl91 :: sl92 :: sl93 :: sl94 :: sl95 :: sl96 :: sl97 :: sl98 :: sl99 :: sl100 :: sl101 :: sl102 :: sl103 :: sl104 :: sl105 :: sl106 :: sl107 :: sl108 :: sl109 :: sl110 :: sl111 :: sl112 :: sl113 :: sl114 :: sl115 :: sl116 :: sl117 :: sl118 :: sl119 :: sl120 :: sl121 :: sl122 :: sl123 :: sl124 :: sl125 :: sl126 :: sl127 :: sl128 :: sl129 :: sl130 :: sl131 :: sl132 :: sl133 :: sl134 :: sl135 :: sl136 :: sl137 :: sl138 :: sl139 :: sl140 :: sl141 :: sl142 :: sl143 :: sl144 :: sl145 :: sl146 :: sl147 :: sl148 :: sl149 :: sl150 :: sl151 :: sl152 :: sl153 :: sl154 :: sl155 :: sl156 :: sl157 :: sl158 :: sl159 :: sl160 :: sl161 :: sl162 :: sl163 :: sl164 :: sl165 :: sl166 :: sl167 :: sl168 :: sl169 :: sl170 :: sl171 :: sl172 :: sl173 :: sl174 :: sl175 :: sl176 :: sl177 :: sl178 :: sl179 :: sl180 :: sl181 :: sl182 :: sl183 :: sl184 :: sl185 :: sl186 :: sl187 :: sl188 :: sl189 :: sl190 :: sl191 :: sl192 :: sl193 :: sl194 :: sl195 :: sl196 :: sl197 :: sl198 :: (.int .i64 T) :: (.int .i64 0) :: sl201 :: sl202 :: sl203 :: sl204 :: sl205 :: sl206 :: sl207 :: sl208 :: sl209 :: sl210 :: sl211 :: sl212 :: sl213 :: sl214 :: sl215 :: sl216 :: sl217 :: sl218 :: sl219 :: sl220 :: sl221 :: sl222 :: sl223 :: sl224 :: sl225 :: sl226 :: sl227 :: sl228 :: sl229 :: sl230 :: sl231 :: sl232 :: sl233 :: sl234 :: sl235 :: sl236 :: sl237 :: sl238 :: sl239 :: sl240 :: sl241 :: sl242 :: sl243 :: sl244 :: sl245 :: sl246 :: sl247 :: sl248 :: sl249 :: sl250 :: sl251 :: sl252 :: sl253 :: sl254 :: sl255 :: sl256 :: sl257 :: sl258 :: sl259 :: sl260 :: sl261 :: sl262 :: sl263 :: sl264 :: sl265 :: sl266 :: sl267 :: sl268 :: sl269 :: sl270 :: sl271 :: sl272 :: sl273 :: sl274 :: sl275 :: sl276 :: sl277 :: sl278 :: sl279 :: sl280 :: sl281 :: sl282 :: sl283 :: sl284 :: []), []⟩ ws := by
  subst hC
  conv => arg 2; whnf
  go_cut [24, 25] from 99999 (fun v24 v25 W => ∃ (o' : Ou) (i' : Inn) (WG' : List Int) (q' : Nat), St w1 W b c N first CA cc gg gc gs o' i' ∧ Hid (W.heap[ab]? = some (.cells ac.toArray 69 (0, 0))) ∧ RO L S G mo o' ∧ RI L WG' subs each (max (each - (q' : Int)) 0) (M + 2 * (T : Int)) i' ∧ Src w1 CA first v24 WG' ∧ fitA L WG' = true ∧ v25 = .int .i64 q' ∧ q' ≤ q0 + T)
  case rest => exact hK _ _ _ _ _ _ _ _ _ _ _ _ _ _ _ _ _ _ _ _ _ _ _ _ _ _ _ _ _ _ _ _ _ _ _ _ _ _ _ _ _ _ _ _ _ _ _ _ _ _ _ _ _ _ _ _ _ _ _ _ _ _ _ _ _ _ _ _ _ _ _ _ _ _ _ _ _ _ _ _ _ _ _ _ _ _ _ _ _ _ _ _ _ _ _ _ _ _ _ _ _ hcut
  case first =>
    clear hK
    obtain ⟨O, I, hO, aO, hI, aI, OC, OG, Q⟩ := H
    have HRO := hide ro
    have HRI : Hid (RI L WG subs each (max (each - (q0 : Int)) 0) (M + 2 * (0 : Nat) : Int) i) := hide ((by rw [← hleft]; exact ri : RI L WG subs each (max (each - (q0 : Int)) 0) M i).mono (by omega))
    have HWL := hide wl
    have HG := hide hG
    have HGl := hide hGl
    have HW := hide hW
    have HU := hide hU
    have HSW := hide hsw
    have HSU := hide hsu
    have HS := hide hS
    have HGK := hide hgk
    clear ro ri wl hG hGl hW hU hleft hS hgk
    go_wp2_with fail
    go_loopw [200, 24, 25] (fun vi wv qv W => ∃ t : Nat, t ≤ T ∧ vi = .int .i64 t ∧ ∃ (o1 : Ou) (i1 : Inn) (WG1 : List Int) (q1 : Nat), qv = .int .i64 q1 ∧ q1 ≤ q0 + t ∧ Src w1 CA first wv WG1 ∧ Hid (fitA L WG1 = true) ∧ Hid (RO L S G mo o1) ∧ Hid (RI L WG1 subs each (max (each - (q1 : Int)) 0) (M + 2 * (t : Int)) i1) ∧ Hid (W.heap[b]? = some (.cells o1.cs.toArray 40 (0, 0))) ∧ Hid (W.heap[c]? = some (.cells i1.cs.toArray 47 (0, 0))) ∧ Hid (W.heap[ab]? = some (.cells ac.toArray 69 (0, 0))) ∧ Hid (o1.Ok W) ∧ Hid (i1.Ok W) ∧ Hid (Own W N 2 1 CA cc (inRow first)) ∧ Hid (Own W N 33 1 (some ⟨gg, 0, none⟩) gc (vRow gs)) ∧ Hid (Below w1.heap.size w1 W) ∧ Hid (o1.Away (Zb b c gg)) ∧ Hid (i1.Away (Zb b c gg))) (fun vi _ _ _ => T - (intOf vi).toNat)
    case atStart => exact ⟨0, Nat.zero_le _, rfl, o, i, WG, q0, rfl, by omega, HSW.out, HW, HRO, HRI, O, I, A, hO, hI, OC, OG, Q, aO, aI⟩
    case round =>
      clear HRO HRI HW HSW hsw O I A hO hI OC OG Q aO aI
      obtain ⟨t, ht, rfl, o1, i1, WG1, q1, rfl, hq1, ⟨wa, wcp, rfl, hsw1⟩, HW, HRO, HRI, O, I, A, hO, hI, OC, OG, Q, aO, aI⟩ := hrel
      replace hsw1 := hide hsw1
      by_cases hlt : t < T
      · have hki : (t : Int) < (T : Int) := by omega
        have hr := HRO.out.right HWL.out hmo HS.out HG.out
        have C1 := hide (comTickOut_ok o1 0 wr hO.out hr (by rw [HRO.out.fill]; rfl))
        clear hr
        have HSt := hide (show o1.snd.tickE = true → o1.tkS 0 = ⟨(packF L G o1.news.l 0).toArray⟩ from fun h => by unfold Ou.tkS; rw [if_pos h, HRO.out.ly, HRO.out.G])
        have TK := hide (fun (V : Ou) (N9 : Nat) (h : o1.Tk N9 V) => HRO.out.tk h)
        have TA := hide (fun (V : Ou) (h : o1.Tk wr.heap.size V) => h.away aO.out (fun k h => by unfold Zb at h; have := heap_lt O.out; have := heap_lt I.out; have := (og_lt OG.out gn).2; omega))
        obtain ⟨sd, hsd⟩ : ∃ sd, sd = o1.tkS 0 := ⟨_, rfl⟩
        obtain ⟨sb, hsb⟩ : ∃ sb, sb = o1.snd.tickE := ⟨_, rfl⟩
        obtain ⟨nb, hnb⟩ : ∃ nb, nb = o1.news.l := ⟨_, rfl⟩
        rw [← hsd, ← hsb] at C1 HSt
        rw [← hnb] at HSt
        clear hsd hsb hnb
        have zO := heap_lt O.out
        have zI := heap_lt I.out
        have zQ := Q.out.size
        go_wp2_with (refine wpList_load_row rfl 40 (.tmp 17) (by rfl) b (by rfl) 40 o1.cs.toArray (0, 0) _ (by exact O.out) Tryz.underlying40 (by rfl) (by kernel_rfl) ?_)
        (with_reducible refine (C1.out).mono ?_)
        rintro ew1' w1' ⟨V, rfl, hV, iT, qw1'⟩
        replace O := hide (heap_below O.out qw1')
        replace I := hide (heap_below I.out qw1')
        replace A := hide (heap_below A.out qw1')
        replace hO := hide ((hO.out.next qw1'))
        replace hI := hide ((hI.out.next qw1'))
        replace OC := hide ((OC.out.grown qw1'))
        replace OG := hide ((OG.out.grown qw1'))
        replace Q := hide (below_next Q.out Q.out.size qw1')
        clear qw1'
        clear C1
        have aV := hide (TA.out V iT)
        have HR2 := hide (TK.out V _ iT)
        clear iT TA TK aO HRO
        replace hV := hide hV
        clear hO
        have X := World.alloc_heap_new w1' (.cells Ou.zero.cs.toArray 40)
        have zOx : b < w1'.heap.size := heap_lt O.out
        have zIx : c < w1'.heap.size := heap_lt I.out
        have zAx : ab < w1'.heap.size := heap_lt A.out
        have zQx : w1.heap.size ≤ w1'.heap.size := Q.out.size
        obtain ⟨w3', hw3'⟩ : ∃ wx, wx = w1'.alloc (.cells Ou.zero.cs.toArray 40) := ⟨_, rfl⟩
        have q2' := hide (show Below w1'.heap.size w1' w3' by rw [hw3']; exact (Below.refl _ _).alloc (Nat.le_refl _) _)
        rw [← hw3'] at X
        replace X := hide X
        have Tw4' := hide (show (w1'.alloc (.cells Ou.zero.cs.toArray 40)).there w1'.heap.size 0 26 by rw [← hw3']; exact there_heap (cs := Ou.zero.cs) X.out)
        go_wp2_with (refine wpList_store_hid (by rfl) 40 (.tmp 35) (.tmp 205) (by rfl) w1'.heap.size 0 V.cs (by rfl) (by rfl) (by exact Tw4'.out) (by kernel_rfl) (by simp [Value.oneCell', Ou.cs, Fv.v, Iv.v, Bv.v]) ?_)
        intro w4' ew4'
        replace ew4' : Hid (w4' = w3'.setCells w1'.heap.size 0 V.cs) := by rw [hw3']; exact ew4'
        replace X := hide (show w4'.heap[w1'.heap.size]? = some (.cells V.cs.toArray 40 (0, 0)) by rw [ew4'.out]; exact whole_heap V.cs (xs := Ou.zero.cs) X.out rfl)
        replace q2' := hide (show Below w1'.heap.size w1' w4' by rw [ew4'.out]; exact q2'.out.trans (below_setCells _ _ _ (by omega)))
        clear ew4' Tw4' hw3'
        replace O := hide (heap_below O.out q2'.out)
        replace I := hide (heap_below I.out q2'.out)
        replace A := hide (heap_below A.out q2'.out)
        replace hI := hide ((hI.out.next q2'.out))
        replace OC := hide ((OC.out.grown q2'.out))
        replace OG := hide ((OG.out.grown q2'.out))
        replace hV := hide ((hV.out.next q2'.out))
        replace Q := hide (below_next Q.out Q.out.size q2'.out)
        clear q2'
        generalize w1'.heap.size = x at *
        have Tw5' := hide (show World.there _ b 0 26 from there_heap (cs := o1.cs) O.out)
        go_wp2_with (first | (refine wpList_load_row rfl 40 (.tmp 35) (by rfl) x (by rfl) 40 V.cs.toArray (0, 0) _ (by exact X.out) Tryz.underlying40 (by rfl) (by kernel_rfl) ?_) | (refine wpList_store_hid (by rfl) 40 (.tmp 17) (.tmp 211) (by rfl) b 0 V.cs (by rfl) (by rfl) (by exact Tw5'.out) (by kernel_rfl) (by simp [Value.oneCell', Ou.cs, Fv.v, Iv.v, Bv.v]) ?_))
        intro w5' ew5'
        replace I := hide (show w5'.heap[c]? = some (.cells i1.cs.toArray 47 (0, 0)) by rw [ew5'.out]; exact other_heap (by omega) _ _ _ I.out)
        replace A := hide (show w5'.heap[ab]? = some (.cells ac.toArray 69 (0, 0)) by rw [ew5'.out]; exact other_heap (by omega) _ _ _ A.out)
        replace X := hide (show w5'.heap[x]? = some (.cells V.cs.toArray 40 (0, 0)) by rw [ew5'.out]; exact other_heap (by omega) _ _ _ X.out)
        replace hI := hide (show i1.Ok w5' by rw [ew5'.out]; exact hI.out.set aI.out (show Zb b c gg _ by unfold Zb; omega) _ _)
        replace OC := hide (show Own w5' N 2 1 CA cc (inRow first) by rw [ew5'.out]; exact own_setCells (by omega) _ _ _ OC.out)
        replace OG := hide (show Own w5' N 33 1 (some ⟨gg, 0, none⟩) gc (vRow gs) by rw [ew5'.out]; exact own_setCells (by omega) _ _ _ OG.out)
        replace hV := hide (show V.Ok w5' by rw [ew5'.out]; exact hV.out.set aV.out (show Zb b c gg _ by unfold Zb; omega) _ _)
        replace Q := hide (show Below w1.heap.size w1 w5' by rw [ew5'.out]; exact Q.out.trans (below_setCells _ _ _ (by have := Q.out.size; omega)))
        replace O := hide (show w5'.heap[b]? = some (.cells V.cs.toArray 40 (0, 0)) by rw [ew5'.out]; exact whole_heap V.cs (xs := o1.cs) O.out rfl)
        clear ew5' Tw5'
        clear X 
        clear zO zI zQ
        go_upto_region 45 with fail
        go_cut [217] from 212 to 217 (fun v W => ∃ fb : Bool, v = .bool fb ∧ (fb = true → sb = true) ∧ W = w5')
        case first =>
          obtain ⟨a0, a1, a2, a3⟩ := dd_cells (a := ⟨⟨vl, va, vc⟩, gv, lo, tk⟩) (by have := A.out; rw [HAC.out] at this; exact this)
          dsimp only at a2
          clear a0 a1 a3 HSt HRI HR2 O I A hI OC OG hV Q aV aI
          cases sb <;> cases lo
          all_goals go_wp2_with fail
          all_goals go_meet
          all_goals exact ⟨_, rfl, by simp, rfl⟩
        case rest =>
        rename_i hK2 _ hK
        obtain ⟨fb, rfl, hfb, rfl⟩ := hcut
        refine hK _ _ ?_
        clear hK
        have ri := HRI.out
        refine comWhole_come w1 wc b c N first CA cc gg gc gs V i1 L G WG1 subs each (max (each - (q1 : Int)) 0) (M + 2 * (t : Int)) nb sd gk la ln lc _ _ ac ab fb HWL.out (by omega) HG.out HGl.out HW.out HU.out ri gn zbN (by rfl) ⟨O, I, hV, aV, hI, aI, OC, OG, Q⟩ A zab HLV (hide (fun h => HSt.out (hfb h))) HGK.out zb zbc zcN (by intro _ _ d9 _ _ h; exact hQ _ _ _ _ _ h) ?_
        intro u14 u24 u25 u39 u40 u41 u218 u219 u220 u221 u222 u223 u224 u225 u226 u227 u228 u229 u230 u231 u232 u233 u234 u235 u236 u237 wd hcut
        clear ri HSt hfb
        have hfW := HW
        have hsW := hsw1
        clear O I A hI OC OG hV Q aV aI HW hsw1
        obtain ⟨i2, H2, A, hcase⟩ := hcut
        obtain ⟨O, I, hV, aV, hI, aI, OC, OG, Q⟩ := H2
        refine hK2 _ _ ?_
        clear hK2
        have hN : ∃ (WG2 : List Int) (q2 : Nat) (wa2 : Option Addr) (wc2 : Nat), u24 = .slice wa2 WG2.length wc2 ∧ u25 = .int .i64 q2 ∧ q2 ≤ q0 + t ∧ Hid (InR w1 w1.heap.size wa2 WG2 ∨ wa2 = CA ∧ WG2 = first) ∧ Hid (fitA L WG2 = true) ∧ Hid (RI L WG2 subs each (max (each - (q2 : Int)) 0) (M + 2 * (t : Int) + 1) i2) := by
          rcases hcase with ⟨rfl, h1, h2⟩ | ⟨h3, h1, h2⟩
          · exact ⟨WG1, q1, wa, wcp, h1, h2, hq1, hsW, hfW, hide (HRI.out.mono (by omega))⟩
          · obtain ⟨la2, lc2, he, hs⟩ := HSL.out
            cases he
            exact ⟨G, 0, _, _, h1, h2, by omega, hide hs, HG, hide (by have e : max (each - ((0 : Nat) : Int)) 0 = each := by omega
                                                                       rw [e]; exact h3)⟩
        clear hcase hsW hfW HRI hq1
        obtain ⟨WG2, q2, wa2, wc2, rfl, rfl, hq2, hsw2, HW2, HRI⟩ := hN
        have hr := HRI.out.right HWL.out (by omega) HW2.out HU.out
        have C1 := hide (comTickIn_ok i2 wd hI.out hr (by have := HRI.out.t; omega))
        clear hr
        have TN := hide (fun (V : Inn) (N9 : Nat) (h : i2.Tn N9 V) => HRI.out.tn h)
        have TA := hide (fun (V : Inn) (h : i2.Tn wd.heap.size V) => h.away aI.out (fun k h => by unfold Zb at h; have := heap_lt O.out; have := heap_lt I.out; have := (og_lt OG.out gn).2; omega))
        have zO := heap_lt O.out
        have zI := heap_lt I.out
        have zQ := Q.out.size
        obtain ⟨te, hte⟩ : ∃ te, te = i2.w.tickE := ⟨_, rfl⟩
        rw [← hte] at C1 TN
        clear hte HRI
        go_wp2_with (refine wpList_load_row rfl 47 (.tmp 19) (by rfl) c (by rfl) 47 i2.cs.toArray (0, 0) _ (by exact I.out) Tryz.underlying47 (by rfl) (by kernel_rfl) ?_)
        (with_reducible refine (C1.out).mono ?_)
        rintro ew6' w6' ⟨V2, rfl, hV2, iT, qw6'⟩
        replace O := hide (heap_below O.out qw6')
        replace I := hide (heap_below I.out qw6')
        replace A := hide (heap_below A.out qw6')
        replace hI := hide ((hI.out.next qw6'))
        replace OC := hide ((OC.out.grown qw6'))
        replace OG := hide ((OG.out.grown qw6'))
        replace hV := hide ((hV.out.next qw6'))
        replace Q := hide (below_next Q.out Q.out.size qw6')
        clear qw6'
        clear C1
        have aV2 := hide (TA.out V2 iT)
        obtain ⟨hte, hri⟩ := TN.out V2 _ iT
        replace hte := hide hte
        replace hri := hide hri
        clear iT TA TN aI
        replace hV2 := hide hV2
        clear hI
        have X := World.alloc_heap_new w6' (.cells Inn.zero.cs.toArray 47)
        have zOx2 : b < w6'.heap.size := heap_lt O.out
        have zIx2 : c < w6'.heap.size := heap_lt I.out
        have zAx2 : ab < w6'.heap.size := heap_lt A.out
        have zQx2 : w1.heap.size ≤ w6'.heap.size := Q.out.size
        obtain ⟨w8', hw8'⟩ : ∃ wx, wx = w6'.alloc (.cells Inn.zero.cs.toArray 47) := ⟨_, rfl⟩
        have q7' := hide (show Below w6'.heap.size w6' w8' by rw [hw8']; exact (Below.refl _ _).alloc (Nat.le_refl _) _)
        rw [← hw8'] at X
        replace X := hide X
        have Tw9' := hide (show (w6'.alloc (.cells Inn.zero.cs.toArray 47)).there w6'.heap.size 0 13 by rw [← hw8']; exact there_heap (cs := Inn.zero.cs) X.out)
        go_wp2_with (refine wpList_store_hid (by rfl) 47 (.tmp 42) (.tmp 241) (by rfl) w6'.heap.size 0 V2.cs (by rfl) (by rfl) (by exact Tw9'.out) (by kernel_rfl) (by simp [Value.oneCell', Inn.cs, Fv.v, Iv.v]) ?_)
        intro w9' ew9'
        replace ew9' : Hid (w9' = w8'.setCells w6'.heap.size 0 V2.cs) := by rw [hw8']; exact ew9'
        replace X := hide (show w9'.heap[w6'.heap.size]? = some (.cells V2.cs.toArray 47 (0, 0)) by rw [ew9'.out]; exact whole_heap V2.cs (xs := Inn.zero.cs) X.out rfl)
        replace q7' := hide (show Below w6'.heap.size w6' w9' by rw [ew9'.out]; exact q7'.out.trans (below_setCells _ _ _ (by omega)))
        clear ew9' Tw9' hw8'
        replace O := hide (heap_below O.out q7'.out)
        replace I := hide (heap_below I.out q7'.out)
        replace A := hide (heap_below A.out q7'.out)
        replace OC := hide ((OC.out.grown q7'.out))
        replace OG := hide ((OG.out.grown q7'.out))
        replace hV := hide ((hV.out.next q7'.out))
        replace hV2 := hide ((hV2.out.next q7'.out))
        replace Q := hide (below_next Q.out Q.out.size q7'.out)
        clear q7'
        generalize w6'.heap.size = x2 at *
        have hwr : IntKind.i64.wrap ((q2 : Int) + 1) = (q2 : Int) + 1 := IntWalk.i64_in _ (by omega)
        by_cases hq : (q2 : Int) + 1 = each
        · have e1 : ((q2 : Int) + 1 == each) = true := by rw [beq_iff_eq]; exact hq
          have e2 : (0 : Int) < each := by omega
          obtain rfl : te = true := by rw [hte.out]; exact decide_eq_true (by omega)
          replace hq := hide hq
          clear hte
          skip
          have Tw10' := hide (show World.there _ c 0 13 from there_heap (cs := i2.cs) I.out)
          go_wp2_with (first | (refine wpList_load_row rfl 47 (.tmp 42) (by rfl) x2 (by rfl) 47 V2.cs.toArray (0, 0) _ (by exact X.out) Tryz.underlying47 (by rfl) (by kernel_rfl) ?_) | (refine wpList_store_hid (by rfl) 47 (.tmp 19) (.tmp 259) (by rfl) c 0 V2.cs (by rfl) (by rfl) (by exact Tw10'.out) (by kernel_rfl) (by simp [Value.oneCell', Inn.cs, Fv.v, Iv.v]) ?_))
          intro w10' ew10'
          replace O := hide (show w10'.heap[b]? = some (.cells V.cs.toArray 40 (0, 0)) by rw [ew10'.out]; exact other_heap (by omega) _ _ _ O.out)
          replace A := hide (show w10'.heap[ab]? = some (.cells ac.toArray 69 (0, 0)) by rw [ew10'.out]; exact other_heap (by omega) _ _ _ A.out)
          replace X := hide (show w10'.heap[x2]? = some (.cells V2.cs.toArray 47 (0, 0)) by rw [ew10'.out]; exact other_heap (by omega) _ _ _ X.out)
          replace OC := hide (show Own w10' N 2 1 CA cc (inRow first) by rw [ew10'.out]; exact own_setCells (by omega) _ _ _ OC.out)
          replace OG := hide (show Own w10' N 33 1 (some ⟨gg, 0, none⟩) gc (vRow gs) by rw [ew10'.out]; exact own_setCells (by omega) _ _ _ OG.out)
          replace hV := hide (show V.Ok w10' by rw [ew10'.out]; exact hV.out.set aV.out (show Zb b c gg _ by unfold Zb; omega) _ _)
          replace hV2 := hide (show V2.Ok w10' by rw [ew10'.out]; exact hV2.out.set aV2.out (show Zb b c gg _ by unfold Zb; omega) _ _)
          replace Q := hide (show Below w1.heap.size w1 w10' by rw [ew10'.out]; exact Q.out.trans (below_setCells _ _ _ (by have := Q.out.size; omega)))
          replace I := hide (show w10'.heap[c]? = some (.cells V2.cs.toArray 47 (0, 0)) by rw [ew10'.out]; exact whole_heap V2.cs (xs := i2.cs) I.out rfl)
          clear ew10' Tw10'
          clear X 
          go_upto_region 57 with fail
          go_upto_block 8 with fail
          have RIn : Hid (RI L subs subs each (max (each - ((q2 + 1 : Nat) : Int)) 0) (M + 2 * ((t + 1 : Nat) : Int)) V2) := hide (by
            have h := hri.out
            have e : (if max (each - (q2 : Int)) 0 = 0 then (0 : Int) else max (each - (q2 : Int)) 0 - 1) = max (each - ((q2 + 1 : Nat) : Int)) 0 := by split <;> omega
            rw [e, if_pos (by have := hq.out; omega)] at h
            exact h.mono (by omega))
          have hr := RIn.out.right HWL.out (by omega) HU.out HU.out
          have hGn : V2.G.l = subs := RIn.out.G
          have hln : (subs).length = n := (fitA_iff.1 HU.out).1.trans HN.out.symm
          obtain ⟨sa2, sc2, hes, hsrc⟩ := HSU.out
          cases hes
          have hrd : InR w10' w10'.heap.size _ subs := (show InR _ _ _ subs from by
            rcases hsrc with h | ⟨h1, h2⟩
            · exact Rd.next h Q.out Q.out.size
            · subst h2; rw [h1]; exact inOwn_rd OC.out)
          rw [← hGn] at hrd
          refine wp_as_then ?_
          refine comWhole_reads w10' c n _ sc sa V2 hr (by rw [hGn, hln]) (by rw [hGn]) hn16 (by rfl) I hV2 (hide hrd) ?hq ?_
          case hq => intro _ _ d9 _ _ h; exact hQ _ _ _ _ _ h
          intro u14 u45 u46 u47 u263 u264 u265 u266 u267 u268 u269 u270 u271 u272 u273 u274 u275 u276 u277 u278 u279 u280 u281 u282 we qe
          clear hr hGn hln hrd
          replace O := hide (heap_below O.out qe)
          replace I := hide (heap_below I.out qe)
          replace A := hide (heap_below A.out qe)
          replace OC := hide ((OC.out.grown qe))
          replace OG := hide ((OG.out.grown qe))
          replace hV := hide ((hV.out.next qe))
          replace hV2 := hide ((hV2.out.next qe))
          replace Q := hide (below_next Q.out Q.out.size qe)
          clear qe
          have hK7 := ‹∀ (a : Act) (w : World), Code.wp _ _ _ a w → _›
          refine hK7 _ _ ?_
          clear hK7
          go_wp2_with fail
          go_roundw
          case rel => exact ⟨t + 1, by omega, by go_num, V, V2, subs, q2 + 1, by go_num, by omega, ⟨_, _, rfl, hsrc⟩, HU, HR2, RIn, O, I, A, hV, hV2, OC, OG, Q, aV, aV2⟩
          case measure => simp [intOf]; omega
        · have e1 : ((q2 : Int) + 1 == each) = false := by rw [beq_eq_false_iff_ne]; exact hq
          obtain rfl : te = false := by rw [hte.out]; exact decide_eq_false (by omega)
          replace hq := hide hq
          clear hte
          by_cases e2 : (0 : Int) < each
          · skip
            have Tw11' := hide (show World.there _ c 0 13 from there_heap (cs := i2.cs) I.out)
            go_wp2_with (first | (refine wpList_load_row rfl 47 (.tmp 42) (by rfl) x2 (by rfl) 47 V2.cs.toArray (0, 0) _ (by exact X.out) Tryz.underlying47 (by rfl) (by kernel_rfl) ?_) | (refine wpList_store_hid (by rfl) 47 (.tmp 19) (.tmp 259) (by rfl) c 0 V2.cs (by rfl) (by rfl) (by exact Tw11'.out) (by kernel_rfl) (by simp [Value.oneCell', Inn.cs, Fv.v, Iv.v]) ?_))
            intro w11' ew11'
            replace O := hide (show w11'.heap[b]? = some (.cells V.cs.toArray 40 (0, 0)) by rw [ew11'.out]; exact other_heap (by omega) _ _ _ O.out)
            replace A := hide (show w11'.heap[ab]? = some (.cells ac.toArray 69 (0, 0)) by rw [ew11'.out]; exact other_heap (by omega) _ _ _ A.out)
            replace X := hide (show w11'.heap[x2]? = some (.cells V2.cs.toArray 47 (0, 0)) by rw [ew11'.out]; exact other_heap (by omega) _ _ _ X.out)
            replace OC := hide (show Own w11' N 2 1 CA cc (inRow first) by rw [ew11'.out]; exact own_setCells (by omega) _ _ _ OC.out)
            replace OG := hide (show Own w11' N 33 1 (some ⟨gg, 0, none⟩) gc (vRow gs) by rw [ew11'.out]; exact own_setCells (by omega) _ _ _ OG.out)
            replace hV := hide (show V.Ok w11' by rw [ew11'.out]; exact hV.out.set aV.out (show Zb b c gg _ by unfold Zb; omega) _ _)
            replace hV2 := hide (show V2.Ok w11' by rw [ew11'.out]; exact hV2.out.set aV2.out (show Zb b c gg _ by unfold Zb; omega) _ _)
            replace Q := hide (show Below w1.heap.size w1 w11' by rw [ew11'.out]; exact Q.out.trans (below_setCells _ _ _ (by have := Q.out.size; omega)))
            replace I := hide (show w11'.heap[c]? = some (.cells V2.cs.toArray 47 (0, 0)) by rw [ew11'.out]; exact whole_heap V2.cs (xs := i2.cs) I.out rfl)
            clear ew11' Tw11'
            clear X 
            go_upto_block 8 with fail
            have RIn : Hid (RI L WG2 subs each (max (each - ((q2 + 1 : Nat) : Int)) 0) (M + 2 * ((t + 1 : Nat) : Int)) V2) := hide (by
              have h := hri.out
              have e : (if max (each - (q2 : Int)) 0 = 0 then (0 : Int) else max (each - (q2 : Int)) 0 - 1) = max (each - ((q2 + 1 : Nat) : Int)) 0 := by split <;> omega
              rw [e, if_neg (by have := hq.out; omega)] at h
              exact h.mono (by omega))
            have hr := RIn.out.right HWL.out (by omega) HW2.out HU.out
            have hGn : V2.G.l = WG2 := RIn.out.G
            have hln : (WG2).length = n := (fitA_iff.1 HW2.out).1.trans HN.out.symm
            have hrd : InR w11' w11'.heap.size wa2 WG2 := (show InR _ _ _ WG2 from by
              rcases hsw2.out with h | ⟨h1, h2⟩
              · exact Rd.next h Q.out Q.out.size
              · subst h2; rw [h1]; exact inOwn_rd OC.out)
            rw [← hGn] at hrd
            refine wp_as_then ?_
            refine comWhole_reads w11' c n _ wc2 wa2 V2 hr (by rw [hGn, hln]) (by rw [hGn]) hn16 (by rfl) I hV2 (hide hrd) ?hq ?_
            case hq => intro _ _ d9 _ _ h; exact hQ _ _ _ _ _ h
            intro u14 u45 u46 u47 u263 u264 u265 u266 u267 u268 u269 u270 u271 u272 u273 u274 u275 u276 u277 u278 u279 u280 u281 u282 we qe
            clear hr hGn hln hrd
            replace O := hide (heap_below O.out qe)
            replace I := hide (heap_below I.out qe)
            replace A := hide (heap_below A.out qe)
            replace OC := hide ((OC.out.grown qe))
            replace OG := hide ((OG.out.grown qe))
            replace hV := hide ((hV.out.next qe))
            replace hV2 := hide ((hV2.out.next qe))
            replace Q := hide (below_next Q.out Q.out.size qe)
            clear qe
            have hK7 := ‹∀ (a : Act) (w : World), Code.wp _ _ _ a w → _›
            refine hK7 _ _ ?_
            clear hK7
            go_wp2_with fail
            go_roundw
            case rel => exact ⟨t + 1, by omega, by go_num, V, V2, WG2, q2 + 1, by go_num, by omega, ⟨_, _, rfl, hsw2.out⟩, HW2, HR2, RIn, O, I, A, hV, hV2, OC, OG, Q, aV, aV2⟩
            case measure => simp [intOf]; omega
          · skip
            have Tw12' := hide (show World.there _ c 0 13 from there_heap (cs := i2.cs) I.out)
            go_wp2_with (first | (refine wpList_load_row rfl 47 (.tmp 42) (by rfl) x2 (by rfl) 47 V2.cs.toArray (0, 0) _ (by exact X.out) Tryz.underlying47 (by rfl) (by kernel_rfl) ?_) | (refine wpList_store_hid (by rfl) 47 (.tmp 19) (.tmp 259) (by rfl) c 0 V2.cs (by rfl) (by rfl) (by exact Tw12'.out) (by kernel_rfl) (by simp [Value.oneCell', Inn.cs, Fv.v, Iv.v]) ?_))
            intro w12' ew12'
            replace O := hide (show w12'.heap[b]? = some (.cells V.cs.toArray 40 (0, 0)) by rw [ew12'.out]; exact other_heap (by omega) _ _ _ O.out)
            replace A := hide (show w12'.heap[ab]? = some (.cells ac.toArray 69 (0, 0)) by rw [ew12'.out]; exact other_heap (by omega) _ _ _ A.out)
            replace X := hide (show w12'.heap[x2]? = some (.cells V2.cs.toArray 47 (0, 0)) by rw [ew12'.out]; exact other_heap (by omega) _ _ _ X.out)
            replace OC := hide (show Own w12' N 2 1 CA cc (inRow first) by rw [ew12'.out]; exact own_setCells (by omega) _ _ _ OC.out)
            replace OG := hide (show Own w12' N 33 1 (some ⟨gg, 0, none⟩) gc (vRow gs) by rw [ew12'.out]; exact own_setCells (by omega) _ _ _ OG.out)
            replace hV := hide (show V.Ok w12' by rw [ew12'.out]; exact hV.out.set aV.out (show Zb b c gg _ by unfold Zb; omega) _ _)
            replace hV2 := hide (show V2.Ok w12' by rw [ew12'.out]; exact hV2.out.set aV2.out (show Zb b c gg _ by unfold Zb; omega) _ _)
            replace Q := hide (show Below w1.heap.size w1 w12' by rw [ew12'.out]; exact Q.out.trans (below_setCells _ _ _ (by have := Q.out.size; omega)))
            replace I := hide (show w12'.heap[c]? = some (.cells V2.cs.toArray 47 (0, 0)) by rw [ew12'.out]; exact whole_heap V2.cs (xs := i2.cs) I.out rfl)
            clear ew12' Tw12'
            clear X 
            go_upto_block 8 with fail
            have RIn : Hid (RI L WG2 subs each (max (each - ((q2 + 1 : Nat) : Int)) 0) (M + 2 * ((t + 1 : Nat) : Int)) V2) := hide (by
              have h := hri.out
              have e : (if max (each - (q2 : Int)) 0 = 0 then (0 : Int) else max (each - (q2 : Int)) 0 - 1) = max (each - ((q2 + 1 : Nat) : Int)) 0 := by split <;> omega
              rw [e, if_neg (by have := hq.out; omega)] at h
              exact h.mono (by omega))
            have hr := RIn.out.right HWL.out (by omega) HW2.out HU.out
            have hGn : V2.G.l = WG2 := RIn.out.G
            have hln : (WG2).length = n := (fitA_iff.1 HW2.out).1.trans HN.out.symm
            have hrd : InR w12' w12'.heap.size wa2 WG2 := (show InR _ _ _ WG2 from by
              rcases hsw2.out with h | ⟨h1, h2⟩
              · exact Rd.next h Q.out Q.out.size
              · subst h2; rw [h1]; exact inOwn_rd OC.out)
            rw [← hGn] at hrd
            refine wp_as_then ?_
            refine comWhole_reads w12' c n _ wc2 wa2 V2 hr (by rw [hGn, hln]) (by rw [hGn]) hn16 (by rfl) I hV2 (hide hrd) ?hq ?_
            case hq => intro _ _ d9 _ _ h; exact hQ _ _ _ _ _ h
            intro u14 u45 u46 u47 u263 u264 u265 u266 u267 u268 u269 u270 u271 u272 u273 u274 u275 u276 u277 u278 u279 u280 u281 u282 we qe
            clear hr hGn hln hrd
            replace O := hide (heap_below O.out qe)
            replace I := hide (heap_below I.out qe)
            replace A := hide (heap_below A.out qe)
            replace OC := hide ((OC.out.grown qe))
            replace OG := hide ((OG.out.grown qe))
            replace hV := hide ((hV.out.next qe))
            replace hV2 := hide ((hV2.out.next qe))
            replace Q := hide (below_next Q.out Q.out.size qe)
            clear qe
            have hK7 := ‹∀ (a : Act) (w : World), Code.wp _ _ _ a w → _›
            refine hK7 _ _ ?_
            clear hK7
            go_wp2_with fail
            go_roundw
            case rel => exact ⟨t + 1, by omega, by go_num, V, V2, WG2, q2 + 1, by go_num, by omega, ⟨_, _, rfl, hsw2.out⟩, HW2, HR2, RIn, O, I, A, hV, hV2, OC, OG, Q, aV, aV2⟩
            case measure => simp [intOf]; omega
      · obtain rfl : t = T := by omega
        have hki : ¬ (t : Int) < (t : Int) := by omega
        go_wp2_with fail
        go_meet
        exact ⟨o1, i1, WG1, q1, ⟨O, I, hO, aO, hI, aI, OC, OG, Q⟩, A, HRO.out, HRI.out.mono (by omega), ⟨_, _, rfl, hsw1.out⟩, HW.out, rfl, by omega⟩
end Go.Proofs.YtnhegnneohpkaaaGreat
