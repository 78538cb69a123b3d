/- Parts of the walk of ComWhole: the giving, what comes, the reads. -/
import Derived.Test.YtnhegnneohpkaaaGreatMgApL
namespace Go.Proofs.YtnhegnneohpkaaaGreat
open Go.ChangeShapes Go.WideShapes Go.ChangeAt Go.RowKit
open CM PD SG

set_option maxRecDepth 100000 in
set_option maxHeartbeats 32000000 in
theorem comWhole_give (w1 ws : World) (b c N : Nat) (first : List Int) (CA : Option Addr) (cc gg gc : Nat) (gs : List Value) (o : Ou) (i : Inn) (L : Ly) (S G : List Int) (m : Int) (na : Option Addr) (nn nc : Nat) (ac : List Value) (ab : Nat) (fb : Bool) (wl : WL L) (hm : m < 1099511627776) (hS : fitA L S = true) (hG : fitA L G = true) (ro : RO L S G m o) (gl : gs.length ≤ 30) (gn : 0 < gs.length) (zbN : b < N) {sl0 sl1 sl2 sl3 sl4 sl5 sl6 sl7 sl8 sl9 sl10 sl11 sl12 sl13 sl14 sl15 sl16 sl18 sl19 sl20 sl21 sl24 sl25 sl26 sl27 sl28 sl29 sl30 sl31 sl32 sl33 sl34 sl35 sl36 sl37 sl38 sl39 sl40 sl41 sl42 sl43 sl44 sl45 sl46 sl47 sl48 sl49 sl50 sl51 sl52 sl53 sl54 sl55 sl56 sl57 sl58 sl59 sl60 sl61 sl62 sl63 sl64 sl65 sl66 sl67 sl68 sl69 sl70 sl71 sl72 sl73 sl74 sl75 sl76 sl77 sl78 sl79 sl80 sl81 sl82 sl83 sl84 sl85 sl86 sl87 sl88 sl89 sl90 sl91 sl92 sl93 sl94 sl95 sl96 sl97 sl98 sl99 sl100 sl101 sl102 sl103 sl104 sl105 sl106 sl107 sl108 sl109 sl110 sl111 sl112 sl113 sl114 sl115 sl116 sl117 sl118 sl119 sl120 sl121 sl122 sl123 sl124 sl125 sl126 sl127 sl128 sl129 sl130 sl131 sl132 sl133 sl134 sl135 sl136 sl137 sl138 sl139 sl140 sl141 sl142 sl143 sl144 sl145 sl146 sl147 sl148 sl149 sl150 sl151 sl152 sl153 sl154 sl155 sl156 sl157 sl158 sl159 sl160 sl161 sl162 sl163 sl164 sl165 sl166 sl167 sl168 sl169 sl170 sl171 sl172 sl173 sl174 sl175 sl176 sl177 sl178 sl179 sl180 sl182 sl183 sl184 sl185 sl186 sl187 sl188 sl189 sl190 sl191 sl192 sl193 sl194 sl195 sl196 sl197 sl198 sl199 sl200 sl201 sl202 sl203 sl204 sl205 sl206 sl207 sl208 sl209 sl210 sl211 sl212 sl213 sl214 sl215 sl216 sl217 sl218 sl219 sl220 sl221 sl222 sl223 sl224 sl225 sl226 sl227 sl228 sl229 sl230 sl231 sl232 sl233 sl234 sl235 sl236 sl237 sl238 sl239 sl240 sl241 sl242 sl243 sl244 sl245 sl246 sl247 sl248 sl249 sl250 sl251 sl252 sl253 sl254 sl255 sl256 sl257 sl258 sl259 sl260 sl261 sl262 sl263 sl264 sl265 sl266 sl267 sl268 sl269 sl270 sl271 sl272 sl273 sl274 sl275 sl276 sl277 sl278 sl279 sl280 sl281 sl282 sl283 sl284 : Value} {K' : Act → World → Prop} {Q' : Exit → Act → World → Prop} {Cd : Code} (hC : Cd = partC Tryz.f4.body (isCond 181))
    (H : St w1 ws b c N first CA cc gg gc gs o i)
    (A : Hid (ws.heap[ab]? = some (.cells ac.toArray 69 (0, 0))))
    (zab : c < ab)
    (zb : w1.heap.size ≤ b)
    (zbc : b < c)
    (zcN : c < N)
    (hQ : ∀ c (a : Act) d v w, Q' (.panic c) (a.put d v) w → Q' (.panic c) a w)
    (hK : ∀ (v14 v22 v32 v33 v34 v182 v183 v184 v185 v186 v187 v188 v189 v190 v191 v192 v193 v194 : Value) (W' : World), (fun v22 W => ∃ (o' : Ou) (gg' gc' : Nat) (gs' : List Value) (G' : List Int), St w1 W b c N first CA cc gg' gc' gs' o' i ∧ Hid (W.heap[ab]? = some (.cells ac.toArray 69 (0, 0))) ∧ RO L S G' (m + 1) o' ∧ v22 = .slice (some ⟨gg', 0, none⟩) gs'.length gc' ∧ (gs' = gs ∧ G' = G ∨ gs' = gs ++ [.slice na nn nc] ∧ G' = S)) v22 W' → K' ⟨List.toArray (sl0 :: sl1 :: sl2 :: sl3 :: sl4 :: sl5 :: sl6 :: sl7 :: sl8 :: sl9 :: sl10 :: sl11 :: sl12 :: sl13 :: v14 :: sl15 :: sl16 :: (.pointer (some ⟨b, 0, none⟩)) :: sl18 :: sl19 :: sl20 :: sl21 :: v22 :: (.slice na nn nc) :: sl24 :: sl25 :: sl26 :: sl27 :: sl28 :: sl29 :: sl30 :: sl31 :: v32 :: v33 :: v34 :: sl35 :: sl36 :: sl37 :: sl38 :: sl39 :: sl40 :: sl41 :: sl42 :: sl43 :: sl44 :: sl45 :: sl46 :: sl47 :: sl48 :: sl49 :: sl50 :: sl51 :: sl52 :: sl53 :: sl54 :: sl55 :: sl56 :: sl57 :: sl58 :: sl59 :: sl60 :: sl61 :: sl62 :: sl63 :: sl64 :: sl65 :: sl66 :: sl67 :: sl68 :: sl69 :: sl70 :: sl71 :: sl72 :: sl73 :: sl74 :: sl75 :: sl76 :: sl77 :: sl78 :: sl79 :: sl80 :: sl81 :: sl82 :: sl83 :: sl84 :: sl85 :: sl86 :: sl87 :: sl88 :: sl89 :: sl90 :: sl91 :: sl92 :: sl93 :: sl94 :: sl95 :: sl96 :: sl97 :: sl98 :: sl99 :: sl100 :: sl101 :: sl102 :: sl103 :: sl104 :: sl105 :: sl106 :: sl107 :: sl108 :: sl109 :: sl110 :: sl111 :: sl112 :: sl113 :: sl114 :: sl115 :: sl116 :: sl117 :: sl118 :: sl119 :: sl120 :: sl121 :: sl122 :: sl123 :: sl124 :: sl125 :: sl126 :: sl127 :: sl128 :: sl129 :: sl130 :: sl131 :: sl132 :: sl133 :: sl134 :: sl135 :: sl136 :: sl137 :: sl138 :: sl139 :: sl140 :: sl141 :: sl142 :: sl143 :: sl144 :: sl145 :: sl146 :: sl147 :: sl148 :: sl149 :: sl150 :: sl151 :: sl152 :: sl153 :: sl154 :: sl155 :: sl156 :: sl157 :: sl158 :: sl159 :: sl160 :: sl161 :: sl162 :: sl163 :: sl164 :: sl165 :: sl166 :: sl167 :: sl168 :: sl169 :: sl170 :: sl171 :: sl172 :: sl173 :: sl174 :: sl175 :: sl176 :: sl177 :: sl178 :: sl179 :: sl180 :: (.bool fb) :: v182 :: v183 :: v184 :: v185 :: v186 :: v187 :: v188 :: v189 :: v190 :: v191 :: v192 :: v193 :: v194 :: sl195 :: sl196 :: sl197 :: sl198 :: sl199 :: sl200 :: sl201 :: sl202 :: sl203 :: sl204 :: sl205 :: sl206 :: sl207 :: sl208 :: sl209 :: sl210 :: sl211 :: sl212 :: sl213 :: sl214 :: sl215 :: sl216 :: sl217 :: sl218 :: sl219 :: sl220 :: sl221 :: sl222 :: sl223 :: sl224 :: sl225 :: sl226 :: sl227 :: sl228 :: sl229 :: sl230 :: sl231 :: sl232 :: sl233 :: sl234 :: sl235 :: sl236 :: sl237 :: sl238 :: sl239 :: sl240 :: sl241 :: sl242 :: sl243 :: sl244 :: sl245 :: sl246 :: sl247 :: sl248 :: sl249 :: sl250 :: sl251 :: sl252 :: sl253 :: sl254 :: sl255 :: sl256 :: sl257 :: sl258 :: sl259 :: sl260 :: sl261 :: sl262 :: sl263 :: sl264 :: sl265 :: sl266 :: sl267 :: sl268 :: sl269 :: sl270 :: sl271 :: sl272 :: sl273 :: sl274 :: sl275 :: sl276 :: sl277 :: sl278 :: sl279 :: sl280 :: sl281 :: sl282 :: sl283 :: sl284 :: []), []⟩ W') :
    Cd.wp Tryz.prog (Exit.then K' Q') ⟨List.toArray (sl0 :: sl1 :: sl2 :: sl3 :: sl4 :: sl5 :: sl6 :: sl7 :: sl8 :: sl9 :: sl10 :: sl11 :: sl12 :: sl13 :: sl14 :: sl15 :: sl16 :: (.pointer (some ⟨b, 0, none⟩)) :: sl18 :: sl19 :: sl20 :: sl21 :: (.slice (some ⟨gg, 0, none⟩) gs.length gc) :: (.slice na nn nc) :: sl24 :: sl25 :: sl26 :: sl27 :: sl28 :: sl29 :: sl30 :: sl31 :: sl32 :: sl33 :: sl34 :: sl35 :: sl36 :: sl37 :: sl38 :: sl39 :: sl40 :: sl41 :: sl42 :: sl43 :: sl44 :: sl45 :: sl46 :: sl47 :: sl48 :: sl49 :: sl50 :: sl51 :: sl52 :: sl53 :: sl54 :: sl55 :: sl56 :: sl57 :: sl58 :: sl59 :: sl60 :: sl61 :: sl62 :: sl63 :: sl64 :: sl65 :: sl66 :: sl67 :: sl68 :: sl69 :: sl70 :: sl71 :: sl72 :: sl73 :: sl74 :: sl75 :: sl76 :: sl77 :: sl78 :: sl79 :: sl80 :: sl81 :: sl82 :: sl83 :: sl84 :: sl85 :: sl86 :: sl87 :: sl88 :: sl89 :: sl90 :: sl91 :: sl92 :: sl93 :: sl94 :: sl95 :: sl96 :: sl97 :: sl98 :: sl99 :: sl100 :: sl101 :: sl102 :: sl103 :: sl104 :: sl105 :: sl106 :: sl107 :: sl108 :: sl109 :: sl110 :: sl111 :: sl112 :: sl113 :: sl114 :: sl115 :: sl116 :: sl117 :: sl118 :: sl119 :: sl120 :: sl121 :: sl122 :: sl123 :: sl124 :: sl125 :: sl126 :: sl127 :: sl128 :: sl129 :: sl130 :: sl131 :: sl132 :: sl133 :: sl134 :: sl135 :: sl136 :: sl137 :: sl138 :: sl139 :: sl140 :: sl141 :: sl142 :: sl143 :: sl144 :: sl145 :: sl146 :: sl147 :: sl148 :: sl149 :: sl150 :: sl151 :: sl152 :: sl153 :: sl154 :: sl155 :: sl156 :: sl157 :: sl158 :: sl159 :: sl160 :: sl161 :: sl162 :: sl163 :: sl164 :: sl165 :: sl166 :: sl167 :: sl168 :: sl169 :: sl170 :: sl171 :: sl172 :: sl173 :: sl174 :: sl175 :: sl176 :: sl177 :: sl178 :: sl179 :: sl180 :: (.bool fb) :: sl182 :: sl183 :: sl184 :: sl185 :: sl186 :: sl187 :: sl188 :: sl189 :: sl190 :: sl191 :: sl192 :: sl193 :: sl194 :: sl195 :: sl196 :: sl197 :: sl198 :: sl199 :: sl200 :: sl201 :: sl202 :: sl203 :: sl204 :: sl205 :: sl206 :: sl207 :: sl208 :: sl209 :: sl210 :: sl211 :: sl212 :: sl213 :: sl214 :: sl215 :: sl216 :: sl217 :: sl218 :: sl219 :: sl220 :: sl221 :: sl222 :: sl223 :: sl224 :: sl225 :: sl226 :: sl227 :: sl228 :: sl229 :: sl230 :: sl231 :: sl232 :: sl233 :: sl234 :: sl235 :: sl236 :: sl237 :: sl238 :: sl239 :: sl240 :: sl241 :: sl242 :: sl243 :: sl244 :: sl245 :: sl246 :: sl247 :: sl248 :: sl249 :: sl250 :: sl251 :: sl252 :: sl253 :: sl254 :: sl255 :: sl256 :: sl257 :: sl258 :: sl259 :: sl260 :: sl261 :: sl262 :: sl263 :: sl264 :: sl265 :: sl266 :: sl267 :: sl268 :: sl269 :: sl270 :: sl271 :: sl272 :: sl273 :: sl274 :: sl275 :: sl276 :: sl277 :: sl278 :: sl279 :: sl280 :: sl281 :: sl282 :: sl283 :: sl284 :: []), []⟩ ws := by
  subst hC
  conv => arg 2; whnf
  go_cut [22] from 99999 (fun v22 W => ∃ (o' : Ou) (gg' gc' : Nat) (gs' : List Value) (G' : List Int), St w1 W b c N first CA cc gg' gc' gs' o' i ∧ Hid (W.heap[ab]? = some (.cells ac.toArray 69 (0, 0))) ∧ RO L S G' (m + 1) o' ∧ v22 = .slice (some ⟨gg', 0, none⟩) gs'.length gc' ∧ (gs' = gs ∧ G' = G ∨ gs' = gs ++ [.slice na nn nc] ∧ G' = S))
  case rest => exact hK _ _ _ _ _ _ _ _ _ _ _ _ _ _ _ _ _ _ _ hcut
  case first =>
    clear hK
    obtain ⟨O, I, hO, aO, hI, aI, OC, OG, Q⟩ := H
    cases fb with
    | false =>
      go_wp2_with fail
      go_meet
      exact ⟨o, gg, gc, gs, G, ⟨O, I, hO, aO, hI, aI, OC, OG, Q⟩, A, ro.mono (by omega), rfl, .inl ⟨rfl, rfl⟩⟩
    | true =>
      have hr := ro.right wl hm hS hG
      have C1 := hide (comGive_ok o ws hO.out hr (by have := ro.t; omega))
      have HRO := hide ro
      have HWL := hide wl
      have HGL := hide gl
      have HGN := hide gn
      clear hr ro wl hS hG
      have zO := heap_lt O.out
      have zI := heap_lt I.out
      have zQ := Q.out.size
      have zg := og_lt OG.out gn
      go_wp2_with (refine wpList_load_row rfl 40 (.tmp 17) (by rfl) b (by rfl) 40 o.cs.toArray (0, 0) _ (by exact O.out) Tryz.underlying40 (by rfl) (by kernel_rfl) ?_)
      (with_reducible refine (C1.out).mono ?_)
      rintro ew1' w1' ⟨V, rfl, hV, iG, qw1'⟩
      replace O := hide (heap_below O.out qw1')
      replace I := hide (heap_below I.out qw1')
      replace A := hide (heap_below A.out qw1')
      replace hO := hide ((hO.out.next qw1'))
      replace hI := hide ((hI.out.next qw1'))
      replace OC := hide ((OC.out.grown qw1'))
      replace OG := hide ((OG.out.grown qw1'))
      replace Q := hide (below_next Q.out Q.out.size qw1')
      clear qw1'
      clear C1
      have aV := hide (iG.away aO.out (fun k h => by unfold Zb at h; omega))
      have HR2 := hide (HRO.out.gv hm iG)
      clear aO iG HRO
      replace hV := hide hV
      generalize o.gvE = is at *
      have zw1 := hV.out
      clear zw1
      clear hO
      have X := World.alloc_heap_new w1' (.cells Ou.zero.cs.toArray 40)
      have zOx : b < w1'.heap.size := heap_lt O.out
      have zIx : c < w1'.heap.size := heap_lt I.out
      have zAx : ab < w1'.heap.size := heap_lt A.out
      have zQx : w1.heap.size ≤ w1'.heap.size := Q.out.size
      obtain ⟨w3', hw3'⟩ : ∃ wx, wx = w1'.alloc (.cells Ou.zero.cs.toArray 40) := ⟨_, rfl⟩
      have q2' := hide (show Below w1'.heap.size w1' w3' by rw [hw3']; exact (Below.refl _ _).alloc (Nat.le_refl _) _)
      rw [← hw3'] at X
      replace X := hide X
      have Tw4' := hide (show (w1'.alloc (.cells Ou.zero.cs.toArray 40)).there w1'.heap.size 0 26 by rw [← hw3']; exact there_heap (cs := Ou.zero.cs) X.out)
      go_wp2_with (refine wpList_store_hid (by rfl) 40 (.tmp 32) (.tmp 185) (by rfl) w1'.heap.size 0 V.cs (by rfl) (by rfl) (by exact Tw4'.out) (by kernel_rfl) (by simp [Value.oneCell', Ou.cs, Fv.v, Iv.v, Bv.v]) ?_)
      intro w4' ew4'
      replace ew4' : Hid (w4' = w3'.setCells w1'.heap.size 0 V.cs) := by rw [hw3']; exact ew4'
      replace X := hide (show w4'.heap[w1'.heap.size]? = some (.cells V.cs.toArray 40 (0, 0)) by rw [ew4'.out]; exact whole_heap V.cs (xs := Ou.zero.cs) X.out rfl)
      replace q2' := hide (show Below w1'.heap.size w1' w4' by rw [ew4'.out]; exact q2'.out.trans (below_setCells _ _ _ (by omega)))
      clear ew4' Tw4' hw3'
      replace O := hide (heap_below O.out q2'.out)
      replace I := hide (heap_below I.out q2'.out)
      replace A := hide (heap_below A.out q2'.out)
      replace hI := hide ((hI.out.next q2'.out))
      replace OC := hide ((OC.out.grown q2'.out))
      replace OG := hide ((OG.out.grown q2'.out))
      replace hV := hide ((hV.out.next q2'.out))
      replace Q := hide (below_next Q.out Q.out.size q2'.out)
      clear q2'
      generalize w1'.heap.size = x at *
      go_upto_region 38 with fail
      refine wp_region_L [0, 1, 2] [(0, fun W => W.heap[x]? = some (.cells V.cs.toArray 40 (0, 0)))] (by kernel_rfl) ?_
      replace O := hide (show w4'.drew.heap[b]? = some (.cells o.cs.toArray 40 (0, 0)) from O.out)
      replace I := hide (show w4'.drew.heap[c]? = some (.cells i.cs.toArray 47 (0, 0)) from I.out)
      replace A := hide (show w4'.drew.heap[ab]? = some (.cells ac.toArray 69 (0, 0)) from A.out)
      replace X := hide (show w4'.drew.heap[x]? = some (.cells V.cs.toArray 40 (0, 0)) from X.out)
      replace hI := hide (show i.Ok (w4'.drew) from (hI.out.next ((Below.refl w4'.heap.size w4').drew)))
      replace OC := hide (show Own (w4'.drew) N 2 1 CA cc (inRow first) from (OC.out.grown ((Below.refl w4'.heap.size w4').drew)))
      replace OG := hide (show Own (w4'.drew) N 33 1 (some ⟨gg, 0, none⟩) gc (vRow gs) from (OG.out.grown ((Below.refl w4'.heap.size w4').drew)))
      replace hV := hide (show V.Ok (w4'.drew) from (hV.out.next ((Below.refl w4'.heap.size w4').drew)))
      replace Q := hide (show Below w1.heap.size w1 w4'.drew from Q.out.drew)
      generalize w4'.drew = w5' at *
      obtain ⟨gN, hgN⟩ : ∃ gN, gN = gs.length := ⟨_, rfl⟩
      rw [← hgN]
      replace hgN := hide hgN
      clear gl gn
      refine wpAnyL_load (i := 0) (v := .agg V.cs.toArray) rfl rfl (by kernel_rfl) (by kernel_rfl) (by kernel_rfl) (by kernel_rfl) (by kernel_rfl) (fun _ _ _ h => hQ _ _ _ _ _ h) rfl (fun W h => exec_heap W x 40 V.cs _ h Tryz.underlying40 rfl (by kernel_rfl) _ _ (.tmp 32) (by rfl) (by rfl)) (X.out) ?_
      go_simp
      refine wpAnyL_pure (i := 1) (v := .slice (some ⟨gg, 0, none⟩) gN gc) rfl rfl (by kernel_rfl) (by kernel_rfl) (by kernel_rfl) (by kernel_rfl) (by kernel_rfl) (fun _ _ _ h => hQ _ _ _ _ _ h) rfl (fun W => by go_simp) ?_
      go_simp
      refine wpAnyL_pure (i := 2) (v := .slice na nn nc) rfl rfl (by kernel_rfl) (by kernel_rfl) (by kernel_rfl) (by kernel_rfl) (by kernel_rfl) (fun _ _ _ h => hQ _ _ _ _ _ h) rfl (fun W => by go_simp) ?_
      go_simp
      refine wpAnyL_one (i := 3) (by kernel_rfl) ?_
      refine wpOp_do rfl rfl ?_
      go_simp
      have q : Below w5'.heap.size w5' (w5'.alloc (.cells #[.slice na nn nc] 33)) := (Below.refl _ _).alloc (Nat.le_refl _) _
      have N2 := hide (World.alloc_heap_new w5' (.cells #[.slice na nn nc] 33))
      have zx := heap_lt X.out
      replace O := hide (heap_below O.out q)
      replace I := hide (heap_below I.out q)
      replace A := hide (heap_below A.out q)
      replace X := hide (heap_below X.out q)
      replace hI := hide ((hI.out.next q))
      replace OC := hide ((OC.out.grown q))
      replace OG := hide ((OG.out.grown q))
      replace hV := hide ((hV.out.next q))
      replace Q := hide (below_next Q.out Q.out.size q)
      clear q
      refine ⟨keepsL_mk (by kernel_rfl) (.cons (by exact X.out) .nil), ?_⟩
      change wpAnyL _ _ _ _ _ _ _ _ _ (w5'.alloc (.cells #[.slice na nn nc] 33))
      generalize w5'.alloc (.cells #[.slice na nn nc] 33) = w6' at *
      generalize w5'.heap.size = xn at *
      go_simp
      refine wpAnyL_one (i := 4) (by kernel_rfl) ?_
      refine wpOp_do rfl rfl ?_
      have HK := hgN.out
      have hgl := HGL.out
      have zg2 := og_lt OG.out HGN.out
      have gnot := gg_not OG.out zbN zcN
      refine wp_append_lies1 _ _ _ 67 rfl slRow N _ _ _ (vRow gs) (by rfl) OG.out _ 1 [.slice na nn nc] (by rfl) (rd_row (cs := [.slice na nn nc]) N2.out) (by simp) (by simp [Value.oneCell']) (by rw [vRow_len]; omega) (by rw [vRow_len]; unfold maxLen; omega) (by omega) (by rw [vRow_len]; exact HK) ?_
      intro A' c' w7' oN gN2 lN
      obtain ⟨gg', rfl, z1, z2⟩ := Own.ofLen oN (by simp)
      have kp := kp_append gN2
      replace O := hide (kp.heap O.out (fun h => by omega))
      replace I := hide (kp.heap I.out (fun h => by omega))
      replace A := hide (heap_grown A.out (by decide) OG.out gN2)
      replace X := hide (heap_grown X.out (by decide) OG.out gN2)
      replace OC := hide (own_grown OC.out OG.out (by decide) gN2)
      have baV := hide (show V.Away (Zb b c gg') from by
        rcases lN gg' 0 rfl with e | e
        · obtain rfl : gg = gg' := Option.some.inj e
          exact aV.out
        · exact (aV.out.or hV.out.away).mono (fun k hk => show Zb b c gg k ∨ _ ≤ k by unfold Zb at hk ⊢; omega))
      replace hV := hide (hV.out.kp kp (aV.out.mono (fun k hk => .inr (.inr hk))))
      clear aV
      have aV := baV
      clear baV
      have baI := hide (show i.Away (Zb b c gg') from by
        rcases lN gg' 0 rfl with e | e
        · obtain rfl : gg = gg' := Option.some.inj e
          exact aI.out
        · exact (aI.out.or hI.out.away).mono (fun k hk => show Zb b c gg k ∨ _ ≤ k by unfold Zb at hk ⊢; omega))
      replace hI := hide (hI.out.kp kp (aI.out.mono (fun k hk => .inr (.inr hk))))
      clear aI
      have aI := baI
      clear baI
      replace Q := hide (below_append Q.out gN2 OG.out (by omega) (by omega))
      replace OG := hide (show Own w7' N 33 1 (some ⟨gg', 0, none⟩) c' (vRow (gs ++ [.slice na nn nc])) by unfold vRow at oN ⊢; rw [List.map_append]; exact oN)
      clear kp oN gN2 lN N2
      refine ⟨keepsL_mk (by kernel_rfl) (.cons (by exact X.out) .nil), ?_⟩
      go_simp
      refine wpAnyL_one (i := 5) (by kernel_rfl) ?_
      refine wpOp_do rfl rfl ?_
      clear X
      have Tw8' := hide (show World.there _ b 0 26 from there_heap (cs := o.cs) O.out)
      refine wp_store_as 40 (.tmp 17) (.tmp 190) rfl b 0 V.cs (by rfl) (by rfl) (by exact Tw8'.out) (by kernel_rfl) (by simp [Value.oneCell', Ou.cs, Fv.v, Iv.v, Bv.v]) ?_
      intro w8' ew8'
      replace I := hide (show w8'.heap[c]? = some (.cells i.cs.toArray 47 (0, 0)) by rw [ew8']; exact other_heap (by omega) _ _ _ I.out)
      replace A := hide (show w8'.heap[ab]? = some (.cells ac.toArray 69 (0, 0)) by rw [ew8']; exact other_heap (by omega) _ _ _ A.out)
      replace hI := hide (show i.Ok w8' by rw [ew8']; exact hI.out.set aI.out (show Zb b c gg' _ by unfold Zb; omega) _ _)
      replace OC := hide (show Own w8' N 2 1 CA cc (inRow first) by rw [ew8']; exact own_setCells (by omega) _ _ _ OC.out)
      replace OG := hide (show Own w8' N 33 1 (some ⟨gg', 0, none⟩) c' (vRow (gs ++ [.slice na nn nc])) by rw [ew8']; exact own_setCells (by omega) _ _ _ OG.out)
      replace hV := hide (show V.Ok w8' by rw [ew8']; exact hV.out.set aV.out (show Zb b c gg' _ by unfold Zb; omega) _ _)
      replace Q := hide (show Below w1.heap.size w1 w8' by rw [ew8']; exact Q.out.trans (below_setCells _ _ _ (by have := Q.out.size; omega)))
      replace O := hide (show w8'.heap[b]? = some (.cells V.cs.toArray 40 (0, 0)) by rw [ew8']; exact whole_heap V.cs (xs := o.cs) O.out rfl)
      clear ew8' Tw8'
      refine ⟨keepsL_all (by kernel_rfl) (by kernel_rfl), ?_⟩
      go_simp
      refine wpAnyL_one (i := 6) (by kernel_rfl) ?_
      refine wpOp_do rfl rfl ?_
      go_simp
      refine ⟨keepsL_all (by kernel_rfl) (by kernel_rfl), ?_⟩
      go_simp
      refine wpAnyL_done (by kernel_rfl) ?_ _
      go_wp2_with fail
      go_meet
      exact ⟨V, gg', c', gs ++ [.slice na nn nc], S, ⟨O, I, hV, aV, hI, aI, OC, OG, Q⟩, A, HR2.out, by simp, .inr ⟨rfl, rfl⟩⟩

set_option maxRecDepth 100000 in
set_option maxHeartbeats 32000000 in
theorem comWhole_come (w1 ws : World) (b c N : Nat) (first : List Int) (CA : Option Addr) (cc gg gc : Nat) (gs : List Value) (o : Ou) (i : Inn) (L : Ly) (G WG subs : List Int) (each left m : Int) (nb : List Bool) (sd : ByteArray) (gk : Nat) (la : Option Addr) (ln lc : Nat) (wv qv : Value) (ac : List Value) (ab : Nat) (fb : Bool) (wl : WL L) (hm : m < 1099511627776) (hG : fitA L G = true) (hGl : ∀ v ∈ G, lim v) (hW : fitA L WG = true) (hU : fitA L subs = true) (ri : RI L WG subs each left m i) (gn : 0 < gs.length) (zbN : b < N) {sl0 sl1 sl2 sl3 sl4 sl5 sl6 sl7 sl8 sl9 sl10 sl11 sl12 sl13 sl14 sl15 sl16 sl17 sl18 sl20 sl21 sl23 sl26 sl27 sl28 sl29 sl30 sl31 sl32 sl33 sl34 sl35 sl37 sl38 sl39 sl40 sl41 sl42 sl43 sl44 sl45 sl46 sl47 sl48 sl49 sl50 sl51 sl52 sl53 sl54 sl55 sl56 sl57 sl58 sl59 sl60 sl61 sl62 sl63 sl64 sl65 sl66 sl67 sl68 sl69 sl70 sl71 sl72 sl73 sl74 sl75 sl76 sl77 sl78 sl79 sl80 sl81 sl82 sl83 sl84 sl85 sl86 sl87 sl88 sl89 sl90 sl91 sl92 sl93 sl94 sl95 sl96 sl97 sl98 sl99 sl100 sl101 sl102 sl103 sl104 sl105 sl106 sl107 sl108 sl109 sl110 sl111 sl112 sl113 sl114 sl115 sl116 sl117 sl118 sl119 sl120 sl121 sl122 sl123 sl124 sl125 sl126 sl127 sl128 sl129 sl130 sl131 sl132 sl133 sl134 sl135 sl136 sl137 sl138 sl139 sl140 sl141 sl142 sl143 sl144 sl145 sl146 sl147 sl148 sl149 sl150 sl151 sl152 sl153 sl154 sl155 sl156 sl157 sl158 sl159 sl160 sl161 sl162 sl163 sl164 sl165 sl166 sl167 sl168 sl169 sl170 sl171 sl172 sl173 sl174 sl175 sl176 sl177 sl178 sl179 sl180 sl181 sl182 sl183 sl184 sl185 sl186 sl187 sl188 sl189 sl190 sl191 sl192 sl193 sl194 sl195 sl196 sl197 sl198 sl199 sl200 sl201 sl202 sl203 sl204 sl205 sl206 sl207 sl208 sl209 sl210 sl211 sl212 sl213 sl214 sl215 sl216 sl218 sl219 sl220 sl221 sl222 sl223 sl224 sl225 sl226 sl227 sl228 sl229 sl230 sl231 sl232 sl233 sl234 sl235 sl236 sl237 sl238 sl239 sl240 sl241 sl242 sl243 sl244 sl245 sl246 sl247 sl248 sl249 sl250 sl251 sl252 sl253 sl254 sl255 sl256 sl257 sl258 sl259 sl260 sl261 sl262 sl263 sl264 sl265 sl266 sl267 sl268 sl269 sl270 sl271 sl272 sl273 sl274 sl275 sl276 sl277 sl278 sl279 sl280 sl281 sl282 sl283 sl284 : Value} {K' : Act → World → Prop} {Q' : Exit → Act → World → Prop} {Cd : Code} (hC : Cd = partC Tryz.f4.body (isCond 217))
    (H : St w1 ws b c N first CA cc gg gc gs o i)
    (A : Hid (ws.heap[ab]? = some (.cells ac.toArray 69 (0, 0))))
    (zab : c < ab)
    (HLV : Hid (gs[gk]? = some (.slice la ln lc)))
    (HSt : Hid (fb = true → sd = ⟨(packF L G nb 0).toArray⟩))
    (hgk : gk ≤ 30)
    (zb : w1.heap.size ≤ b)
    (zbc : b < c)
    (zcN : c < N)
    (hQ : ∀ c (a : Act) d v w, Q' (.panic c) (a.put d v) w → Q' (.panic c) a w)
    (hK : ∀ (v14 v24 v25 v39 v40 v41 v218 v219 v220 v221 v222 v223 v224 v225 v226 v227 v228 v229 v230 v231 v232 v233 v234 v235 v236 v237 : Value) (W' : World), (fun v24 v25 W => ∃ i' : Inn, St w1 W b c N first CA cc gg gc gs o i' ∧ Hid (W.heap[ab]? = some (.cells ac.toArray 69 (0, 0))) ∧ (i' = i ∧ v24 = wv ∧ v25 = qv ∨ RI L G subs each each (m + 1) i' ∧ v24 = .slice la ln lc ∧ v25 = .int .i64 0)) v24 v25 W' → K' ⟨List.toArray (sl0 :: sl1 :: sl2 :: sl3 :: sl4 :: sl5 :: sl6 :: sl7 :: sl8 :: sl9 :: sl10 :: sl11 :: sl12 :: sl13 :: v14 :: sl15 :: sl16 :: sl17 :: sl18 :: (.pointer (some ⟨c, 0, none⟩)) :: sl20 :: sl21 :: (.slice (some ⟨gg, 0, none⟩) (gk + 1) gc) :: sl23 :: v24 :: v25 :: sl26 :: sl27 :: sl28 :: sl29 :: sl30 :: sl31 :: sl32 :: sl33 :: sl34 :: sl35 :: (.string sd) :: sl37 :: sl38 :: v39 :: v40 :: v41 :: sl42 :: sl43 :: sl44 :: sl45 :: sl46 :: sl47 :: sl48 :: sl49 :: sl50 :: sl51 :: sl52 :: sl53 :: sl54 :: sl55 :: sl56 :: sl57 :: sl58 :: sl59 :: sl60 :: sl61 :: sl62 :: sl63 :: sl64 :: sl65 :: sl66 :: sl67 :: sl68 :: sl69 :: sl70 :: sl71 :: sl72 :: sl73 :: sl74 :: sl75 :: sl76 :: sl77 :: sl78 :: sl79 :: sl80 :: sl81 :: sl82 :: sl83 :: sl84 :: sl85 :: sl86 :: sl87 :: sl88 :: sl89 :: sl90 :: sl91 :: sl92 :: sl93 :: sl94 :: sl95 :: sl96 :: sl97 :: sl98 :: sl99 :: sl100 :: sl101 :: sl102 :: sl103 :: sl104 :: sl105 :: sl106 :: sl107 :: sl108 :: sl109 :: sl110 :: sl111 :: sl112 :: sl113 :: sl114 :: sl115 :: sl116 :: sl117 :: sl118 :: sl119 :: sl120 :: sl121 :: sl122 :: sl123 :: sl124 :: sl125 :: sl126 :: sl127 :: sl128 :: sl129 :: sl130 :: sl131 :: sl132 :: sl133 :: sl134 :: sl135 :: sl136 :: sl137 :: sl138 :: sl139 :: sl140 :: sl141 :: sl142 :: sl143 :: sl144 :: sl145 :: sl146 :: sl147 :: sl148 :: sl149 :: sl150 :: sl151 :: sl152 :: sl153 :: sl154 :: sl155 :: sl156 :: sl157 :: sl158 :: sl159 :: sl160 :: sl161 :: sl162 :: sl163 :: sl164 :: sl165 :: sl166 :: sl167 :: sl168 :: sl169 :: sl170 :: sl171 :: sl172 :: sl173 :: sl174 :: sl175 :: sl176 :: sl177 :: sl178 :: sl179 :: sl180 :: sl181 :: sl182 :: sl183 :: sl184 :: sl185 :: sl186 :: sl187 :: sl188 :: sl189 :: sl190 :: sl191 :: sl192 :: sl193 :: sl194 :: sl195 :: sl196 :: sl197 :: sl198 :: sl199 :: sl200 :: sl201 :: sl202 :: sl203 :: sl204 :: sl205 :: sl206 :: sl207 :: sl208 :: sl209 :: sl210 :: sl211 :: sl212 :: sl213 :: sl214 :: sl215 :: sl216 :: (.bool fb) :: v218 :: v219 :: v220 :: v221 :: v222 :: v223 :: v224 :: v225 :: v226 :: v227 :: v228 :: v229 :: v230 :: v231 :: v232 :: v233 :: v234 :: v235 :: v236 :: v237 :: sl238 :: sl239 :: sl240 :: sl241 :: sl242 :: sl243 :: sl244 :: sl245 :: sl246 :: sl247 :: sl248 :: sl249 :: sl250 :: sl251 :: sl252 :: sl253 :: sl254 :: sl255 :: sl256 :: sl257 :: sl258 :: sl259 :: sl260 :: sl261 :: sl262 :: sl263 :: sl264 :: sl265 :: sl266 :: sl267 :: sl268 :: sl269 :: sl270 :: sl271 :: sl272 :: sl273 :: sl274 :: sl275 :: sl276 :: sl277 :: sl278 :: sl279 :: sl280 :: sl281 :: sl282 :: sl283 :: sl284 :: []), []⟩ W') :
    Cd.wp Tryz.prog (Exit.then K' Q') ⟨List.toArray (sl0 :: sl1 :: sl2 :: sl3 :: sl4 :: sl5 :: sl6 :: sl7 :: sl8 :: sl9 :: sl10 :: sl11 :: sl12 :: sl13 :: sl14 :: sl15 :: sl16 :: sl17 :: sl18 :: (.pointer (some ⟨c, 0, none⟩)) :: sl20 :: sl21 :: (.slice (some ⟨gg, 0, none⟩) (gk + 1) gc) :: sl23 :: (wv) :: (qv) :: sl26 :: sl27 :: sl28 :: sl29 :: sl30 :: sl31 :: sl32 :: sl33 :: sl34 :: sl35 :: (.string sd) :: sl37 :: sl38 :: sl39 :: sl40 :: sl41 :: sl42 :: sl43 :: sl44 :: sl45 :: sl46 :: sl47 :: sl48 :: sl49 :: sl50 :: sl51 :: sl52 :: sl53 :: sl54 :: sl55 :: sl56 :: sl57 :: sl58 :: sl59 :: sl60 :: sl61 :: sl62 :: sl63 :: sl64 :: sl65 :: sl66 :: sl67 :: sl68 :: sl69 :: sl70 :: sl71 :: sl72 :: sl73 :: sl74 :: sl75 :: sl76 :: sl77 :: sl78 :: sl79 :: sl80 :: sl81 :: sl82 :: sl83 :: sl84 :: sl85 :: sl86 :: sl87 :: sl88 :: sl89 :: sl90 :: sl91 :: sl92 :: sl93 :: sl94 :: sl95 :: sl96 :: sl97 :: sl98 :: sl99 :: sl100 :: sl101 :: sl102 :: sl103 :: sl104 :: sl105 :: sl106 :: sl107 :: sl108 :: sl109 :: sl110 :: sl111 :: sl112 :: sl113 :: sl114 :: sl115 :: sl116 :: sl117 :: sl118 :: sl119 :: sl120 :: sl121 :: sl122 :: sl123 :: sl124 :: sl125 :: sl126 :: sl127 :: sl128 :: sl129 :: sl130 :: sl131 :: sl132 :: sl133 :: sl134 :: sl135 :: sl136 :: sl137 :: sl138 :: sl139 :: sl140 :: sl141 :: sl142 :: sl143 :: sl144 :: sl145 :: sl146 :: sl147 :: sl148 :: sl149 :: sl150 :: sl151 :: sl152 :: sl153 :: sl154 :: sl155 :: sl156 :: sl157 :: sl158 :: sl159 :: sl160 :: sl161 :: sl162 :: sl163 :: sl164 :: sl165 :: sl166 :: sl167 :: sl168 :: sl169 :: sl170 :: sl171 :: sl172 :: sl173 :: sl174 :: sl175 :: sl176 :: sl177 :: sl178 :: sl179 :: sl180 :: sl181 :: sl182 :: sl183 :: sl184 :: sl185 :: sl186 :: sl187 :: sl188 :: sl189 :: sl190 :: sl191 :: sl192 :: sl193 :: sl194 :: sl195 :: sl196 :: sl197 :: sl198 :: sl199 :: sl200 :: sl201 :: sl202 :: sl203 :: sl204 :: sl205 :: sl206 :: sl207 :: sl208 :: sl209 :: sl210 :: sl211 :: sl212 :: sl213 :: sl214 :: sl215 :: sl216 :: (.bool fb) :: sl218 :: sl219 :: sl220 :: sl221 :: sl222 :: sl223 :: sl224 :: sl225 :: sl226 :: sl227 :: sl228 :: sl229 :: sl230 :: sl231 :: sl232 :: sl233 :: sl234 :: sl235 :: sl236 :: sl237 :: sl238 :: sl239 :: sl240 :: sl241 :: sl242 :: sl243 :: sl244 :: sl245 :: sl246 :: sl247 :: sl248 :: sl249 :: sl250 :: sl251 :: sl252 :: sl253 :: sl254 :: sl255 :: sl256 :: sl257 :: sl258 :: sl259 :: sl260 :: sl261 :: sl262 :: sl263 :: sl264 :: sl265 :: sl266 :: sl267 :: sl268 :: sl269 :: sl270 :: sl271 :: sl272 :: sl273 :: sl274 :: sl275 :: sl276 :: sl277 :: sl278 :: sl279 :: sl280 :: sl281 :: sl282 :: sl283 :: sl284 :: []), []⟩ ws := by
  subst hC
  conv => arg 2; whnf
  go_cut [24, 25] from 99999 (fun v24 v25 W => ∃ i' : Inn, St w1 W b c N first CA cc gg gc gs o i' ∧ Hid (W.heap[ab]? = some (.cells ac.toArray 69 (0, 0))) ∧ (i' = i ∧ v24 = wv ∧ v25 = qv ∨ RI L G subs each each (m + 1) i' ∧ v24 = .slice la ln lc ∧ v25 = .int .i64 0))
  case rest => exact hK _ _ _ _ _ _ _ _ _ _ _ _ _ _ _ _ _ _ _ _ _ _ _ _ _ _ _ hcut
  case first =>
    clear hK
    obtain ⟨O, I, hO, aO, hI, aI, OC, OG, Q⟩ := H
    cases fb with
    | false =>
      go_wp2_with fail
      go_meet
      exact ⟨i, ⟨O, I, hO, aO, hI, aI, OC, OG, Q⟩, A, .inl ⟨rfl, rfl, rfl⟩⟩
    | true =>
      have hs0 := HSt.out rfl
      have hsd : sd.data.toList = packF L G nb 0 := by rw [hs0]
      have hr := ri.right wl hm hW hU
      have hpl : (packF L G nb 0).length = L.size.toNat := packF_length _ _ _ _
      have hsz := wl.size
      have hbz : (sd.size : Int) = i.ly.L.size := by rw [ri.ly, hs0]; show ((packF L G nb 0).toArray.size : Int) = _; rw [List.size_toArray, hpl]; omega
      have hvs : unV L (packF L G nb 0) = G := pack_vals wl.right G nb 0 (fitA_iff.1 hG).1 (fun v hv => (hGl v hv).2) (fitA_iff.1 hG).2
      have C1 := hide (comCome_ok i sd ws hI.out hr (by have := ri.t; omega) hbz ri.on (by rw [ri.ly] at hbz; omega) (by intro v hv; rw [ri.ly, hsd] at hv; have e : unV L (packF L G nb 0) = G := hvs; exact hGl v (by rw [← e]; exact hv)))
      rw [hsd] at C1
      have CM := hide (fun (V : Inn) (Nn : Nat) (h : i.Cm (packF L G nb 0) Nn V) => ri.cm wl hm hG hGl h)
      obtain ⟨d, hd⟩ : ∃ d, d = packF L G nb 0 := ⟨_, rfl⟩
      rw [← hd] at C1 CM
      clear hd hs0 hsd hr hpl hsz hbz hvs ri wl HSt
      obtain ⟨ce, hce⟩ : ∃ ce, ce = i.cmE d := ⟨_, rfl⟩
      rw [← hce] at C1 CM
      clear hce
      have zO := heap_lt O.out
      have zI := heap_lt I.out
      have zQ := Q.out.size
      have zg := og_lt OG.out gn
      have gnot := gg_not OG.out zbN zcN
      go_wp2_with (refine wpList_load_row rfl 47 (.tmp 19) (by rfl) c (by rfl) 47 i.cs.toArray (0, 0) _ (by exact I.out) Tryz.underlying47 (by rfl) (by kernel_rfl) ?_)
      (with_reducible refine (C1.out).mono ?_)
      rintro ew1' w1' ⟨V, rfl, hV, iC, qw1'⟩
      replace O := hide (heap_below O.out qw1')
      replace I := hide (heap_below I.out qw1')
      replace A := hide (heap_below A.out qw1')
      replace hO := hide ((hO.out.next qw1'))
      replace hI := hide ((hI.out.next qw1'))
      replace OC := hide ((OC.out.grown qw1'))
      replace OG := hide ((OG.out.grown qw1'))
      replace Q := hide (below_next Q.out Q.out.size qw1')
      clear qw1'
      clear C1
      have aV := hide (iC.away aI.out (fun k h => by unfold Zb at h; omega))
      obtain ⟨rfl, hRI⟩ := CM.out V _ iC
      have HR2 := hide hRI
      clear aI iC CM hRI
      replace hV := hide hV
      clear hI
      have X := World.alloc_heap_new w1' (.cells Inn.zero.cs.toArray 47)
      have zOx : b < w1'.heap.size := heap_lt O.out
      have zIx : c < w1'.heap.size := heap_lt I.out
      have zAx : ab < w1'.heap.size := heap_lt A.out
      have zQx : w1.heap.size ≤ w1'.heap.size := Q.out.size
      obtain ⟨w3', hw3'⟩ : ∃ wx, wx = w1'.alloc (.cells Inn.zero.cs.toArray 47) := ⟨_, rfl⟩
      have q2' := hide (show Below w1'.heap.size w1' w3' by rw [hw3']; exact (Below.refl _ _).alloc (Nat.le_refl _) _)
      rw [← hw3'] at X
      replace X := hide X
      have Tw4' := hide (show (w1'.alloc (.cells Inn.zero.cs.toArray 47)).there w1'.heap.size 0 13 by rw [← hw3']; exact there_heap (cs := Inn.zero.cs) X.out)
      go_wp2_with (refine wpList_store_hid (by rfl) 47 (.tmp 39) (.tmp 222) (by rfl) w1'.heap.size 0 V.cs (by rfl) (by rfl) (by exact Tw4'.out) (by kernel_rfl) (by simp [Value.oneCell', Inn.cs, Fv.v, Iv.v]) ?_)
      intro w4' ew4'
      replace ew4' : Hid (w4' = w3'.setCells w1'.heap.size 0 V.cs) := by rw [hw3']; exact ew4'
      replace X := hide (show w4'.heap[w1'.heap.size]? = some (.cells V.cs.toArray 47 (0, 0)) by rw [ew4'.out]; exact whole_heap V.cs (xs := Inn.zero.cs) X.out rfl)
      replace q2' := hide (show Below w1'.heap.size w1' w4' by rw [ew4'.out]; exact q2'.out.trans (below_setCells _ _ _ (by omega)))
      clear ew4' Tw4' hw3'
      replace O := hide (heap_below O.out q2'.out)
      replace I := hide (heap_below I.out q2'.out)
      replace A := hide (heap_below A.out q2'.out)
      replace hO := hide ((hO.out.next q2'.out))
      replace OC := hide ((OC.out.grown q2'.out))
      replace OG := hide ((OG.out.grown q2'.out))
      replace hV := hide ((hV.out.next q2'.out))
      replace Q := hide (below_next Q.out Q.out.size q2'.out)
      clear q2'
      generalize w1'.heap.size = x at *
      have LC := hide (show w4'.cell? ⟨gg, gk, none⟩ = some (.slice la ln lc) from by have := own_at OG.out (vRow_rows gs) (k := gk) (j := 0) (row := [.slice la ln lc]) (v := .slice la ln lc) (by unfold vRow; rw [List.getElem?_map, HLV.out]; rfl) rfl; rwa [Nat.mul_one, Nat.add_zero] at this)
      go_upto_region 49 with fail
      refine wp_region_L [0, 1, 2, 3, 4, 5, 6] [(0, fun W => W.heap[x]? = some (.cells V.cs.toArray 47 (0, 0))), (6, fun W => W.cell? ⟨gg, gk, none⟩ = some (.slice la ln lc))] (by kernel_rfl) ?_
      replace O := hide (show w4'.drew.heap[b]? = some (.cells o.cs.toArray 40 (0, 0)) from O.out)
      replace I := hide (show w4'.drew.heap[c]? = some (.cells i.cs.toArray 47 (0, 0)) from I.out)
      replace A := hide (show w4'.drew.heap[ab]? = some (.cells ac.toArray 69 (0, 0)) from A.out)
      replace X := hide (show w4'.drew.heap[x]? = some (.cells V.cs.toArray 47 (0, 0)) from X.out)
      replace hO := hide (show o.Ok (w4'.drew) from (hO.out.next ((Below.refl w4'.heap.size w4').drew)))
      replace OC := hide (show Own (w4'.drew) N 2 1 CA cc (inRow first) from (OC.out.grown ((Below.refl w4'.heap.size w4').drew)))
      replace OG := hide (show Own (w4'.drew) N 33 1 (some ⟨gg, 0, none⟩) gc (vRow gs) from (OG.out.grown ((Below.refl w4'.heap.size w4').drew)))
      replace hV := hide (show V.Ok (w4'.drew) from (hV.out.next ((Below.refl w4'.heap.size w4').drew)))
      replace LC := hide (show (w4'.drew).cell? ⟨gg, gk, none⟩ = some (.slice la ln lc) from LC.out)
      replace Q := hide (show Below w1.heap.size w1 w4'.drew from Q.out.drew)
      generalize w4'.drew = w5' at *
      have hb9 : ¬ (gk : Int) + 1 ≤ gk := by omega
      have hwr : IntKind.i64.wrap (gk : Int) = gk := IntWalk.i64_in _ (by omega)
      refine wpAnyL_load (i := 0) (v := .agg V.cs.toArray) rfl rfl (by kernel_rfl) (by kernel_rfl) (by kernel_rfl) (by kernel_rfl) (by kernel_rfl) (fun _ _ _ h => hQ _ _ _ _ _ h) rfl (fun W h => exec_heap W x 47 V.cs _ h Tryz.underlying47 rfl (by kernel_rfl) _ _ (.tmp 39) (by rfl) (by rfl)) (X.out) ?_
      go_simp
      refine wpAnyL_pure (i := 1) (v := .slice (some ⟨gg, 0, none⟩) (gk + 1) gc) rfl rfl (by kernel_rfl) (by kernel_rfl) (by kernel_rfl) (by kernel_rfl) (by kernel_rfl) (fun _ _ _ h => hQ _ _ _ _ _ h) rfl (fun W => by go_simp) ?_
      go_simp
      refine wpAnyL_pure (i := 2) (v := .slice (some ⟨gg, 0, none⟩) (gk + 1) gc) rfl rfl (by kernel_rfl) (by kernel_rfl) (by kernel_rfl) (by kernel_rfl) (by kernel_rfl) (fun _ _ _ h => hQ _ _ _ _ _ h) rfl (fun W => by go_simp) ?_
      go_simp
      refine wpAnyL_pure (i := 3) (v := .int .i64 ((gk + 1 : Nat) : Int)) rfl rfl (by kernel_rfl) (by kernel_rfl) (by kernel_rfl) (by kernel_rfl) (by kernel_rfl) (fun _ _ _ h => hQ _ _ _ _ _ h) rfl (fun W => by go_simp) ?_
      go_simp
      refine wpAnyL_pure (i := 4) (v := .int .i64 gk) rfl rfl (by kernel_rfl) (by kernel_rfl) (by kernel_rfl) (by kernel_rfl) (by kernel_rfl) (fun _ _ _ h => hQ _ _ _ _ _ h) rfl (fun W => by go_simp) ?_
      go_simp
      refine wpAnyL_pure (i := 5) (v := .pointer (some ⟨gg, gk, none⟩)) rfl rfl (by kernel_rfl) (by kernel_rfl) (by kernel_rfl) (by kernel_rfl) (by kernel_rfl) (fun _ _ _ h => hQ _ _ _ _ _ h) rfl (fun W => by go_simp) ?_
      go_simp
      refine wpAnyL_load (i := 6) (v := .slice la ln lc) rfl rfl (by kernel_rfl) (by kernel_rfl) (by kernel_rfl) (by kernel_rfl) (by kernel_rfl) (fun _ _ _ h => hQ _ _ _ _ _ h) rfl (fun W h => by (have hc0 := h; clear h; go_simp)) (LC.out) ?_
      go_simp
      refine wpAnyL_one (i := 7) (by kernel_rfl) ?_
      refine wpOp_do rfl rfl ?_
      have Tw6' := hide (show World.there _ c 0 13 from there_heap (cs := i.cs) I.out)
      refine wp_store_as 47 (.tmp 19) (.tmp 231) rfl c 0 V.cs (by rfl) (by rfl) (by exact Tw6'.out) (by kernel_rfl) (by simp [Value.oneCell', Inn.cs, Fv.v, Iv.v]) ?_
      intro w6' ew6'
      replace O := hide (show w6'.heap[b]? = some (.cells o.cs.toArray 40 (0, 0)) by rw [ew6']; exact other_heap (by omega) _ _ _ O.out)
      replace A := hide (show w6'.heap[ab]? = some (.cells ac.toArray 69 (0, 0)) by rw [ew6']; exact other_heap (by omega) _ _ _ A.out)
      replace X := hide (show w6'.heap[x]? = some (.cells V.cs.toArray 47 (0, 0)) by rw [ew6']; exact other_heap (by omega) _ _ _ X.out)
      replace hO := hide (show o.Ok w6' by rw [ew6']; exact hO.out.set aO.out (show Zb b c gg _ by unfold Zb; omega) _ _)
      replace OC := hide (show Own w6' N 2 1 CA cc (inRow first) by rw [ew6']; exact own_setCells (by omega) _ _ _ OC.out)
      replace OG := hide (show Own w6' N 33 1 (some ⟨gg, 0, none⟩) gc (vRow gs) by rw [ew6']; exact own_setCells (by omega) _ _ _ OG.out)
      replace hV := hide (show V.Ok w6' by rw [ew6']; exact hV.out.set aV.out (show Zb b c gg _ by unfold Zb; omega) _ _)
      replace Q := hide (show Below w1.heap.size w1 w6' by rw [ew6']; exact Q.out.trans (below_setCells _ _ _ (by have := Q.out.size; omega)))
      replace I := hide (show w6'.heap[c]? = some (.cells V.cs.toArray 47 (0, 0)) by rw [ew6']; exact whole_heap V.cs (xs := i.cs) I.out rfl)
      clear ew6' Tw6'
      have LC2 := hide (show w6'.cell? ⟨gg, gk, none⟩ = some (.slice la ln lc) from by have := own_at OG.out (vRow_rows gs) (k := gk) (j := 0) (row := [.slice la ln lc]) (v := .slice la ln lc) (by unfold vRow; rw [List.getElem?_map, HLV.out]; rfl) rfl; rwa [Nat.mul_one, Nat.add_zero] at this)
      refine ⟨keepsL_mk (by kernel_rfl) (.past (by kernel_rfl) (.cons (by exact LC2.out) .nil)), ?_⟩
      clear LC2
      go_simp
      refine wpAnyL_one (i := 8) (by kernel_rfl) ?_
      refine wpOp_do rfl rfl ?_
      go_simp
      refine ⟨keepsL_all (by kernel_rfl) (by kernel_rfl), ?_⟩
      go_simp
      refine wpAnyL_one (i := 9) (by kernel_rfl) ?_
      refine wpOp_do rfl rfl ?_
      go_simp
      refine ⟨keepsL_all (by kernel_rfl) (by kernel_rfl), ?_⟩
      go_simp
      refine wpAnyL_done (by kernel_rfl) ?_ _
      go_wp2_with fail
      go_meet
      exact ⟨V, ⟨O, I, hO, aO, hV, aV, OC, OG, Q⟩, A, .inr ⟨HR2.out, rfl, rfl⟩⟩

set_option maxRecDepth 100000 in
set_option maxHeartbeats 32000000 in
theorem comWhole_reads (ws : World) (c n nl wc : Nat) (wa : Option Addr) (i : Inn) (hr : i.right = true) (hn : n = i.G.l.length) (hnl : nl = i.G.l.length) (hn16 : n ≤ 16) {sl0 sl1 sl2 sl3 sl4 sl5 sl6 sl7 sl8 sl9 sl10 sl11 sl12 sl13 sl14 sl15 sl16 sl17 sl18 sl20 sl21 sl22 sl23 sl25 sl26 sl27 sl28 sl29 sl30 sl31 sl32 sl33 sl34 sl35 sl36 sl37 sl38 sl39 sl40 sl41 sl42 sl43 sl44 sl45 sl46 sl47 sl48 sl49 sl50 sl51 sl52 sl53 sl54 sl55 sl56 sl57 sl58 sl59 sl60 sl61 sl62 sl63 sl64 sl65 sl66 sl67 sl68 sl69 sl70 sl71 sl72 sl73 sl74 sl75 sl76 sl77 sl78 sl79 sl80 sl81 sl82 sl83 sl84 sl85 sl86 sl87 sl88 sl89 sl90 sl91 sl92 sl93 sl94 sl95 sl96 sl97 sl98 sl99 sl100 sl101 sl102 sl103 sl104 sl105 sl106 sl107 sl108 sl109 sl110 sl111 sl112 sl113 sl114 sl115 sl116 sl117 sl118 sl119 sl120 sl121 sl122 sl123 sl124 sl125 sl126 sl127 sl128 sl129 sl130 sl131 sl132 sl133 sl134 sl135 sl136 sl137 sl138 sl139 sl140 sl141 sl142 sl143 sl144 sl145 sl146 sl147 sl148 sl149 sl150 sl151 sl152 sl153 sl154 sl155 sl156 sl157 sl158 sl159 sl160 sl161 sl162 sl163 sl164 sl165 sl166 sl167 sl168 sl169 sl170 sl171 sl172 sl173 sl174 sl175 sl176 sl177 sl178 sl179 sl180 sl181 sl182 sl183 sl184 sl185 sl186 sl187 sl188 sl189 sl190 sl191 sl192 sl193 sl194 sl195 sl196 sl197 sl198 sl199 sl200 sl201 sl202 sl203 sl204 sl205 sl206 sl207 sl208 sl209 sl210 sl211 sl212 sl213 sl214 sl215 sl216 sl217 sl218 sl219 sl220 sl221 sl222 sl223 sl224 sl225 sl226 sl227 sl228 sl229 sl230 sl231 sl232 sl233 sl234 sl235 sl236 sl237 sl238 sl239 sl240 sl241 sl242 sl243 sl244 sl245 sl246 sl247 sl248 sl249 sl250 sl251 sl252 sl253 sl254 sl255 sl256 sl257 sl258 sl259 sl260 sl261 sl264 sl265 sl266 sl267 sl268 sl269 sl270 sl271 sl272 sl273 sl274 sl275 sl276 sl277 sl278 sl279 sl280 sl281 sl282 sl283 sl284 : Value} {K' : Act → World → Prop} {Q' : Exit → Act → World → Prop} {Cd : Code} (hC : Cd = partC Tryz.f4.body (isBlock 8))
    (I : Hid (ws.heap[c]? = some (.cells i.cs.toArray 47 (0, 0))))
    (hI : Hid (i.Ok ws))
    (HW : Hid (InR ws ws.heap.size wa i.G.l))
    (hQ : ∀ c (a : Act) d v w, Q' (.panic c) (a.put d v) w → Q' (.panic c) a w)
    (hK : ∀ (v14 v45 v46 v47 v263 v264 v265 v266 v267 v268 v269 v270 v271 v272 v273 v274 v275 v276 v277 v278 v279 v280 v281 v282 : Value) (W' : World), (fun W => Below ws.heap.size ws W)  W' → K' ⟨List.toArray (sl0 :: sl1 :: sl2 :: sl3 :: sl4 :: sl5 :: sl6 :: sl7 :: sl8 :: sl9 :: sl10 :: sl11 :: sl12 :: sl13 :: v14 :: sl15 :: sl16 :: sl17 :: sl18 :: (.pointer (some ⟨c, 0, none⟩)) :: sl20 :: sl21 :: sl22 :: sl23 :: (.slice wa nl wc) :: sl25 :: sl26 :: sl27 :: sl28 :: sl29 :: sl30 :: sl31 :: sl32 :: sl33 :: sl34 :: sl35 :: sl36 :: sl37 :: sl38 :: sl39 :: sl40 :: sl41 :: sl42 :: sl43 :: sl44 :: v45 :: v46 :: v47 :: sl48 :: sl49 :: sl50 :: sl51 :: sl52 :: sl53 :: sl54 :: sl55 :: sl56 :: sl57 :: sl58 :: sl59 :: sl60 :: sl61 :: sl62 :: sl63 :: sl64 :: sl65 :: sl66 :: sl67 :: sl68 :: sl69 :: sl70 :: sl71 :: sl72 :: sl73 :: sl74 :: sl75 :: sl76 :: sl77 :: sl78 :: sl79 :: sl80 :: sl81 :: sl82 :: sl83 :: sl84 :: sl85 :: sl86 :: sl87 :: sl88 :: sl89 :: sl90 :: sl91 :: sl92 :: sl93 :: sl94 :: sl95 :: sl96 :: sl97 :: sl98 :: sl99 :: sl100 :: sl101 :: sl102 :: sl103 :: sl104 :: sl105 :: sl106 :: sl107 :: sl108 :: sl109 :: sl110 :: sl111 :: sl112 :: sl113 :: sl114 :: sl115 :: sl116 :: sl117 :: sl118 :: sl119 :: sl120 :: sl121 :: sl122 :: sl123 :: sl124 :: sl125 :: sl126 :: sl127 :: sl128 :: sl129 :: sl130 :: sl131 :: sl132 :: sl133 :: sl134 :: sl135 :: sl136 :: sl137 :: sl138 :: sl139 :: sl140 :: sl141 :: sl142 :: sl143 :: sl144 :: sl145 :: sl146 :: sl147 :: sl148 :: sl149 :: sl150 :: sl151 :: sl152 :: sl153 :: sl154 :: sl155 :: sl156 :: sl157 :: sl158 :: sl159 :: sl160 :: sl161 :: sl162 :: sl163 :: sl164 :: sl165 :: sl166 :: sl167 :: sl168 :: sl169 :: sl170 :: sl171 :: sl172 :: sl173 :: sl174 :: sl175 :: sl176 :: sl177 :: sl178 :: sl179 :: sl180 :: sl181 :: sl182 :: sl183 :: sl184 :: sl185 :: sl186 :: sl187 :: sl188 :: sl189 :: sl190 :: sl191 :: sl192 :: sl193 :: sl194 :: sl195 :: sl196 :: sl197 :: sl198 :: sl199 :: sl200 :: sl201 :: sl202 :: sl203 :: sl204 :: sl205 :: sl206 :: sl207 :: sl208 :: sl209 :: sl210 :: sl211 :: sl212 :: sl213 :: sl214 :: sl215 :: sl216 :: sl217 :: sl218 :: sl219 :: sl220 :: sl221 :: sl222 :: sl223 :: sl224 :: sl225 :: sl226 :: sl227 :: sl228 :: sl229 :: sl230 :: sl231 :: sl232 :: sl233 :: sl234 :: sl235 :: sl236 :: sl237 :: sl238 :: sl239 :: sl240 :: sl241 :: sl242 :: sl243 :: sl244 :: sl245 :: sl246 :: sl247 :: sl248 :: sl249 :: sl250 :: sl251 :: sl252 :: sl253 :: sl254 :: sl255 :: sl256 :: sl257 :: sl258 :: sl259 :: sl260 :: sl261 :: (.int .i64 n) :: v263 :: v264 :: v265 :: v266 :: v267 :: v268 :: v269 :: v270 :: v271 :: v272 :: v273 :: v274 :: v275 :: v276 :: v277 :: v278 :: v279 :: v280 :: v281 :: v282 :: sl283 :: sl284 :: []), []⟩ W') :
    Cd.wp Tryz.prog (Exit.then K' Q') ⟨List.toArray (sl0 :: sl1 :: sl2 :: sl3 :: sl4 :: sl5 :: sl6 :: sl7 :: sl8 :: sl9 :: sl10 :: sl11 :: sl12 :: sl13 :: sl14 :: sl15 :: sl16 :: sl17 :: sl18 :: (.pointer (some ⟨c, 0, none⟩)) :: sl20 :: sl21 :: sl22 :: sl23 :: (.slice wa nl wc) :: sl25 :: sl26 :: sl27 :: sl28 :: sl29 :: sl30 :: sl31 :: sl32 :: sl33 :: sl34 :: sl35 :: sl36 :: sl37 :: sl38 :: sl39 :: sl40 :: sl41 :: sl42 :: sl43 :: sl44 :: sl45 :: sl46 :: sl47 :: sl48 :: sl49 :: sl50 :: sl51 :: sl52 :: sl53 :: sl54 :: sl55 :: sl56 :: sl57 :: sl58 :: sl59 :: sl60 :: sl61 :: sl62 :: sl63 :: sl64 :: sl65 :: sl66 :: sl67 :: sl68 :: sl69 :: sl70 :: sl71 :: sl72 :: sl73 :: sl74 :: sl75 :: sl76 :: sl77 :: sl78 :: sl79 :: sl80 :: sl81 :: sl82 :: sl83 :: sl84 :: sl85 :: sl86 :: sl87 :: sl88 :: sl89 :: sl90 :: sl91 :: sl92 :: sl93 :: sl94 :: sl95 :: sl96 :: sl97 :: sl98 :: sl99 :: sl100 :: sl101 :: sl102 :: sl103 :: sl104 :: sl105 :: sl106 :: sl107 :: sl108 :: sl109 :: sl110 :: sl111 :: sl112 :: sl113 :: sl114 :: sl115 :: sl116 :: sl117 :: sl118 :: sl119 :: sl120 :: sl121 :: sl122 :: sl123 :: sl124 :: sl125 :: sl126 :: sl127 :: sl128 :: sl129 :: sl130 :: sl131 :: sl132 :: sl133 :: sl134 :: sl135 :: sl136 :: sl137 :: sl138 :: sl139 :: sl140 :: sl141 :: sl142 :: sl143 :: sl144 :: sl145 :: sl146 :: sl147 :: sl148 :: sl149 :: sl150 :: sl151 :: sl152 :: sl153 :: sl154 :: sl155 :: sl156 :: sl157 :: sl158 :: sl159 :: sl160 :: sl161 :: sl162 :: sl163 :: sl164 :: sl165 :: sl166 :: sl167 :: sl168 :: sl169 :: sl170 :: sl171 :: sl172 :: sl173 :: sl174 :: sl175 :: sl176 :: sl177 :: sl178 :: sl179 :: sl180 :: sl181 :: sl182 :: sl183 :: sl184 :: sl185 :: sl186 :: sl187 :: sl188 :: sl189 :: sl190 :: sl191 :: sl192 :: sl193 :: sl194 :: sl195 :: sl196 :: sl197 :: sl198 :: sl199 :: sl200 :: sl201 :: sl202 :: sl203 :: sl204 :: sl205 :: sl206 :: sl207 :: sl208 :: sl209 :: sl210 :: sl211 :: sl212 :: sl213 :: sl214 :: sl215 :: sl216 :: sl217 :: sl218 :: sl219 :: sl220 :: sl221 :: sl222 :: sl223 :: sl224 :: sl225 :: sl226 :: sl227 :: sl228 :: sl229 :: sl230 :: sl231 :: sl232 :: sl233 :: sl234 :: sl235 :: sl236 :: sl237 :: sl238 :: sl239 :: sl240 :: sl241 :: sl242 :: sl243 :: sl244 :: sl245 :: sl246 :: sl247 :: sl248 :: sl249 :: sl250 :: sl251 :: sl252 :: sl253 :: sl254 :: sl255 :: sl256 :: sl257 :: sl258 :: sl259 :: sl260 :: sl261 :: (.int .i64 n) :: (.int .i64 0) :: sl264 :: sl265 :: sl266 :: sl267 :: sl268 :: sl269 :: sl270 :: sl271 :: sl272 :: sl273 :: sl274 :: sl275 :: sl276 :: sl277 :: sl278 :: sl279 :: sl280 :: sl281 :: sl282 :: sl283 :: sl284 :: []), []⟩ ws := by
  subst hC
  conv => arg 2; whnf
  go_cut [] from 99999 (fun W => Below ws.heap.size ws W)
  case rest => exact hK _ _ _ _ _ _ _ _ _ _ _ _ _ _ _ _ _ _ _ _ _ _ _ _ _ hcut
  case first =>
    clear hK
    have Q := hide (Below.refl ws.heap.size ws)
    have HN := hide hn
    have HR := hide hr
    have HNL := hide (show n = nl by omega)
    clear hr hn hnl
    go_wp2_with fail
    go_loopw [263] (fun vi W => ∃ k : Nat, k ≤ n ∧ vi = .int .i64 k ∧ Hid (W.heap[c]? = some (.cells i.cs.toArray 47 (0, 0))) ∧ Hid (i.Ok W) ∧ Hid (Below ws.heap.size ws W)) (fun vi _ => n - (intOf vi).toNat)
    case atStart => exact ⟨0, Nat.zero_le _, rfl, I, hI, Q⟩
    case round =>
      clear I hI Q
      obtain ⟨k, hk, rfl, I, hI, Q⟩ := hrel
      by_cases hlt : k < n
      · have hki : (k : Int) < (n : Int) := by omega
        have hki2 : (k : Int) < (nl : Int) := by have := HNL.out; omega
        have hkv : k < i.G.l.length := by rw [← HN.out]; exact hlt
        obtain ⟨vb, vo, rfl, hvb, n9⟩ := InR.at_ HW.out hkv
        replace n9 := cellBelow Q.out hvb n9
        have C1 := hide (comRead_ok i k wr hI.out HR.out hkv)
        obtain ⟨v, hv⟩ : ∃ v, v = i.G.l[k] := ⟨_, rfl⟩
        rw [← hv] at C1 n9
        clear hv hkv
        go_wp2_with (refine wpList_load_row rfl 47 (.tmp 19) (by rfl) c (by rfl) 47 i.cs.toArray (0, 0) _ (by exact I.out) Tryz.underlying47 (by rfl) (by kernel_rfl) ?_)
        (with_reducible refine (C1.out).mono ?_)
        rintro e1 w1 ⟨rfl, q⟩
        replace n9 := cellBelow q (by have := Q.out.size; omega) n9
        clear C1
        replace I := hide (heap_below I.out q)
        replace hI := hide ((hI.out.next q))
        replace Q := hide (below_next Q.out Q.out.size q)
        clear q
        go_wp2_with fail
        go_roundw
        case rel => exact ⟨k + 1, by omega, by go_num, I, hI, Q⟩
        case measure => simp [intOf]; omega
      · obtain rfl : k = n := by omega
        have hki : ¬ (k : Int) < (k : Int) := by omega
        go_wp2_with fail
        go_meet
        exact Q.out
end Go.Proofs.YtnhegnneohpkaaaGreat
