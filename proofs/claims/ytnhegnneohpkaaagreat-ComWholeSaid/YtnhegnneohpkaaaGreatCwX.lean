/- Parts of the walk of ComWhole: the layout's loop, the writes. -/
import Derived.Test.YtnhegnneohpkaaaGreatMgApL
namespace Go.Proofs.YtnhegnneohpkaaaGreat
open Go.ChangeShapes Go.WideShapes Go.ChangeAt Go.RowKit
open CM PD SG

set_option maxRecDepth 100000 in
set_option maxHeartbeats 32000000 in
theorem comWhole_layout (w ws : World) (lb yb base n c : Nat) (sz : Int) (A : Option Addr) (yes : Wy) (hn : n ≤ 18) (hlb : lb < base) (hyb : yb < base) (hne : yb ≠ lb) (hwl : w.heap.size ≤ lb) (hwb : w.heap.size ≤ base)  {sl0 sl1 sl2 sl3 sl4 sl5 sl6 sl8 sl9 sl10 sl11 sl12 sl13 sl14 sl16 sl17 sl18 sl19 sl20 sl21 sl22 sl23 sl24 sl25 sl26 sl27 sl28 sl29 sl30 sl31 sl32 sl33 sl34 sl35 sl36 sl37 sl38 sl39 sl40 sl41 sl42 sl43 sl44 sl45 sl46 sl47 sl48 sl49 sl50 sl51 sl52 sl55 sl56 sl57 sl58 sl59 sl60 sl61 sl62 sl63 sl64 sl65 sl66 sl67 sl68 sl69 sl70 sl71 sl72 sl73 sl74 sl75 sl76 sl77 sl78 sl79 sl80 sl81 sl82 sl83 sl84 sl85 sl86 sl87 sl88 sl89 sl90 sl91 sl92 sl93 sl94 sl95 sl96 sl97 sl98 sl99 sl100 sl101 sl102 sl103 sl104 sl105 sl106 sl107 sl108 sl109 sl110 sl111 sl112 sl113 sl114 sl115 sl116 sl117 sl118 sl119 sl120 sl121 sl122 sl123 sl124 sl125 sl126 sl127 sl128 sl129 sl130 sl131 sl132 sl133 sl134 sl135 sl136 sl137 sl138 sl139 sl140 sl141 sl142 sl143 sl144 sl145 sl146 sl147 sl148 sl149 sl150 sl151 sl152 sl153 sl154 sl155 sl156 sl157 sl158 sl159 sl160 sl161 sl162 sl163 sl164 sl165 sl166 sl167 sl168 sl169 sl170 sl171 sl172 sl173 sl174 sl175 sl176 sl177 sl178 sl179 sl180 sl181 sl182 sl183 sl184 sl185 sl186 sl187 sl188 sl189 sl190 sl191 sl192 sl193 sl194 sl195 sl196 sl197 sl198 sl199 sl200 sl201 sl202 sl203 sl204 sl205 sl206 sl207 sl208 sl209 sl210 sl211 sl212 sl213 sl214 sl215 sl216 sl217 sl218 sl219 sl220 sl221 sl222 sl223 sl224 sl225 sl226 sl227 sl228 sl229 sl230 sl231 sl232 sl233 sl234 sl235 sl236 sl237 sl238 sl239 sl240 sl241 sl242 sl243 sl244 sl245 sl246 sl247 sl248 sl249 sl250 sl251 sl252 sl253 sl254 sl255 sl256 sl257 sl258 sl259 sl260 sl261 sl262 sl263 sl264 sl265 sl266 sl267 sl268 sl269 sl270 sl271 sl272 sl273 sl274 sl275 sl276 sl277 sl278 sl279 sl280 sl281 sl282 sl283 sl284 : Value} {K' : Act → World → Prop} {Q' : Exit → Act → World → Prop} {Cd : Code} (hC : Cd = partC Tryz.f4.body (isBlock 0))
    (hbs : Hid (base ≤ ws.heap.size))
    (B : Hid (ws.heap[lb]? = some (.cells #[.int .i64 sz, .slice A n c, .slice none 0 0] 27 (0, 0))))
    (Y : Hid (ws.heap[yb]? = some (.cells (wycL yes).toArray 32 (0, 0))))
    (Q : Hid (Below w.heap.size w ws))
    (hQ : ∀ c (a : Act) d v w, Q' (.panic c) (a.put d v) w → Q' (.panic c) a w)
    (hK : ∀ (v15 v54 v55 v56 v57 v58 v59 v60 v61 v62 v63 v64 v65 : Value) (W' : World), (fun v15 W => ∃ NA nc FA fc, v15 = .slice FA n fc ∧ Hid (W.heap[lb]? = some (.cells #[.int .i64 sz, .slice A n c, .slice NA n nc] 27 (0, 0))) ∧ Hid (W.heap[yb]? = some (.cells (wycL yes).toArray 32 (0, 0))) ∧ Hid (Own W base 3 1 NA nc (List.replicate n [.int .i64 (-1)])) ∧ Hid (Own W base 29 9 FA fc (List.replicate n (flcL aFlt))) ∧ Hid (base ≤ W.heap.size) ∧ Hid (Below w.heap.size w W)) v15 W' → K' ⟨List.toArray (sl0 :: sl1 :: sl2 :: sl3 :: sl4 :: sl5 :: sl6 :: (.pointer (some ⟨lb, 0, none⟩)) :: sl8 :: sl9 :: sl10 :: sl11 :: sl12 :: sl13 :: sl14 :: v15 :: sl16 :: sl17 :: sl18 :: sl19 :: sl20 :: sl21 :: sl22 :: sl23 :: sl24 :: sl25 :: sl26 :: sl27 :: sl28 :: sl29 :: sl30 :: sl31 :: sl32 :: sl33 :: sl34 :: sl35 :: sl36 :: sl37 :: sl38 :: sl39 :: sl40 :: sl41 :: sl42 :: sl43 :: sl44 :: sl45 :: sl46 :: sl47 :: sl48 :: sl49 :: sl50 :: sl51 :: sl52 :: (.int .i64 n) :: v54 :: v55 :: v56 :: v57 :: v58 :: v59 :: v60 :: v61 :: v62 :: v63 :: v64 :: v65 :: sl66 :: sl67 :: sl68 :: sl69 :: sl70 :: sl71 :: sl72 :: sl73 :: sl74 :: sl75 :: sl76 :: sl77 :: sl78 :: sl79 :: sl80 :: sl81 :: sl82 :: sl83 :: sl84 :: sl85 :: sl86 :: sl87 :: sl88 :: sl89 :: sl90 :: sl91 :: sl92 :: sl93 :: sl94 :: sl95 :: sl96 :: sl97 :: sl98 :: sl99 :: sl100 :: sl101 :: sl102 :: sl103 :: sl104 :: sl105 :: sl106 :: sl107 :: sl108 :: sl109 :: sl110 :: sl111 :: sl112 :: sl113 :: sl114 :: sl115 :: sl116 :: sl117 :: sl118 :: sl119 :: sl120 :: sl121 :: sl122 :: sl123 :: sl124 :: sl125 :: sl126 :: sl127 :: sl128 :: sl129 :: sl130 :: sl131 :: sl132 :: sl133 :: sl134 :: sl135 :: sl136 :: sl137 :: sl138 :: sl139 :: sl140 :: sl141 :: sl142 :: sl143 :: sl144 :: sl145 :: sl146 :: sl147 :: sl148 :: sl149 :: sl150 :: sl151 :: sl152 :: sl153 :: sl154 :: sl155 :: sl156 :: sl157 :: sl158 :: sl159 :: sl160 :: sl161 :: sl162 :: sl163 :: sl164 :: sl165 :: sl166 :: sl167 :: sl168 :: sl169 :: sl170 :: sl171 :: sl172 :: sl173 :: sl174 :: sl175 :: sl176 :: sl177 :: sl178 :: sl179 :: sl180 :: sl181 :: sl182 :: sl183 :: sl184 :: sl185 :: sl186 :: sl187 :: sl188 :: sl189 :: sl190 :: sl191 :: sl192 :: sl193 :: sl194 :: sl195 :: sl196 :: sl197 :: sl198 :: sl199 :: sl200 :: sl201 :: sl202 :: sl203 :: sl204 :: sl205 :: sl206 :: sl207 :: sl208 :: sl209 :: sl210 :: sl211 :: sl212 :: sl213 :: sl214 :: sl215 :: sl216 :: sl217 :: sl218 :: sl219 :: sl220 :: sl221 :: sl222 :: sl223 :: sl224 :: sl225 :: sl226 :: sl227 :: sl228 :: sl229 :: sl230 :: sl231 :: sl232 :: sl233 :: sl234 :: sl235 :: sl236 :: sl237 :: sl238 :: sl239 :: sl240 :: sl241 :: sl242 :: sl243 :: sl244 :: sl245 :: sl246 :: sl247 :: sl248 :: sl249 :: sl250 :: sl251 :: sl252 :: sl253 :: sl254 :: sl255 :: sl256 :: sl257 :: sl258 :: sl259 :: sl260 :: sl261 :: sl262 :: sl263 :: sl264 :: sl265 :: sl266 :: sl267 :: sl268 :: sl269 :: sl270 :: sl271 :: sl272 :: sl273 :: sl274 :: sl275 :: sl276 :: sl277 :: sl278 :: sl279 :: sl280 :: sl281 :: sl282 :: sl283 :: sl284 :: []), []⟩ W') :
    Cd.wp Tryz.prog (Exit.then K' Q') ⟨List.toArray (sl0 :: sl1 :: sl2 :: sl3 :: sl4 :: sl5 :: sl6 :: (.pointer (some ⟨lb, 0, none⟩)) :: sl8 :: sl9 :: sl10 :: sl11 :: sl12 :: sl13 :: sl14 :: (.slice none 0 0) :: sl16 :: sl17 :: sl18 :: sl19 :: sl20 :: sl21 :: sl22 :: sl23 :: sl24 :: sl25 :: sl26 :: sl27 :: sl28 :: sl29 :: sl30 :: sl31 :: sl32 :: sl33 :: sl34 :: sl35 :: sl36 :: sl37 :: sl38 :: sl39 :: sl40 :: sl41 :: sl42 :: sl43 :: sl44 :: sl45 :: sl46 :: sl47 :: sl48 :: sl49 :: sl50 :: sl51 :: sl52 :: (.int .i64 n) :: (.int .i64 0) :: sl55 :: sl56 :: sl57 :: sl58 :: sl59 :: sl60 :: sl61 :: sl62 :: sl63 :: sl64 :: sl65 :: sl66 :: sl67 :: sl68 :: sl69 :: sl70 :: sl71 :: sl72 :: sl73 :: sl74 :: sl75 :: sl76 :: sl77 :: sl78 :: sl79 :: sl80 :: sl81 :: sl82 :: sl83 :: sl84 :: sl85 :: sl86 :: sl87 :: sl88 :: sl89 :: sl90 :: sl91 :: sl92 :: sl93 :: sl94 :: sl95 :: sl96 :: sl97 :: sl98 :: sl99 :: sl100 :: sl101 :: sl102 :: sl103 :: sl104 :: sl105 :: sl106 :: sl107 :: sl108 :: sl109 :: sl110 :: sl111 :: sl112 :: sl113 :: sl114 :: sl115 :: sl116 :: sl117 :: sl118 :: sl119 :: sl120 :: sl121 :: sl122 :: sl123 :: sl124 :: sl125 :: sl126 :: sl127 :: sl128 :: sl129 :: sl130 :: sl131 :: sl132 :: sl133 :: sl134 :: sl135 :: sl136 :: sl137 :: sl138 :: sl139 :: sl140 :: sl141 :: sl142 :: sl143 :: sl144 :: sl145 :: sl146 :: sl147 :: sl148 :: sl149 :: sl150 :: sl151 :: sl152 :: sl153 :: sl154 :: sl155 :: sl156 :: sl157 :: sl158 :: sl159 :: sl160 :: sl161 :: sl162 :: sl163 :: sl164 :: sl165 :: sl166 :: sl167 :: sl168 :: sl169 :: sl170 :: sl171 :: sl172 :: sl173 :: sl174 :: sl175 :: sl176 :: sl177 :: sl178 :: sl179 :: sl180 :: sl181 :: sl182 :: sl183 :: sl184 :: sl185 :: sl186 :: sl187 :: sl188 :: sl189 :: sl190 :: sl191 :: sl192 :: sl193 :: sl194 :: sl195 :: sl196 :: sl197 :: sl198 :: sl199 :: sl200 :: sl201 :: sl202 :: sl203 :: sl204 :: sl205 :: sl206 :: sl207 :: sl208 :: sl209 :: sl210 :: sl211 :: sl212 :: sl213 :: sl214 :: sl215 :: sl216 :: sl217 :: sl218 :: sl219 :: sl220 :: sl221 :: sl222 :: sl223 :: sl224 :: sl225 :: sl226 :: sl227 :: sl228 :: sl229 :: sl230 :: sl231 :: sl232 :: sl233 :: sl234 :: sl235 :: sl236 :: sl237 :: sl238 :: sl239 :: sl240 :: sl241 :: sl242 :: sl243 :: sl244 :: sl245 :: sl246 :: sl247 :: sl248 :: sl249 :: sl250 :: sl251 :: sl252 :: sl253 :: sl254 :: sl255 :: sl256 :: sl257 :: sl258 :: sl259 :: sl260 :: sl261 :: sl262 :: sl263 :: sl264 :: sl265 :: sl266 :: sl267 :: sl268 :: sl269 :: sl270 :: sl271 :: sl272 :: sl273 :: sl274 :: sl275 :: sl276 :: sl277 :: sl278 :: sl279 :: sl280 :: sl281 :: sl282 :: sl283 :: sl284 :: []), []⟩ ws := by
  subst hC
  conv => arg 2; whnf
  go_cut [15] from 99999 (fun v15 W => ∃ NA nc FA fc, v15 = .slice FA n fc ∧ Hid (W.heap[lb]? = some (.cells #[.int .i64 sz, .slice A n c, .slice NA n nc] 27 (0, 0))) ∧ Hid (W.heap[yb]? = some (.cells (wycL yes).toArray 32 (0, 0))) ∧ Hid (Own W base 3 1 NA nc (List.replicate n [.int .i64 (-1)])) ∧ Hid (Own W base 29 9 FA fc (List.replicate n (flcL aFlt))) ∧ Hid (base ≤ W.heap.size) ∧ Hid (Below w.heap.size w W))
  case rest => exact hK _ _ _ _ _ _ _ _ _ _ _ _ _ _ hcut
  case first =>
    clear hK
    go_wp2_with fail
    go_loopw [54, 15] (fun vi vf W => ∃ k : Nat, k ≤ n ∧ vi = .int .i64 k ∧ ∃ NA nc FA fc, vf = .slice FA k fc ∧ Hid (W.heap[lb]? = some (.cells #[.int .i64 sz, .slice A n c, .slice NA k nc] 27 (0, 0))) ∧ Hid (W.heap[yb]? = some (.cells (wycL yes).toArray 32 (0, 0))) ∧ Hid (Own W base 3 1 NA nc (List.replicate k [.int .i64 (-1)])) ∧ Hid (Own W base 29 9 FA fc (List.replicate k (flcL aFlt))) ∧ Hid (base ≤ W.heap.size) ∧ Hid (Below w.heap.size w W)) (fun vi _ _ => n - (intOf vi).toNat)
    case atStart => exact ⟨0, Nat.zero_le _, rfl, none, 0, none, 0, rfl, B, Y, hide Own.nil, hide Own.nil, hbs, Q⟩
    case round =>
      clear B Y hbs Q
      obtain ⟨k, hk, rfl, NA, nc, FA, fc, rfl, B, Y, ON, OF, hbs, Q⟩ := hrel
      by_cases hlt : k < n
      · have hki : (k : Int) < (n : Int) := by omega
        obtain ⟨b0, b1, b2⟩ := three_cells B.out
        have zb := hbs.out
        go_wp2_with (at_builtin; refine wpList_append_one _ _ [.int .i64 (-1)] (by rfl) rfl _ _ 25 rfl slIntW (by decide) rfl (by simp [Value.oneCell']) base _ _ _ (List.replicate k [.int .i64 (-1)]) (by rfl) (by exact ON.out) 1 (by rfl) (by simp; omega) (by exact zb) (by simp) ?_)
        intro NA2 nc2 w2 ap
        replace B := hide (ap.low B.out hlb)
        replace Y := hide (ap.low Y.out hyb)
        replace OF := hide (ap.other OF.out (by decide))
        replace ON := hide (show Own w2 base 3 1 NA2 nc2 (List.replicate (k + 1) [.int .i64 (-1)]) by rw [List.replicate_succ']; exact ap.own)
        replace Q := hide (ap.q Q.out hwb)
        replace hbs := hide (show base ≤ w2.heap.size from Nat.le_trans hbs.out ap.below.size)
        clear ap b0 b1 b2 zb
        obtain ⟨b0, b1, b2⟩ := three_cells B.out
        have f2 : w2.frozen? ⟨lb, 2, none⟩ = false := by have := B.out; simp [World.frozen?, this]
        go_upto_region 7 with fail
        clear b0 b1 b2 f2
        obtain ⟨w3, e3⟩ : ∃ w3, w3 = w2.setCell ⟨lb, 2, none⟩ (.slice NA2 (k + 1) nc2) := ⟨_, rfl⟩
        rw [← e3]
        replace e3 : Hid (w3 = w2.setCells lb 2 [.slice NA2 (k + 1) nc2]) := hide e3
        replace B := hide (show w3.heap[lb]? = some (.cells #[.int .i64 sz, .slice A n c, .slice NA2 (k + 1 : Nat) nc2] 27 (0, 0)) by rw [e3.out]; exact heap_setCell_same w2 lb 2 _ _ _ B.out)
        replace Y := hide (show w3.heap[yb]? = some (.cells (wycL yes).toArray 32 (0, 0)) by rw [e3.out]; exact other_heap hne _ _ _ Y.out)
        replace ON := hide (show Own w3 base 3 1 NA2 nc2 (List.replicate (k + 1) [.int .i64 (-1)]) by rw [e3.out]; exact own_setCells hlb _ _ _ ON.out)
        replace OF := hide (show Own w3 base 29 9 FA fc (List.replicate k (flcL aFlt)) by rw [e3.out]; exact own_setCells hlb _ _ _ OF.out)
        replace Q := hide (show Below w.heap.size w w3 by rw [e3.out]; exact Q.out.trans (below_setCells _ _ _ hwl))
        replace hbs := hide (show base ≤ w3.heap.size by rw [e3.out, setCells_size]; exact hbs.out)
        have zb := hbs.out
        clear e3
        go_wp2_with (at_builtin; refine wpList_append_one _ _ (flcL aFlt) (by rfl) rfl _ _ 30 rfl slFlt (by decide) rfl (by simp [Value.oneCell', flcL]) base _ _ _ (List.replicate k (flcL aFlt)) (by rfl) (by exact OF.out) 1 (by rfl) (by simp; omega) (by exact zb) (by simp) ?_)
        intro FA2 fc2 w4 ap
        replace B := hide (ap.low B.out hlb)
        replace Y := hide (ap.low Y.out hyb)
        replace ON := hide (ap.other ON.out (by decide))
        replace OF := hide (show Own w4 base 29 9 FA2 fc2 (List.replicate (k + 1) (flcL aFlt)) by rw [List.replicate_succ']; exact ap.own)
        replace Q := hide (ap.q Q.out hwb)
        replace hbs := hide (show base ≤ w4.heap.size from Nat.le_trans hbs.out ap.below.size)
        clear ap zb
        go_wp2_with fail
        go_roundw
        case rel => exact ⟨k + 1, by omega, by go_num, NA2, nc2, FA2, fc2, rfl, B, Y, ON, OF, hbs, Q⟩
        case measure => simp [intOf]; omega
      · obtain rfl : k = n := by omega
        have hki : ¬ (k : Int) < (k : Int) := by omega
        go_wp2_with fail
        go_meet
        exact ⟨NA, nc, FA, fc, rfl, B, Y, ON, OF, hbs, Q⟩

set_option maxRecDepth 100000 in
set_option maxHeartbeats 32000000 in
theorem comWhole_writes (w1 ws : World) (b c N : Nat) (first : List Int) (CA : Option Addr) (cc gg gc : Nat) (gs : List Value) (o : Ou) (i : Inn) (L : Ly) (S G : List Int) (m : Int) (vl : List Int) (va : Option Addr) (vc : Nat) (gv lo : Bool) (tk : Int) (ac : List Value) (ab : Nat) (nv : Value) (fb : Bool) (wl : WL L) (hm : m < 1099511627776) (hS : fitA L S = true) (hG : fitA L G = true) (ro : RO L S G m o) {sl0 sl1 sl2 sl3 sl4 sl5 sl6 sl7 sl8 sl9 sl10 sl11 sl12 sl13 sl14 sl15 sl16 sl18 sl19 sl20 sl21 sl22 sl24 sl25 sl26 sl28 sl29 sl30 sl31 sl32 sl33 sl34 sl35 sl36 sl37 sl38 sl39 sl40 sl41 sl42 sl43 sl44 sl45 sl46 sl47 sl48 sl49 sl50 sl51 sl52 sl53 sl54 sl55 sl56 sl57 sl58 sl59 sl60 sl61 sl62 sl63 sl64 sl65 sl66 sl67 sl68 sl69 sl70 sl71 sl72 sl73 sl74 sl75 sl76 sl77 sl78 sl79 sl80 sl81 sl82 sl83 sl84 sl85 sl86 sl87 sl88 sl89 sl90 sl91 sl92 sl93 sl94 sl95 sl96 sl97 sl98 sl99 sl100 sl101 sl102 sl103 sl104 sl105 sl106 sl107 sl108 sl109 sl110 sl111 sl112 sl113 sl114 sl115 sl116 sl117 sl118 sl119 sl120 sl121 sl122 sl123 sl124 sl125 sl126 sl127 sl128 sl129 sl130 sl131 sl132 sl133 sl134 sl135 sl136 sl137 sl138 sl139 sl140 sl141 sl142 sl143 sl144 sl145 sl146 sl147 sl148 sl149 sl150 sl151 sl152 sl153 sl154 sl155 sl156 sl157 sl159 sl160 sl161 sl162 sl163 sl164 sl165 sl166 sl167 sl168 sl169 sl170 sl171 sl172 sl173 sl174 sl175 sl176 sl177 sl178 sl179 sl180 sl181 sl182 sl183 sl184 sl185 sl186 sl187 sl188 sl189 sl190 sl191 sl192 sl193 sl194 sl195 sl196 sl197 sl198 sl199 sl200 sl201 sl202 sl203 sl204 sl205 sl206 sl207 sl208 sl209 sl210 sl211 sl212 sl213 sl214 sl215 sl216 sl217 sl218 sl219 sl220 sl221 sl222 sl223 sl224 sl225 sl226 sl227 sl228 sl229 sl230 sl231 sl232 sl233 sl234 sl235 sl236 sl237 sl238 sl239 sl240 sl241 sl242 sl243 sl244 sl245 sl246 sl247 sl248 sl249 sl250 sl251 sl252 sl253 sl254 sl255 sl256 sl257 sl258 sl259 sl260 sl261 sl262 sl263 sl264 sl265 sl266 sl267 sl268 sl269 sl270 sl271 sl272 sl273 sl274 sl275 sl276 sl277 sl278 sl279 sl280 sl281 sl282 sl283 sl284 : Value} {K' : Act → World → Prop} {Q' : Exit → Act → World → Prop} {Cd : Code} (hC : Cd = partC Tryz.f4.body (isCond 158))
    (HF : Hid (fitA L vl = fb))
    (H : St w1 ws b c N first CA cc gg gc gs o i)
    (A : Hid (ws.heap[ab]? = some (.cells ac.toArray 69 (0, 0))))
    (HV : Hid (InR w1 w1.heap.size va vl))
    (HAC : Hid (ac = Dd.cs ⟨⟨vl, va, vc⟩, gv, lo, tk⟩))
    (LV : Hid (∀ v ∈ vl, lim v))
    (zab : c < ab)
    (gn : 0 < gs.length)
    (zb : w1.heap.size ≤ b)
    (zbc : b < c)
    (zcN : c < N)
    (hQ : ∀ c (a : Act) d v w, Q' (.panic c) (a.put d v) w → Q' (.panic c) a w)
    (hK : ∀ (v14 v23 v28 v29 v30 v31 v159 v160 v161 v162 v163 v164 v165 v166 v167 v168 v169 v170 v171 v172 v173 v174 v175 v176 v177 v178 v179 : Value) (W' : World), (fun v23 W => ∃ o' : Ou, St w1 W b c N first CA cc gg gc gs o' i ∧ Hid (W.heap[ab]? = some (.cells ac.toArray 69 (0, 0))) ∧ RO L (if fb = true then vl else S) G m o' ∧ v23 = if fb = true then .slice va vl.length vc else nv) v23 W' → K' ⟨List.toArray (sl0 :: sl1 :: sl2 :: sl3 :: sl4 :: sl5 :: sl6 :: sl7 :: sl8 :: sl9 :: sl10 :: sl11 :: sl12 :: sl13 :: v14 :: sl15 :: sl16 :: (.pointer (some ⟨b, 0, none⟩)) :: sl18 :: sl19 :: sl20 :: sl21 :: sl22 :: v23 :: sl24 :: sl25 :: sl26 :: (.pointer (some ⟨ab, 0, none⟩)) :: v28 :: v29 :: v30 :: v31 :: sl32 :: sl33 :: sl34 :: sl35 :: sl36 :: sl37 :: sl38 :: sl39 :: sl40 :: sl41 :: sl42 :: sl43 :: sl44 :: sl45 :: sl46 :: sl47 :: sl48 :: sl49 :: sl50 :: sl51 :: sl52 :: sl53 :: sl54 :: sl55 :: sl56 :: sl57 :: sl58 :: sl59 :: sl60 :: sl61 :: sl62 :: sl63 :: sl64 :: sl65 :: sl66 :: sl67 :: sl68 :: sl69 :: sl70 :: sl71 :: sl72 :: sl73 :: sl74 :: sl75 :: sl76 :: sl77 :: sl78 :: sl79 :: sl80 :: sl81 :: sl82 :: sl83 :: sl84 :: sl85 :: sl86 :: sl87 :: sl88 :: sl89 :: sl90 :: sl91 :: sl92 :: sl93 :: sl94 :: sl95 :: sl96 :: sl97 :: sl98 :: sl99 :: sl100 :: sl101 :: sl102 :: sl103 :: sl104 :: sl105 :: sl106 :: sl107 :: sl108 :: sl109 :: sl110 :: sl111 :: sl112 :: sl113 :: sl114 :: sl115 :: sl116 :: sl117 :: sl118 :: sl119 :: sl120 :: sl121 :: sl122 :: sl123 :: sl124 :: sl125 :: sl126 :: sl127 :: sl128 :: sl129 :: sl130 :: sl131 :: sl132 :: sl133 :: sl134 :: sl135 :: sl136 :: sl137 :: sl138 :: sl139 :: sl140 :: sl141 :: sl142 :: sl143 :: sl144 :: sl145 :: sl146 :: sl147 :: sl148 :: sl149 :: sl150 :: sl151 :: sl152 :: sl153 :: sl154 :: sl155 :: sl156 :: sl157 :: (.bool fb) :: v159 :: v160 :: v161 :: v162 :: v163 :: v164 :: v165 :: v166 :: v167 :: v168 :: v169 :: v170 :: v171 :: v172 :: v173 :: v174 :: v175 :: v176 :: v177 :: v178 :: v179 :: sl180 :: sl181 :: sl182 :: sl183 :: sl184 :: sl185 :: sl186 :: sl187 :: sl188 :: sl189 :: sl190 :: sl191 :: sl192 :: sl193 :: sl194 :: sl195 :: sl196 :: sl197 :: sl198 :: sl199 :: sl200 :: sl201 :: sl202 :: sl203 :: sl204 :: sl205 :: sl206 :: sl207 :: sl208 :: sl209 :: sl210 :: sl211 :: sl212 :: sl213 :: sl214 :: sl215 :: sl216 :: sl217 :: sl218 :: sl219 :: sl220 :: sl221 :: sl222 :: sl223 :: sl224 :: sl225 :: sl226 :: sl227 :: sl228 :: sl229 :: sl230 :: sl231 :: sl232 :: sl233 :: sl234 :: sl235 :: sl236 :: sl237 :: sl238 :: sl239 :: sl240 :: sl241 :: sl242 :: sl243 :: sl244 :: sl245 :: sl246 :: sl247 :: sl248 :: sl249 :: sl250 :: sl251 :: sl252 :: sl253 :: sl254 :: sl255 :: sl256 :: sl257 :: sl258 :: sl259 :: sl260 :: sl261 :: sl262 :: sl263 :: sl264 :: sl265 :: sl266 :: sl267 :: sl268 :: sl269 :: sl270 :: sl271 :: sl272 :: sl273 :: sl274 :: sl275 :: sl276 :: sl277 :: sl278 :: sl279 :: sl280 :: sl281 :: sl282 :: sl283 :: sl284 :: []), []⟩ W') :
    Cd.wp Tryz.prog (Exit.then K' Q') ⟨List.toArray (sl0 :: sl1 :: sl2 :: sl3 :: sl4 :: sl5 :: sl6 :: sl7 :: sl8 :: sl9 :: sl10 :: sl11 :: sl12 :: sl13 :: sl14 :: sl15 :: sl16 :: (.pointer (some ⟨b, 0, none⟩)) :: sl18 :: sl19 :: sl20 :: sl21 :: sl22 :: (nv) :: sl24 :: sl25 :: sl26 :: (.pointer (some ⟨ab, 0, none⟩)) :: sl28 :: sl29 :: sl30 :: sl31 :: sl32 :: sl33 :: sl34 :: sl35 :: sl36 :: sl37 :: sl38 :: sl39 :: sl40 :: sl41 :: sl42 :: sl43 :: sl44 :: sl45 :: sl46 :: sl47 :: sl48 :: sl49 :: sl50 :: sl51 :: sl52 :: sl53 :: sl54 :: sl55 :: sl56 :: sl57 :: sl58 :: sl59 :: sl60 :: sl61 :: sl62 :: sl63 :: sl64 :: sl65 :: sl66 :: sl67 :: sl68 :: sl69 :: sl70 :: sl71 :: sl72 :: sl73 :: sl74 :: sl75 :: sl76 :: sl77 :: sl78 :: sl79 :: sl80 :: sl81 :: sl82 :: sl83 :: sl84 :: sl85 :: sl86 :: sl87 :: sl88 :: sl89 :: sl90 :: sl91 :: sl92 :: sl93 :: sl94 :: sl95 :: sl96 :: sl97 :: sl98 :: sl99 :: sl100 :: sl101 :: sl102 :: sl103 :: sl104 :: sl105 :: sl106 :: sl107 :: sl108 :: sl109 :: sl110 :: sl111 :: sl112 :: sl113 :: sl114 :: sl115 :: sl116 :: sl117 :: sl118 :: sl119 :: sl120 :: sl121 :: sl122 :: sl123 :: sl124 :: sl125 :: sl126 :: sl127 :: sl128 :: sl129 :: sl130 :: sl131 :: sl132 :: sl133 :: sl134 :: sl135 :: sl136 :: sl137 :: sl138 :: sl139 :: sl140 :: sl141 :: sl142 :: sl143 :: sl144 :: sl145 :: sl146 :: sl147 :: sl148 :: sl149 :: sl150 :: sl151 :: sl152 :: sl153 :: sl154 :: sl155 :: sl156 :: sl157 :: (.bool fb) :: sl159 :: sl160 :: sl161 :: sl162 :: sl163 :: sl164 :: sl165 :: sl166 :: sl167 :: sl168 :: sl169 :: sl170 :: sl171 :: sl172 :: sl173 :: sl174 :: sl175 :: sl176 :: sl177 :: sl178 :: sl179 :: sl180 :: sl181 :: sl182 :: sl183 :: sl184 :: sl185 :: sl186 :: sl187 :: sl188 :: sl189 :: sl190 :: sl191 :: sl192 :: sl193 :: sl194 :: sl195 :: sl196 :: sl197 :: sl198 :: sl199 :: sl200 :: sl201 :: sl202 :: sl203 :: sl204 :: sl205 :: sl206 :: sl207 :: sl208 :: sl209 :: sl210 :: sl211 :: sl212 :: sl213 :: sl214 :: sl215 :: sl216 :: sl217 :: sl218 :: sl219 :: sl220 :: sl221 :: sl222 :: sl223 :: sl224 :: sl225 :: sl226 :: sl227 :: sl228 :: sl229 :: sl230 :: sl231 :: sl232 :: sl233 :: sl234 :: sl235 :: sl236 :: sl237 :: sl238 :: sl239 :: sl240 :: sl241 :: sl242 :: sl243 :: sl244 :: sl245 :: sl246 :: sl247 :: sl248 :: sl249 :: sl250 :: sl251 :: sl252 :: sl253 :: sl254 :: sl255 :: sl256 :: sl257 :: sl258 :: sl259 :: sl260 :: sl261 :: sl262 :: sl263 :: sl264 :: sl265 :: sl266 :: sl267 :: sl268 :: sl269 :: sl270 :: sl271 :: sl272 :: sl273 :: sl274 :: sl275 :: sl276 :: sl277 :: sl278 :: sl279 :: sl280 :: sl281 :: sl282 :: sl283 :: sl284 :: []), []⟩ ws := by
  subst hC
  conv => arg 2; whnf
  go_cut [23] from 99999 (fun v23 W => ∃ o' : Ou, St w1 W b c N first CA cc gg gc gs o' i ∧ Hid (W.heap[ab]? = some (.cells ac.toArray 69 (0, 0))) ∧ RO L (if fb = true then vl else S) G m o' ∧ v23 = if fb = true then .slice va vl.length vc else nv)
  case rest => exact hK _ _ _ _ _ _ _ _ _ _ _ _ _ _ _ _ _ _ _ _ _ _ _ _ _ _ _ _ hcut
  case first =>
    clear hK
    obtain ⟨O, I, hO, aO, hI, aI, OC, OG, Q⟩ := H
    cases fb with
    | false =>
      go_wp2_with fail
      go_meet
      exact ⟨o, ⟨O, I, hO, aO, hI, aI, OC, OG, Q⟩, A, ro, rfl⟩
    | true =>
      have hvl := (fitA_iff.1 HF.out).1
      have hsl := (fitA_iff.1 hS).1
      have hvn : vl.length ≤ 16 := by rw [hvl]; exact wl.n
      obtain ⟨a0, a1, a2, a3⟩ := dd_cells (a := ⟨⟨vl, va, vc⟩, gv, lo, tk⟩) (by have := A.out; rw [HAC.out] at this; exact this)
      dsimp only at a0
      have HSL := hide hsl
      have HVL := hide hvl
      have HRO : Hid (RO L (wrS S vl 0) G m o) := by rw [wrS_zero]; exact hide ro
      have HS := hide hS
      have HG := hide hG
      have HWL := hide wl
      obtain ⟨vn, hvn2⟩ : ∃ vn, vn = vl.length := ⟨_, rfl⟩
      rw [← hvn2] at a0 hvn
      clear hvl hsl ro hS hG wl
      replace hvn2 := hide hvn2
      have RV := hide (show Hid (InR w1 w1.heap.size va vl) from HV)
      go_wp2_with fail
      clear a0 a1 a2 a3
      go_loopw [162] (fun vi W => ∃ k : Nat, k ≤ vn ∧ vi = .int .i64 k ∧ ∃ o1 : Ou, Hid (RO L (wrS S vl k) G m o1) ∧ Hid (W.heap[b]? = some (.cells o1.cs.toArray 40 (0, 0))) ∧ Hid (W.heap[c]? = some (.cells i.cs.toArray 47 (0, 0))) ∧ Hid (W.heap[ab]? = some (.cells ac.toArray 69 (0, 0))) ∧ Hid (o1.Ok W) ∧ Hid (i.Ok W) ∧ Hid (Own W N 2 1 CA cc (inRow first)) ∧ Hid (Own W N 33 1 (some ⟨gg, 0, none⟩) gc (vRow gs)) ∧ Hid (Below w1.heap.size w1 W) ∧ Hid (o1.Away (Zb b c gg))) (fun vi _ => vn - (intOf vi).toNat)
      case atStart => exact ⟨0, Nat.zero_le _, rfl, o, HRO, O, I, A, hO, hI, OC, OG, Q, aO⟩
      case round =>
        clear HRO O I A hO hI OC OG Q aO
        obtain ⟨k, hk, rfl, o1, HRO, O, I, A, hO, hI, OC, OG, Q, aO⟩ := hrel
        by_cases hlt : k < vn
        · have hki : (k : Int) < (vn : Int) := by omega
          have hkv : k < vl.length := by rw [← hvn2.out]; exact hlt
          obtain ⟨vb, vo, rfl, hvb, n9⟩ := InR.at_ RV.out hkv
          replace n9 := cellBelow Q.out hvb n9
          obtain ⟨a0, a1, a2, a3⟩ := dd_cells (a := ⟨⟨vl, some ⟨vb, vo, none⟩, vc⟩, gv, lo, tk⟩) (by have := A.out; rw [HAC.out] at this; exact this)
          dsimp only at a0
          rw [← hvn2.out] at a0
          clear hvb
          have hr := HRO.out.right HWL.out hm (wrS_fit HS.out HF.out k (by omega)) HG.out
          have hkL : k < o1.ly.L.sgs.length := by rw [HRO.out.ly, ← HVL.out]; exact hkv
          have hfit : fitsB o1.ly.L.sgs[k] vl[k] = true := by
            have h1 := (fitA_iff.1 HF.out).2 k (by rw [← HVL.out]; exact hkv)
            rw [getDx (l := vl) _ hkv] at h1
            have h2 : k < L.sgs.length := by rw [← HVL.out]; exact hkv
            rw [getDx _ h2] at h1
            simp only [HRO.out.ly]
            exact h1
          have C1 := hide (comWrite_ok o1 k vl[k] wr hO.out hr hkL (LV.out _ (List.getElem_mem hkv)) hfit)
          have WS := hide (show wrS S vl (k + 1) = (wrS S vl k).set k vl[k] from (wrS_set hkv (by rw [HSL.out, HVL.out])).symm)
          obtain ⟨v, hv⟩ : ∃ v, v = vl[k] := ⟨_, rfl⟩
          rw [← hv] at C1 WS n9
          clear hr hkL hfit hv hkv
          have zO := heap_lt O.out
          have zI := heap_lt I.out
          have zQ := Q.out.size
          have zg := og_lt OG.out gn
          go_wp2_with (refine wpList_load_row rfl 40 (.tmp 17) (by rfl) b (by rfl) 40 o1.cs.toArray (0, 0) _ (by exact O.out) Tryz.underlying40 (by rfl) (by kernel_rfl) ?_)
          clear n9 a0 a1 a2 a3
          (with_reducible refine (C1.out).mono ?_)
          rintro ew1' w1' ⟨V, rfl, hV, iW, qw1'⟩
          replace O := hide (heap_below O.out qw1')
          replace I := hide (heap_below I.out qw1')
          replace A := hide (heap_below A.out qw1')
          replace hO := hide ((hO.out.next qw1'))
          replace hI := hide ((hI.out.next qw1'))
          replace OC := hide ((OC.out.grown qw1'))
          replace OG := hide ((OG.out.grown qw1'))
          replace Q := hide (below_next Q.out Q.out.size qw1')
          clear qw1'
          clear C1
          have aV := hide (iW.away aO.out (fun k h => by unfold Zb at h; omega))
          replace HRO := hide (show RO L (wrS S vl (k + 1)) G m V by rw [WS.out]; exact HRO.out.wr iW)
          clear aO iW WS
          replace hV := hide hV
          clear hO
          have X := World.alloc_heap_new w1' (.cells Ou.zero.cs.toArray 40)
          have zOx : b < w1'.heap.size := heap_lt O.out
          have zIx : c < w1'.heap.size := heap_lt I.out
          have zAx : ab < w1'.heap.size := heap_lt A.out
          have zQx : w1.heap.size ≤ w1'.heap.size := Q.out.size
          obtain ⟨w3', hw3'⟩ : ∃ wx, wx = w1'.alloc (.cells Ou.zero.cs.toArray 40) := ⟨_, rfl⟩
          have q2' := hide (show Below w1'.heap.size w1' w3' by rw [hw3']; exact (Below.refl _ _).alloc (Nat.le_refl _) _)
          rw [← hw3'] at X
          replace X := hide X
          have Tw4' := hide (show (w1'.alloc (.cells Ou.zero.cs.toArray 40)).there w1'.heap.size 0 26 by rw [← hw3']; exact there_heap (cs := Ou.zero.cs) X.out)
          go_wp2_with (refine wpList_store_hid (by rfl) 40 (.tmp 30) (.tmp 172) (by rfl) w1'.heap.size 0 V.cs (by rfl) (by rfl) (by exact Tw4'.out) (by kernel_rfl) (by simp [Value.oneCell', Ou.cs, Fv.v, Iv.v, Bv.v]) ?_)
          intro w4' ew4'
          replace ew4' : Hid (w4' = w3'.setCells w1'.heap.size 0 V.cs) := by rw [hw3']; exact ew4'
          replace X := hide (show w4'.heap[w1'.heap.size]? = some (.cells V.cs.toArray 40 (0, 0)) by rw [ew4'.out]; exact whole_heap V.cs (xs := Ou.zero.cs) X.out rfl)
          replace q2' := hide (show Below w1'.heap.size w1' w4' by rw [ew4'.out]; exact q2'.out.trans (below_setCells _ _ _ (by omega)))
          clear ew4' Tw4' hw3'
          replace O := hide (heap_below O.out q2'.out)
          replace I := hide (heap_below I.out q2'.out)
          replace A := hide (heap_below A.out q2'.out)
          replace hI := hide ((hI.out.next q2'.out))
          replace OC := hide ((OC.out.grown q2'.out))
          replace OG := hide ((OG.out.grown q2'.out))
          replace hV := hide ((hV.out.next q2'.out))
          replace Q := hide (below_next Q.out Q.out.size q2'.out)
          clear q2'
          generalize w1'.heap.size = x at *
          have Tw5' := hide (show World.there _ b 0 26 from there_heap (cs := o1.cs) O.out)
          go_wp2_with (first | (refine wpList_load_row rfl 40 (.tmp 30) (by rfl) x (by rfl) 40 V.cs.toArray (0, 0) _ (by exact X.out) Tryz.underlying40 (by rfl) (by kernel_rfl) ?_) | (refine wpList_store_hid (by rfl) 40 (.tmp 17) (.tmp 176) (by rfl) b 0 V.cs (by rfl) (by rfl) (by exact Tw5'.out) (by kernel_rfl) (by simp [Value.oneCell', Ou.cs, Fv.v, Iv.v, Bv.v]) ?_))
          intro w5' ew5'
          replace I := hide (show w5'.heap[c]? = some (.cells i.cs.toArray 47 (0, 0)) by rw [ew5'.out]; exact other_heap (by omega) _ _ _ I.out)
          replace A := hide (show w5'.heap[ab]? = some (.cells ac.toArray 69 (0, 0)) by rw [ew5'.out]; exact other_heap (by omega) _ _ _ A.out)
          replace X := hide (show w5'.heap[x]? = some (.cells V.cs.toArray 40 (0, 0)) by rw [ew5'.out]; exact other_heap (by omega) _ _ _ X.out)
          replace hI := hide (show i.Ok w5' by rw [ew5'.out]; exact hI.out.set aI.out (show Zb b c gg _ by unfold Zb; omega) _ _)
          replace OC := hide (show Own w5' N 2 1 CA cc (inRow first) by rw [ew5'.out]; exact own_setCells (by omega) _ _ _ OC.out)
          replace OG := hide (show Own w5' N 33 1 (some ⟨gg, 0, none⟩) gc (vRow gs) by rw [ew5'.out]; exact own_setCells (by omega) _ _ _ OG.out)
          replace hV := hide (show V.Ok w5' by rw [ew5'.out]; exact hV.out.set aV.out (show Zb b c gg _ by unfold Zb; omega) _ _)
          replace Q := hide (show Below w1.heap.size w1 w5' by rw [ew5'.out]; exact Q.out.trans (below_setCells _ _ _ (by have := Q.out.size; omega)))
          replace O := hide (show w5'.heap[b]? = some (.cells V.cs.toArray 40 (0, 0)) by rw [ew5'.out]; exact whole_heap V.cs (xs := o1.cs) O.out rfl)
          clear ew5' Tw5'
          clear X 
          go_wp2_with fail
          go_roundw
          case rel => exact ⟨k + 1, by omega, by go_num, V, HRO, O, I, A, hV, hI, OC, OG, Q, aV⟩
          case measure => simp [intOf]; omega
        · obtain rfl : k = vn := by omega
          have hki : ¬ (k : Int) < (k : Int) := by omega
          obtain ⟨a0, a1, a2, a3⟩ := dd_cells (a := ⟨⟨vl, va, vc⟩, gv, lo, tk⟩) (by have := A.out; rw [HAC.out] at this; exact this)
          dsimp only at a0
          rw [← hvn2.out] at a0
          have hfin : wrS S vl k = vl := by rw [hvn2.out]; exact wrS_all (by rw [HSL.out, HVL.out])
          rw [hfin] at HRO
          clear hfin
          go_wp2_with fail
          go_meet
          exact ⟨o1, ⟨O, I, hO, aO, hI, aI, OC, OG, Q⟩, A, HRO.out, by simp [hvn2.out]⟩
end Go.Proofs.YtnhegnneohpkaaaGreat
