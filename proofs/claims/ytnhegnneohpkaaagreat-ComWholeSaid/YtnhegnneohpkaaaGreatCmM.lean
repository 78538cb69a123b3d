/- com.Come of bytes that come and may be. -/
import Derived.Test.YtnhegnneohpkaaaGreatCmK
import Derived.Test.YtnhegnneohpkaaaGreatMgPdX
namespace Go.Proofs.YtnhegnneohpkaaaGreat
open Go.ChangeShapes Go.WideShapes Go.ChangeAt Go.RowKit
open CM PD SG

theorem own_inn {W : World} {base g cc k : Nat} {L : List Int} {d : Int} (h : Own W base 2 1 (some ⟨g, 0, none⟩) cc (inRow L)) (hk : k < L.length) : Own (W.setCells g k [.int .i64 d]) base 2 1 (some ⟨g, 0, none⟩) cc (inRow (L.set k d)) := by
  have := (h.setRow (k := k) (row := [.int .i64 d]) (inRow_rows _) (by unfold inRow; rw [List.length_map]; exact hk) rfl).1
  rw [Nat.mul_one] at this
  unfold inRow at this ⊢
  rwa [List.map_set]
theorem own_inc {W : World} {base g cc k : Nat} {L : List Int} (h : Own W base 2 1 (some ⟨g, 0, none⟩) cc (inRow L)) (hk : k < L.length) : W.cell? ⟨g, k, none⟩ = some (.int .i64 L[k]) ∧ W.frozen? ⟨g, k, none⟩ = false := by
  have h1 := own_at h (inRow_rows _) (k := k) (j := 0) (row := [.int .i64 L[k]]) (v := .int .i64 L[k]) (by unfold inRow; rw [List.getElem?_map, List.getElem?_eq_getElem hk]; rfl) rfl
  rw [Nat.mul_one, Nat.add_zero] at h1
  exact ⟨h1, World.ownsRow.frozenAt h k⟩
/-- What is taken: a value that does not pass stays. -/
def mixV (OL : List Bool) (vs G : List Int) : Nat → List Int
  | 0 => vs
  | k + 1 => if OL.getD k false = true then mixV OL vs G k else (mixV OL vs G k).set k (G.getD k 0)
theorem mixV_len (OL : List Bool) (vs G : List Int) : ∀ k, (mixV OL vs G k).length = vs.length
  | 0 => rfl
  | k + 1 => by unfold mixV; split; exact mixV_len OL vs G k; rw [List.length_set]; exact mixV_len OL vs G k
theorem mix_lim {OL : List Bool} {vs G : List Int} (h : ∀ v ∈ vs, lim v) (hG : ∀ v ∈ G, lim v) : ∀ k, ∀ v ∈ mixV OL vs G k, lim v
  | 0 => h
  | k + 1 => by
    unfold mixV
    split
    · exact mix_lim h hG k
    · intro v hv
      rcases List.mem_or_eq_of_mem_set hv with h1 | h1
      · exact mix_lim h hG k v h1
      · rw [h1, List.getD_eq_getElem?_getD]
        rcases hx : G[k]? with _ | x
        · exact ⟨by decide, by decide⟩
        · exact hG _ (List.mem_of_getElem? hx)
def Inn.cmO (i : Inn) (d : List UInt8) : List Bool := stO i.fl.l (unV i.ly.L d) (unN i.ly.L d) i.fl.l.length
def Inn.cmV (i : Inn) (d : List UInt8) : List Int := mixV (i.cmO d) (unV i.ly.L d) i.G.l i.fl.l.length
def Inn.cmE (i : Inn) (d : List UInt8) : Bool := (i.cmO d).any id
structure Inn.Cm (i : Inn) (d : List UInt8) (N : Nat) (V : Inn) : Prop where
  ly : V.ly = i.ly
  fl : V.fl.l = stF i.fl.l (unV i.ly.L d) (unN i.ly.L d) i.fl.l.length
  ff : Fresh N V.fl.a
  subs : V.subs = i.subs
  rest : V.S = i.S ∧ V.G = i.G ∧ V.times = i.times ∧ V.w = i.w ∧ i.cmE d = false ∨ V.S.l = i.cmV d ∧ V.G.l = i.cmV d ∧ V.times = i.times + 1 ∧ V.w = i.w.got ∧ Fresh N V.S.a ∧ Fresh N V.G.a ∧ i.cmE d = true

set_option maxRecDepth 100000 in
set_option maxHeartbeats 32000000 in
theorem comCome_ok (i : Inn) (s : ByteArray) (w : World) (ho : i.Ok w) (hr : i.right = true) (ht : i.times < 1099511627776) (hsz : (s.size : Int) = i.ly.L.size) (hon : i.w.on = true) (hz : s.size ≤ 1000000) (hlm : ∀ v ∈ unV i.ly.L s.data.toList, lim v) :
    Calls Tryz.prog 11 #[.agg i.cs.toArray, .string s] w fun e w' => ∃ V : Inn, e = .returned (.tuple #[.agg V.cs.toArray, .bool (i.cmE s.data.toList), .int .i64 0]) ∧ V.Ok w' ∧ i.Cm s.data.toList w.heap.size V ∧ Below w.heap.size w w' := by
  obtain ⟨w0, hw0⟩ : ∃ w0, w0 = (w.alloc (.cells i.cs.toArray 47)).alloc (.cells Inn.zero.cs.toArray 47) := ⟨_, rfl⟩
  have B := hide (heap_below (World.alloc_heap_new w (.cells i.cs.toArray 47)) ((Below.refl _ (w.alloc (.cells i.cs.toArray 47))).alloc (Nat.le_refl _) (.cells Inn.zero.cs.toArray 47)))
  have R := hide (World.alloc_heap_new (w.alloc (.cells i.cs.toArray 47)) (.cells Inn.zero.cs.toArray 47))
  have Q : Hid (Below w.heap.size w w0) := by rw [hw0]; exact hide (((Below.refl w.heap.size w).alloc (Nat.le_refl _) (.cells i.cs.toArray 47)).alloc (by simp; try omega) (.cells Inn.zero.cs.toArray 47))
  rw [← hw0] at B R
  simp only [World.size_alloc] at R
  obtain ⟨P, hfs, hwt⟩ := Inn.parts hr
  have hnw := (right_iff.1 P.right).2.2.2.1
  have RT := hide (fun W (q : Below w.heap.size w W) => rightIn_l i W (ho.next q) hr)
  obtain ⟨d, hd⟩ : ∃ d, d = s.data.toList := ⟨_, rfl⟩
  have UP := hide (fun W (q : Below w.heap.size w W) => show Calls Tryz.prog 36 #[.agg i.ly.cs.toArray, .string s] W fun e w' => (∃ g vc h nc, e = .returned (.tuple #[.slice (some ⟨g, 0, none⟩) i.ly.L.sgs.length vc, .slice (some ⟨h, 0, none⟩) i.ly.L.sgs.length nc, .int .i64 0]) ∧ Own w' W.heap.size 2 1 (some ⟨g, 0, none⟩) vc (inRow (unV i.ly.L d)) ∧ Own w' W.heap.size 4 1 (some ⟨h, 0, none⟩) nc (boRow (unN i.ly.L d))) ∧ Below W.heap.size W w' from by
    have k := ho.next q
    refine (unpack_any i.ly.L i.ly.A i.ly.c i.ly.B i.ly.d s W k.ly.a k.ly.b k.ly.s k.ly.n k.ly.c k.ly.d hz).mono ?_
    rintro e w' ⟨h, q2⟩
    have hw := wellL_zero.2 ⟨P.right, hsz⟩
    rcases h with h | ⟨_, VA, vc, NA, nc, rfl, o1, o2⟩
    · exact absurd hw h.1
    · rw [← hd] at o1 o2
      obtain ⟨g, rfl, _, _⟩ := Own.ofLen o1 (by unfold inRow unV; simp only [List.length_map]; have := P.n0; omega)
      obtain ⟨h, rfl, _, _⟩ := Own.ofLen o2 (by unfold boRow unN; simp only [List.length_map]; have := P.n0; omega)
      exact ⟨⟨g, vc, h, nc, rfl, o1, o2⟩, q2⟩)
  rw [← hd] at hlm ⊢
  obtain ⟨n, hn⟩ : ∃ n, n = i.ly.L.sgs.length := ⟨_, rfl⟩
  obtain ⟨is, his⟩ : ∃ is, is = i.cmE d := ⟨_, rfl⟩
  obtain ⟨UV, hUV⟩ : ∃ UV, UV = unV i.ly.L d := ⟨_, rfl⟩
  obtain ⟨UN, hUN⟩ : ∃ UN, UN = unN i.ly.L d := ⟨_, rfl⟩
  obtain ⟨FL, hFL⟩ : ∃ FL, FL = stF i.fl.l UV UN i.fl.l.length := ⟨_, rfl⟩
  obtain ⟨OL, hOL⟩ : ∃ OL, OL = stO i.fl.l UV UN i.fl.l.length := ⟨_, rfl⟩
  have LV : Hid (UV.length = n) := hide (by rw [hUV, hn]; unfold unV; rw [List.length_map])
  have LN : Hid (UN.length = n) := hide (by rw [hUN, hn]; unfold unN; rw [List.length_map]; omega)
  have LF : Hid (i.fl.l.length = n) := hide (by rw [hn]; exact P.len)
  have LL : Hid (FL.length = n) := hide (by rw [hFL, stF_len]; exact LF.out)
  have LO : Hid (OL.length = n) := hide (by rw [hOL, stO_len]; exact LF.out)
  have LG : Hid (i.G.l.length = n) := hide (by rw [hn]; exact P.lg)
  have LS : Hid (i.S.l.length = n) := hide (by rw [hn]; exact P.ls)
  have HI : Hid (is = OL.any id) := hide (by rw [his, hOL, hUV, hUN]; rfl)
  have hCO : i.cmO d = OL := by rw [hOL, hUV, hUN]; rfl
  have HM : Hid (i.cmV d = mixV OL UV i.G.l n) := hide (by unfold Inn.cmV; rw [hCO, ← hUV, LF.out])
  have HE := hide his
  have HFL : Hid (FL = stF i.fl.l (unV i.ly.L d) (unN i.ly.L d) i.fl.l.length) := hide (by rw [hFL, hUV, hUN])
  have HLM := hide hlm
  have n0 : 1 ≤ n := by rw [hn]; exact P.n0
  have n16 : n ≤ 16 := by rw [hn]; exact P.n
  have ST := hide (fun (W : World) (q : Below w.heap.size w W) (g h vc nc : Nat) (hB : InR W W.heap.size (some ⟨g, 0, none⟩) UV) (hC : BoR W W.heap.size (some ⟨h, 0, none⟩) UN) => show Calls Tryz.prog 30 #[.slice i.fl.a i.fl.l.length i.fl.c, .slice (some ⟨g, 0, none⟩) n vc, .slice (some ⟨h, 0, none⟩) n nc] W fun e w' => ∃ g h c', e = .returned (.tuple #[.slice (some ⟨g, 0, none⟩) n c', .slice (some ⟨h, 0, none⟩) n n]) ∧ Own w' W.heap.size 29 9 (some ⟨g, 0, none⟩) c' (FL.map flcL) ∧ Own w' W.heap.size 4 1 (some ⟨h, 0, none⟩) n (boRow OL) ∧ Below W.heap.size W w' from by
    have := comSteps_ok i.fl.l UV UN i.fl.a (some ⟨g, 0, none⟩) (some ⟨h, 0, none⟩) i.fl.c vc nc W (ho.next q).fl.r hB hC (by rw [LF.out]; exact n0) (by rw [LF.out]; omega) (by rw [LF.out]; exact LV.out) (by rw [LF.out]; exact LN.out) P.may
    rw [← hFL, ← hOL, LV.out, LN.out] at this
    rw [LF.out] at this ⊢
    exact this)
  rw [← hn, ← hUV, ← hUN] at UP
  rw [← his]
  have HO := hide ho
  have HP := hide P
  have HW := hide hwt
  have HT := hide ht
  have HU := hide hUV
  have e1 : ((s.size : Int) == i.ly.L.size) = true := by rw [beq_iff_eq]; exact hsz
  have e2 : ((s.size : Int) != i.ly.L.size) = false := by rw [bne, e1]; rfl
  clear ho hr P hfs hwt hnw hd hn his hUV hUN hFL hOL hlm hCO hsz hz ht
  go_enter Tryz.func11, Tryz.ntmps11
  go_upto_region 1 with fail
  change Code.wp _ _ _ _ ((w.alloc (.cells i.cs.toArray 47)).alloc (.cells Inn.zero.cs.toArray 47))
  rw [← hw0]
  clear hw0
  have R1 := hide (RT.out _ Q.out)
  clear RT
  go_wp2_with (refine wpList_load_row rfl 47 (.tmp 2) (by rfl) w.heap.size (by rfl) 47 i.cs.toArray (0, 0) _ (by exact B.out) Tryz.underlying47 (by rfl) (by kernel_rfl) ?_)
  (with_reducible refine (R1.out).mono ?_)
  rintro ew1' w1' ⟨rfl, qw1'⟩
  replace B := hide (heap_below B.out qw1')
  replace R := hide (heap_below R.out qw1')
  replace Q := hide (below_next Q.out Q.out.size qw1')
  clear qw1'
  clear R1
  obtain ⟨c0, -, -, -, -, -, -, -, -, -, -, c11, -⟩ := in_cells B.out
  have hon2 := hide hon
  rw [hon] at c11
  clear hon
  have U1 := hide (UP.out _ Q.out)
  clear UP
  have zB := heap_lt B.out
  have zR := heap_lt R.out
  have zQ := Q.out.size
  obtain ⟨nb, hnb⟩ : ∃ nb, nb = w1'.heap.size := ⟨_, rfl⟩
  rw [← hnb] at zB zR zQ
  go_wp2_with (refine wpList_load_mid rfl 27 (.tmp 37) (by rfl) w.heap.size 0 (by rfl) (i.ly.cs) _ (by exact sub_range B.out 0 rfl) Tryz.underlying27 (by rfl) (by kernel_rfl) ?_)
  clear c0 c11 e1 e2
  (with_reducible refine (U1.out).mono ?_)
  rintro ew2' w2' ⟨⟨g, vc, h, nc, rfl, OV, OU⟩, qw2'⟩
  replace B := hide (heap_below B.out qw2')
  replace R := hide (heap_below R.out qw2')
  replace Q := hide (below_next Q.out Q.out.size qw2')
  clear qw2'
  clear U1
  rw [← hnb] at OV OU
  have hg := own_blk OV g 0 rfl
  have hh := own_blk OU h 0 rfl
  replace OV := hide OV
  replace OU := hide OU
  clear hnb
  obtain ⟨-, -, -, c3, -, -, -, -, -, -, -, -, -⟩ := in_cells B.out
  unfold Fv.v at c3
  rw [LF.out] at c3
  have S1 := hide (ST.out _ Q.out g h vc nc (inOwn_rd OV.out) (boOwn_rd OU.out))
  rw [LF.out] at S1
  clear ST OU
  have hgl : g < w2'.heap.size := (Own.ofLen OV.out (by unfold inRow; rw [List.length_map, LV.out]; omega)).elim fun g' hh => by have := hh.1; cases this; exact hh.2.2
  have zQ1 := Q.out.size
  go_wp2_with fail
  clear c3
  (with_reducible refine (S1.out).mono ?_)
  rintro ew3' w3' ⟨g1, g2, c1, rfl, OF, OO, qw3'⟩
  replace B := hide (heap_below B.out qw3')
  replace R := hide (heap_below R.out qw3')
  replace OV := hide ((OV.out.grown qw3'))
  replace Q := hide (below_next Q.out Q.out.size qw3')
  clear qw3'
  clear S1
  have hg1 := own_blk OF g1 0 rfl
  have hg2 := own_blk OO g2 0 rfl
  obtain ⟨n2, hn2⟩ : ∃ n2, n2 = w2'.heap.size := ⟨_, rfl⟩
  rw [← hn2] at OF OO hg1 hg2 hgl zQ1
  replace OF := hide OF
  replace OO := hide OO
  clear hn2
  have zn2 : nb < n2 := by omega
  replace OV := hide (show Own w3' nb 2 1 (some ⟨g, 0, none⟩) vc (inRow (mixV OL UV i.G.l 0)) from OV.out)
  go_wp2_with fail
  go_loopw [54] (fun vi W => ∃ k : Nat, k ≤ n ∧ vi = .int .i64 k ∧ Hid (W.heap[w.heap.size]? = some (.cells i.cs.toArray 47 (0, 0))) ∧ Hid (W.heap[w.heap.size + 1]? = some (.cells Inn.zero.cs.toArray 47 (0, 0))) ∧ Hid (Own W nb 2 1 (some ⟨g, 0, none⟩) vc (inRow (mixV OL UV i.G.l k))) ∧ Hid (Own W n2 29 9 (some ⟨g1, 0, none⟩) c1 (FL.map flcL)) ∧ Hid (Own W n2 4 1 (some ⟨g2, 0, none⟩) n (boRow OL)) ∧ Hid (Below w.heap.size w W)) (fun vi _ => n - (intOf vi).toNat)
  case atStart => exact ⟨0, Nat.zero_le _, rfl, B, R, OV, OF, OO, Q⟩
  case round =>
    clear B R OV OF OO Q
    obtain ⟨k, hk, rfl, B, R, OV, OF, OO, Q⟩ := hrel
    by_cases hlt : k < n
    · have hki : (k : Int) < (n : Int) := by omega
      have hk0 : ¬ (k : Int) < 0 := by omega
      have hkO : k < OL.length := by rw [LO.out]; exact hlt
      have hkG : k < i.G.l.length := by rw [LG.out]; exact hlt
      obtain ⟨y0, y1⟩ := own_boc OO.out hkO
      have EM := hide (show mixV OL UV i.G.l (k + 1) = if OL.getD k false = true then mixV OL UV i.G.l k else (mixV OL UV i.G.l k).set k (i.G.l.getD k 0) from rfl)
      rw [getDx _ hkO, getDx _ hkG] at EM
      rcases hb : OL[k] with _ | _
      · rw [hb] at y0 EM
        rw [if_neg (by decide)] at EM
        obtain ⟨gb, go, hGA, hgb, gc⟩ := InR.at_ HO.out.G.r hkG
        have C0 := cellBelow Q.out hgb gc
        obtain ⟨-, -, -, -, -, c5, -, -, -, -, -, -, -⟩ := in_cells B.out
        unfold Iv.v at c5
        rw [hGA, LG.out] at c5
        obtain ⟨z0, z1⟩ := own_inc OV.out (k := k) (by rw [mixV_len, LV.out]; exact hlt)
        clear hb gc
        obtain ⟨gv, hgv⟩ : ∃ gv, gv = i.G.l[k] := ⟨_, rfl⟩
        rw [← hgv] at C0 EM
        clear hgv
        go_upto_region 14 with fail
        clear y0 y1 z0 z1 C0 c5
        obtain ⟨wq, eq⟩ : ∃ wq, wq = wr.setCell ⟨g, k, none⟩ (.int .i64 gv) := ⟨_, rfl⟩
        rw [← eq]
        replace B := hide (show wq.heap[w.heap.size]? = some (.cells i.cs.toArray 47 (0, 0)) by rw [eq]; exact other_heap (by omega) [.int .i64 gv] k _ B.out)
        replace R := hide (show wq.heap[w.heap.size + 1]? = some (.cells Inn.zero.cs.toArray 47 (0, 0)) by rw [eq]; exact other_heap (by omega) [.int .i64 gv] k _ R.out)
        replace OF := hide (show Own wq n2 29 9 (some ⟨g1, 0, none⟩) c1 (FL.map flcL) by rw [eq]; exact own_setCells (by omega) [.int .i64 gv] k _ OF.out)
        replace OO := hide (show Own wq n2 4 1 (some ⟨g2, 0, none⟩) n (boRow OL) by rw [eq]; exact own_setCells (by omega) [.int .i64 gv] k _ OO.out)
        replace OV := hide (show Own wq nb 2 1 (some ⟨g, 0, none⟩) vc (inRow (mixV OL UV i.G.l (k + 1))) by rw [eq, EM.out]; exact own_inn OV.out (by rw [mixV_len, LV.out]; exact hlt))
        replace Q := hide (show Below w.heap.size w wq by rw [eq]; exact Q.out.trans (below_setCells [.int .i64 gv] k _ (by omega)))
        clear eq
        go_wp2_with fail
        go_roundw
        case rel => exact ⟨k + 1, by omega, by go_num, B, R, OV, OF, OO, Q⟩
        case measure => simp [intOf]; omega
      · rw [hb, if_pos rfl] at EM
        rw [hb] at y0
        clear hb
        go_wp2_with fail
        go_roundw
        case rel => exact ⟨k + 1, by omega, by go_num, B, R, by rw [EM.out]; exact OV, OF, OO, Q⟩
        case measure => simp [intOf]; omega
    · obtain rfl : n = k := by omega
      have hki : ¬ (n : Int) < (n : Int) := by omega
      obtain ⟨VL, hVL⟩ : ∃ VL, VL = mixV OL UV i.G.l n := ⟨_, rfl⟩
      have LM : Hid (VL.length = n) := hide (by rw [hVL, mixV_len]; exact LV.out)
      have HLV : Hid (∀ v ∈ VL, lim v) := hide (by rw [hVL]; exact mix_lim (by rw [HU.out]; exact HLM.out) HO.out.G.m n)
      rw [← hVL] at OV HM
      clear hVL
      have CT := hide (show Calls Tryz.prog 31 #[.slice (some ⟨g2, 0, none⟩) n n, .bool true] wr fun e w' => e = .returned (.bool is) ∧ Below wr.heap.size wr w' from by
          have := containsTrue_any OL (some ⟨g2, 0, none⟩) n wr (boOwn_rd OO.out) (by rw [LO.out]; omega)
          rwa [LO.out, ← HI.out] at this)
      go_wp2_with fail
      (with_reducible refine (CT.out).mono ?_)
      rintro ew4' w4' ⟨rfl, qw4'⟩
      replace B := hide (heap_below B.out qw4')
      replace R := hide (heap_below R.out qw4')
      replace OV := hide ((OV.out.grown qw4'))
      replace OF := hide ((OF.out.grown qw4'))
      replace OO := hide ((OO.out.grown qw4'))
      replace Q := hide (below_next Q.out Q.out.size qw4')
      clear qw4'
      clear CT
      clear OO
      cases is with
      | false =>
        obtain ⟨-, -, -, c3, -, -, -, -, -, -, -, -, -⟩ := in_cells B.out
        have f3 := in_free B.out 3
        have zB9 := heap_lt B.out
        have zR9 := heap_lt R.out
        have zQ9 := Q.out.size
        have hx : Value.slice (some ⟨g1, 0, none⟩) n c1 = .slice (some ⟨g1, 0, none⟩) i.fl.l.length c1 := by rw [LF.out]
        replace hx := hide hx
        go_upto_region 23 with fail
        clear c3 f3
        obtain ⟨w5', ew5'⟩ : ∃ wq, wq = w4'.setCell ⟨w.heap.size, 3, none⟩ (.slice (some ⟨g1, 0, none⟩) n c1) := ⟨_, rfl⟩
        rw [← ew5']
        replace R := hide (show w5'.heap[w.heap.size + 1]? = some (.cells Inn.zero.cs.toArray 47 (0, 0)) by rw [ew5']; exact other_heap (by omega) ([.slice (some ⟨g1, 0, none⟩) n c1]) 3 _ R.out)
        replace OV := hide (show Own w5' nb 2 1 (some ⟨g, 0, none⟩) vc (inRow VL) by rw [ew5']; exact own_setCells (by omega) ([.slice (some ⟨g1, 0, none⟩) n c1]) 3 _ OV.out)
        replace OF := hide (show Own w5' n2 29 9 (some ⟨g1, 0, none⟩) c1 (FL.map flcL) by rw [ew5']; exact own_setCells (by omega) ([.slice (some ⟨g1, 0, none⟩) n c1]) 3 _ OF.out)
        replace Q := hide (show Below w.heap.size w w5' by rw [ew5']; exact Q.out.trans (below_setCells ([.slice (some ⟨g1, 0, none⟩) n c1]) 3 _ (by omega)))
        replace B := hide (show w5'.heap[w.heap.size]? = some (.cells (({ i with fl := ⟨i.fl.l, some ⟨g1, 0, none⟩, c1⟩ } : Inn).cs).toArray 47 (0, 0)) by rw [ew5', hx.out]; exact set_heap ([.slice (some ⟨g1, 0, none⟩) i.fl.l.length c1]) (i.cs) 3 _ B.out)
        clear ew5'
        have Tw6' := hide (show World.there _ (w.heap.size + 1) 0 13 from there_heap (cs := Inn.zero.cs) R.out)
        go_wp2_with (first | (refine wpList_load_row rfl 47 (.tmp 2) (by rfl) w.heap.size (by rfl) 47 (({ i with fl := ⟨i.fl.l, some ⟨g1, 0, none⟩, c1⟩ } : Inn).cs).toArray (0, 0) _ (by exact B.out) Tryz.underlying47 (by rfl) (by kernel_rfl) ?_) | (refine wpList_store_hid (by rfl) 47 (.tmp 4) (.tmp 96) (by rfl) (w.heap.size + 1) 0 (({ i with fl := ⟨i.fl.l, some ⟨g1, 0, none⟩, c1⟩ } : Inn).cs) (by rfl) (by rfl) (by exact Tw6'.out) (by kernel_rfl) (by simp [Value.oneCell', Inn.cs, Fv.v, Iv.v]) ?_))
        intro w6' ew6'
        replace B := hide (show w6'.heap[w.heap.size]? = some (.cells (({ i with fl := ⟨i.fl.l, some ⟨g1, 0, none⟩, c1⟩ } : Inn).cs).toArray 47 (0, 0)) by rw [ew6'.out]; exact other_heap (by omega) _ _ _ B.out)
        replace OV := hide (show Own w6' nb 2 1 (some ⟨g, 0, none⟩) vc (inRow VL) by rw [ew6'.out]; exact own_setCells (by omega) _ _ _ OV.out)
        replace OF := hide (show Own w6' n2 29 9 (some ⟨g1, 0, none⟩) c1 (FL.map flcL) by rw [ew6'.out]; exact own_setCells (by omega) _ _ _ OF.out)
        replace Q := hide (show Below w.heap.size w w6' by rw [ew6'.out]; exact Q.out.trans (below_setCells _ _ _ (by have := Q.out.size; omega)))
        replace R := hide (show w6'.heap[w.heap.size + 1]? = some (.cells (({ i with fl := ⟨i.fl.l, some ⟨g1, 0, none⟩, c1⟩ } : Inn).cs).toArray 47 (0, 0)) by rw [ew6'.out]; exact whole_heap (({ i with fl := ⟨i.fl.l, some ⟨g1, 0, none⟩, c1⟩ } : Inn).cs) (xs := Inn.zero.cs) R.out rfl)
        clear ew6' Tw6'
        go_wp2_with fail
        have eV : ({ i with fl := ⟨FL, some ⟨g1, 0, none⟩, c1⟩ } : Inn).cs = ({ i with fl := ⟨i.fl.l, some ⟨g1, 0, none⟩, c1⟩ } : Inn).cs := by simp [Inn.cs, Fv.v, LL.out, LF.out]
        rw [← eV] at R
        have ok := HO.out.next Q.out
        refine bodyPost_ret (results_cell_tmp2 (by rfl) _ w6' (w.heap.size + 1) 47 (({ i with fl := ⟨FL, some ⟨g1, 0, none⟩, c1⟩ } : Inn).cs).toArray (0, 0) _ (.bool false) (.int .i64 0) (by rfl) (by rfl) (by rfl) R.out Tryz.underlying47 (by rfl) (by kernel_rfl)) rfl ⟨({ i with fl := ⟨FL, some ⟨g1, 0, none⟩, c1⟩ } : Inn), rfl, ⟨ok.ly, ⟨OF.out.rd (fl_rows _), by rw [LL.out]; omega⟩, ok.S, ok.G, ok.subs⟩, ⟨rfl, HFL.out, fun g3 off h => by cases h; omega, rfl, .inl ⟨rfl, rfl, rfl, rfl, HE.out.symm⟩⟩, Q.out⟩
      | true =>
        have G1 := hide (show Calls Tryz.prog 37 #[.agg (grI i.S i.G i.times).toArray, .slice (some ⟨g, 0, none⟩) n vc] w4' _ from by
            have := grTake_ok i.S i.G ⟨VL, some ⟨g, 0, none⟩, vc⟩ i.times w4' HP.out.gr (inOwn_rd OV.out) (by rw [LM.out, LS.out]) HT.out
            simp only [LM.out] at this
            exact this)
        have zQ5 := Q.out.size
        go_wp2_with (refine wpList_load_mid rfl 35 (.tmp 75) (by rfl) w.heap.size 4 (by rfl) (grI i.S i.G i.times) _ (by exact sub_range B.out 4 rfl) Tryz.underlying35 (by rfl) (by kernel_rfl) ?_)
        (with_reducible refine (G1.out).mono ?_)
        rintro ew7' w7' ⟨⟨AX, Aa, Ac⟩, ⟨Gl, Ga, Gc⟩, rfl, ⟨eA, RA, FRA⟩, ⟨eG, RG, FRG⟩, qw7'⟩
        have O_RA_B := hide (show Off Aa (inRow VL).length w.heap.size from off_fresh FRA (heap_lt B.out))
        have O_RA_R := hide (show Off Aa (inRow VL).length (w.heap.size + 1) from off_fresh FRA (heap_lt R.out))
        have O_RG_B := hide (show Off Ga (inRow VL).length w.heap.size from off_fresh FRG (heap_lt B.out))
        have O_RG_R := hide (show Off Ga (inRow VL).length (w.heap.size + 1) from off_fresh FRG (heap_lt R.out))
        replace B := hide (heap_below B.out qw7')
        replace R := hide (heap_below R.out qw7')
        replace OV := hide ((OV.out.grown qw7'))
        replace OF := hide ((OF.out.grown qw7'))
        replace Q := hide (below_next Q.out Q.out.size qw7')
        clear qw7'
        replace RA := hide (show Rd w7' w7'.heap.size Aa 1 (inRow VL) from RA)
        replace FRA := hide FRA
        replace RG := hide (show Rd w7' w7'.heap.size Ga 1 (inRow VL) from RG)
        replace FRG := hide FRG
        clear G1
        change AX = _ at eA
        change Gl = _ at eG
        replace eA := eA.symm
        replace eG := eG.symm
        subst eA
        subst eG
        clear OV
        have X := World.alloc_heap_new w7' (.cells zGr.toArray 35)
        have zBx : w.heap.size < w7'.heap.size := heap_lt B.out
        have zRx : w.heap.size + 1 < w7'.heap.size := heap_lt R.out
        have O_RA_X := hide (off_new (x := w7'.heap.size) RA.out (by omega))
        have O_RG_X := hide (off_new (x := w7'.heap.size) RG.out (by omega))
        have zQx : w.heap.size ≤ w7'.heap.size := Q.out.size
        obtain ⟨w9', hw9'⟩ : ∃ wx, wx = w7'.alloc (.cells zGr.toArray 35) := ⟨_, rfl⟩
        have q8' := hide (show Below w7'.heap.size w7' w9' by rw [hw9']; exact (Below.refl _ _).alloc (Nat.le_refl _) _)
        rw [← hw9'] at X
        replace X := hide X
        have Tw10' := hide (show (w7'.alloc (.cells zGr.toArray 35)).there w7'.heap.size 0 3 by rw [← hw9']; exact there_heap (cs := zGr) X.out)
        go_wp2_with (refine wpList_store_hid (by rfl) 35 (.tmp 15) (.tmp 79) (by rfl) w7'.heap.size 0 (grI (⟨VL, Aa, Ac⟩ : Iv) (⟨VL, Ga, Gc⟩ : Iv) (i.times + 1)) (by rfl) (by rfl) (by exact Tw10'.out) (by kernel_rfl) (by simp [Value.oneCell', grI, Iv.v]) ?_)
        intro w10' ew10'
        replace ew10' : Hid (w10' = w9'.setCells w7'.heap.size 0 (grI (⟨VL, Aa, Ac⟩ : Iv) (⟨VL, Ga, Gc⟩ : Iv) (i.times + 1))) := by rw [hw9']; exact ew10'
        replace X := hide (show w10'.heap[w7'.heap.size]? = some (.cells (grI (⟨VL, Aa, Ac⟩ : Iv) (⟨VL, Ga, Gc⟩ : Iv) (i.times + 1)).toArray 35 (0, 0)) by rw [ew10'.out]; exact whole_heap (grI (⟨VL, Aa, Ac⟩ : Iv) (⟨VL, Ga, Gc⟩ : Iv) (i.times + 1)) (xs := zGr) X.out rfl)
        replace q8' := hide (show Below w7'.heap.size w7' w10' by rw [ew10'.out]; exact q8'.out.trans (below_setCells _ _ _ (by omega)))
        clear ew10' Tw10' hw9'
        replace B := hide (heap_below B.out q8'.out)
        replace R := hide (heap_below R.out q8'.out)
        replace OF := hide ((OF.out.grown q8'.out))
        replace RA := hide (Rd.next RA.out q8'.out q8'.out.size)
        replace RG := hide (Rd.next RG.out q8'.out q8'.out.size)
        replace Q := hide (below_next Q.out Q.out.size q8'.out)
        clear q8'
        generalize w7'.heap.size = x at *
        have zB6 := heap_lt B.out
        have zR6 := heap_lt R.out
        have zX6 := heap_lt X.out
        have zQ6 := Q.out.size
        have Tw11' := hide (show World.there _ w.heap.size 4 3 from sub_there (cs := i.cs) B.out 4 3 (by simp [Inn.cs, Fv.v, Iv.v]))
        go_wp2_with (first | (refine wpList_load_row rfl 35 (.tmp 15) (by rfl) x (by rfl) 35 (grI (⟨VL, Aa, Ac⟩ : Iv) (⟨VL, Ga, Gc⟩ : Iv) (i.times + 1)).toArray (0, 0) _ (by exact X.out) Tryz.underlying35 (by rfl) (by kernel_rfl) ?_) | (refine wpList_store_hid (by rfl) 35 (.tmp 86) (.tmp 85) (by rfl) w.heap.size 4 (grI (⟨VL, Aa, Ac⟩ : Iv) (⟨VL, Ga, Gc⟩ : Iv) (i.times + 1)) (by rfl) (by rfl) (by exact Tw11'.out) (by kernel_rfl) (by simp [Value.oneCell', grI, Iv.v]) ?_))
        intro w11' ew11'
        replace R := hide (show w11'.heap[w.heap.size + 1]? = some (.cells Inn.zero.cs.toArray 47 (0, 0)) by rw [ew11'.out]; exact other_heap (by omega) _ _ _ R.out)
        replace X := hide (show w11'.heap[x]? = some (.cells (grI (⟨VL, Aa, Ac⟩ : Iv) (⟨VL, Ga, Gc⟩ : Iv) (i.times + 1)).toArray 35 (0, 0)) by rw [ew11'.out]; exact other_heap (by omega) _ _ _ X.out)
        replace RA := hide (show Rd w11' w11'.heap.size Aa 1 (inRow VL) by rw [ew11'.out]; exact off_set RA.out O_RA_B.out _ _)
        replace RG := hide (show Rd w11' w11'.heap.size Ga 1 (inRow VL) by rw [ew11'.out]; exact off_set RG.out O_RG_B.out _ _)
        replace OF := hide (show Own w11' n2 29 9 (some ⟨g1, 0, none⟩) c1 (FL.map flcL) by rw [ew11'.out]; exact own_setCells (by omega) _ _ _ OF.out)
        replace Q := hide (show Below w.heap.size w w11' by rw [ew11'.out]; exact Q.out.trans (below_setCells _ _ _ (by have := Q.out.size; omega)))
        replace B := hide (show w11'.heap[w.heap.size]? = some (.cells (({ i with S := ⟨VL, Aa, Ac⟩, G := ⟨VL, Ga, Gc⟩, times := i.times + 1 } : Inn).cs).toArray 47 (0, 0)) by rw [ew11'.out]; exact set_heap (grI (⟨VL, Aa, Ac⟩ : Iv) (⟨VL, Ga, Gc⟩ : Iv) (i.times + 1)) (i.cs) 4 _ B.out)
        clear ew11' Tw11'
        clear X zX6

        have WG := hide (fun W => recvGot_ok i.w W HW.out hon2.out)
        obtain ⟨gw, hgw⟩ : ∃ gw, gw = i.w.got := ⟨_, rfl⟩
        rw [← hgw] at WG
        have HGW := hide hgw
        clear hgw
        go_wp2_with (refine wpList_load_mid rfl 45 (.tmp 88) (by rfl) w.heap.size 8 (by rfl) (wtcL i.w) _ (by exact sub_range B.out 8 rfl) Tryz.underlying45 (by rfl) (by kernel_rfl) ?_)
        (with_reducible refine (WG.out _).mono ?_)
        rintro ew12' w12' ⟨rfl, qw12'⟩
        replace B := hide (heap_below B.out qw12')
        replace R := hide (heap_below R.out qw12')
        replace OF := hide ((OF.out.grown qw12'))
        replace RA := hide (Rd.next RA.out qw12' qw12'.size)
        replace RG := hide (Rd.next RG.out qw12' qw12'.size)
        replace Q := hide (below_next Q.out Q.out.size qw12')
        clear qw12'
        clear WG
        have Tw13' := hide (show World.there _ w.heap.size 8 5 from sub_there (cs := ({ i with S := ⟨VL, Aa, Ac⟩, G := ⟨VL, Ga, Gc⟩, times := i.times + 1 } : Inn).cs) B.out 8 5 (by simp [Inn.cs, Fv.v, Iv.v]))
        go_wp2_with (refine wpList_store_hid (by rfl) 45 (.tmp 93) (.tmp 91) (by rfl) w.heap.size 8 (wtcL gw) (by rfl) (by rfl) (by exact Tw13'.out) (by kernel_rfl) (by simp [Value.oneCell', wtcL]) ?_)
        intro w13' ew13'
        replace R := hide (show w13'.heap[w.heap.size + 1]? = some (.cells Inn.zero.cs.toArray 47 (0, 0)) by rw [ew13'.out]; exact other_heap (by omega) _ _ _ R.out)
        replace RA := hide (show Rd w13' w13'.heap.size Aa 1 (inRow VL) by rw [ew13'.out]; exact off_set RA.out O_RA_B.out _ _)
        replace RG := hide (show Rd w13' w13'.heap.size Ga 1 (inRow VL) by rw [ew13'.out]; exact off_set RG.out O_RG_B.out _ _)
        replace OF := hide (show Own w13' n2 29 9 (some ⟨g1, 0, none⟩) c1 (FL.map flcL) by rw [ew13'.out]; exact own_setCells (by omega) _ _ _ OF.out)
        replace Q := hide (show Below w.heap.size w w13' by rw [ew13'.out]; exact Q.out.trans (below_setCells _ _ _ (by have := Q.out.size; omega)))
        replace B := hide (show w13'.heap[w.heap.size]? = some (.cells (({ i with S := ⟨VL, Aa, Ac⟩, G := ⟨VL, Ga, Gc⟩, times := i.times + 1, w := gw } : Inn).cs).toArray 47 (0, 0)) by rw [ew13'.out]; exact set_heap (wtcL gw) (({ i with S := ⟨VL, Aa, Ac⟩, G := ⟨VL, Ga, Gc⟩, times := i.times + 1 } : Inn).cs) 8 _ B.out)
        clear ew13' Tw13'
        obtain ⟨-, -, -, c3, -, -, -, -, -, -, -, -, -⟩ := in_cells B.out
        have f3 := in_free B.out 3
        have zB9 := heap_lt B.out
        have zR9 := heap_lt R.out
        have zQ9 := Q.out.size
        have hx : Value.slice (some ⟨g1, 0, none⟩) n c1 = .slice (some ⟨g1, 0, none⟩) i.fl.l.length c1 := by rw [LF.out]
        replace hx := hide hx
        go_upto_region 23 with fail
        clear c3 f3
        obtain ⟨w14', ew14'⟩ : ∃ wq, wq = w13'.setCell ⟨w.heap.size, 3, none⟩ (.slice (some ⟨g1, 0, none⟩) n c1) := ⟨_, rfl⟩
        rw [← ew14']
        replace R := hide (show w14'.heap[w.heap.size + 1]? = some (.cells Inn.zero.cs.toArray 47 (0, 0)) by rw [ew14']; exact other_heap (by omega) ([.slice (some ⟨g1, 0, none⟩) n c1]) 3 _ R.out)
        replace RA := hide (show Rd w14' w14'.heap.size Aa 1 (inRow VL) by rw [ew14']; exact off_set RA.out O_RA_B.out ([.slice (some ⟨g1, 0, none⟩) n c1]) 3)
        replace RG := hide (show Rd w14' w14'.heap.size Ga 1 (inRow VL) by rw [ew14']; exact off_set RG.out O_RG_B.out ([.slice (some ⟨g1, 0, none⟩) n c1]) 3)
        replace OF := hide (show Own w14' n2 29 9 (some ⟨g1, 0, none⟩) c1 (FL.map flcL) by rw [ew14']; exact own_setCells (by omega) ([.slice (some ⟨g1, 0, none⟩) n c1]) 3 _ OF.out)
        replace Q := hide (show Below w.heap.size w w14' by rw [ew14']; exact Q.out.trans (below_setCells ([.slice (some ⟨g1, 0, none⟩) n c1]) 3 _ (by omega)))
        replace B := hide (show w14'.heap[w.heap.size]? = some (.cells (({ i with fl := ⟨i.fl.l, some ⟨g1, 0, none⟩, c1⟩, S := ⟨VL, Aa, Ac⟩, G := ⟨VL, Ga, Gc⟩, times := i.times + 1, w := gw } : Inn).cs).toArray 47 (0, 0)) by rw [ew14', hx.out]; exact set_heap ([.slice (some ⟨g1, 0, none⟩) i.fl.l.length c1]) (({ i with S := ⟨VL, Aa, Ac⟩, G := ⟨VL, Ga, Gc⟩, times := i.times + 1, w := gw } : Inn).cs) 3 _ B.out)
        clear ew14'
        have Tw15' := hide (show World.there _ (w.heap.size + 1) 0 13 from there_heap (cs := Inn.zero.cs) R.out)
        go_wp2_with (first | (refine wpList_load_row rfl 47 (.tmp 2) (by rfl) w.heap.size (by rfl) 47 (({ i with fl := ⟨i.fl.l, some ⟨g1, 0, none⟩, c1⟩, S := ⟨VL, Aa, Ac⟩, G := ⟨VL, Ga, Gc⟩, times := i.times + 1, w := gw } : Inn).cs).toArray (0, 0) _ (by exact B.out) Tryz.underlying47 (by rfl) (by kernel_rfl) ?_) | (refine wpList_store_hid (by rfl) 47 (.tmp 4) (.tmp 96) (by rfl) (w.heap.size + 1) 0 (({ i with fl := ⟨i.fl.l, some ⟨g1, 0, none⟩, c1⟩, S := ⟨VL, Aa, Ac⟩, G := ⟨VL, Ga, Gc⟩, times := i.times + 1, w := gw } : Inn).cs) (by rfl) (by rfl) (by exact Tw15'.out) (by kernel_rfl) (by simp [Value.oneCell', Inn.cs, Fv.v, Iv.v]) ?_))
        intro w15' ew15'
        replace B := hide (show w15'.heap[w.heap.size]? = some (.cells (({ i with fl := ⟨i.fl.l, some ⟨g1, 0, none⟩, c1⟩, S := ⟨VL, Aa, Ac⟩, G := ⟨VL, Ga, Gc⟩, times := i.times + 1, w := gw } : Inn).cs).toArray 47 (0, 0)) by rw [ew15'.out]; exact other_heap (by omega) _ _ _ B.out)
        replace RA := hide (show Rd w15' w15'.heap.size Aa 1 (inRow VL) by rw [ew15'.out]; exact off_set RA.out O_RA_R.out _ _)
        replace RG := hide (show Rd w15' w15'.heap.size Ga 1 (inRow VL) by rw [ew15'.out]; exact off_set RG.out O_RG_R.out _ _)
        replace OF := hide (show Own w15' n2 29 9 (some ⟨g1, 0, none⟩) c1 (FL.map flcL) by rw [ew15'.out]; exact own_setCells (by omega) _ _ _ OF.out)
        replace Q := hide (show Below w.heap.size w w15' by rw [ew15'.out]; exact Q.out.trans (below_setCells _ _ _ (by have := Q.out.size; omega)))
        replace R := hide (show w15'.heap[w.heap.size + 1]? = some (.cells (({ i with fl := ⟨i.fl.l, some ⟨g1, 0, none⟩, c1⟩, S := ⟨VL, Aa, Ac⟩, G := ⟨VL, Ga, Gc⟩, times := i.times + 1, w := gw } : Inn).cs).toArray 47 (0, 0)) by rw [ew15'.out]; exact whole_heap (({ i with fl := ⟨i.fl.l, some ⟨g1, 0, none⟩, c1⟩, S := ⟨VL, Aa, Ac⟩, G := ⟨VL, Ga, Gc⟩, times := i.times + 1, w := gw } : Inn).cs) (xs := Inn.zero.cs) R.out rfl)
        clear ew15' Tw15'
        go_wp2_with fail
        have eV : ({ i with fl := ⟨FL, some ⟨g1, 0, none⟩, c1⟩, S := ⟨VL, Aa, Ac⟩, G := ⟨VL, Ga, Gc⟩, times := i.times + 1, w := gw } : Inn).cs = ({ i with fl := ⟨i.fl.l, some ⟨g1, 0, none⟩, c1⟩, S := ⟨VL, Aa, Ac⟩, G := ⟨VL, Ga, Gc⟩, times := i.times + 1, w := gw } : Inn).cs := by simp [Inn.cs, Fv.v, LL.out, LF.out]
        rw [← eV] at R
        have ok := HO.out.next Q.out
        refine bodyPost_ret (results_cell_tmp2 (by rfl) _ w15' (w.heap.size + 1) 47 (({ i with fl := ⟨FL, some ⟨g1, 0, none⟩, c1⟩, S := ⟨VL, Aa, Ac⟩, G := ⟨VL, Ga, Gc⟩, times := i.times + 1, w := gw } : Inn).cs).toArray (0, 0) _ (.bool true) (.int .i64 0) (by rfl) (by rfl) (by rfl) R.out Tryz.underlying47 (by rfl) (by kernel_rfl)) rfl ⟨({ i with fl := ⟨FL, some ⟨g1, 0, none⟩, c1⟩, S := ⟨VL, Aa, Ac⟩, G := ⟨VL, Ga, Gc⟩, times := i.times + 1, w := gw } : Inn), rfl, ⟨ok.ly, ⟨OF.out.rd (fl_rows _), by rw [LL.out]; omega⟩, NewIv.ok ⟨rfl, RA.out, FRA.out⟩ HLV.out (by rw [LM.out]; omega), NewIv.ok ⟨rfl, RG.out, FRG.out⟩ HLV.out (by rw [LM.out]; omega), ok.subs⟩, ⟨rfl, HFL.out, fun g3 off h => by cases h; omega, rfl, .inr ⟨HM.out.symm, HM.out.symm, rfl, HGW.out, Fresh.mono FRA.out (by omega), Fresh.mono FRG.out (by omega), HE.out.symm⟩⟩, Q.out⟩
end Go.Proofs.YtnhegnneohpkaaaGreat
