/- Parts of the walk of TopRouted: what is taken is sent, and comes. -/
import Derived.Test.YthkilodnghiocaaGreatDoorMgTrG
namespace Go.Proofs.YthkilodnghiocaaGreatDoor
open Go.ChangeShapes Go.WideShapes Go.ChangeAt Go.RowKit
open FP (Fr bitsF bodyF)

set_option maxRecDepth 100000 in
set_option maxHeartbeats 64000000 in
theorem topRouted_takes (w1 ws : World) (id idm b d N pc oc c bc : Nat) (PA OA A BA WA : Option Addr) (now : Int) (bl : List Cl) (L : List ByteArray) (zb : w1.heap.size ≤ b) (zbd : b < d) (zN : N = d + 1) (hL : L.length ≤ 4) (htwo : Two bl) (hnow : 0 ≤ now ∧ now ≤ 11) (hidm : idm < 2048) (hm1 : (id : Int).tmod 2048 = idm) (hm2 : (id : Int) % 2048 = idm) {sl0 sl2 sl3 sl4 sl6 sl7 sl8 sl9 sl10 sl11 sl12 sl14 sl16 sl17 sl18 sl19 sl20 sl21 sl22 sl23 sl24 sl25 sl26 sl27 sl28 sl29 sl30 sl31 sl32 sl33 sl34 sl35 sl36 sl37 sl38 sl39 sl40 sl41 sl42 sl43 sl44 sl45 sl46 sl47 sl48 sl49 sl50 sl51 sl52 sl53 sl54 sl55 sl56 sl57 sl58 sl59 sl60 sl61 sl62 sl63 sl64 sl65 sl66 sl67 sl68 sl69 sl70 sl71 sl72 sl73 sl74 sl75 sl76 sl77 sl78 sl79 sl80 sl82 sl83 sl84 sl85 sl86 sl87 sl88 sl89 sl90 sl91 sl92 sl93 sl94 sl95 sl96 sl97 sl98 sl99 sl100 sl101 sl102 sl103 sl104 sl105 sl106 sl107 sl108 sl109 sl110 sl111 sl112 sl113 sl114 sl115 sl116 sl117 sl118 sl119 sl120 sl121 sl122 sl123 sl124 sl125 sl126 sl127 sl128 sl129 sl130 sl131 sl132 sl133 sl134 sl135 sl136 sl137 sl138 sl139 sl140 sl141 sl142 sl143 sl144 sl145 sl146 sl147 sl148 sl149 sl150 sl151 sl152 sl153 sl154 sl155 sl156 sl157 sl158 sl159 sl160 : Value} {K' : Act → World → Prop} {Q' : Exit → Act → World → Prop} {Cd : Code} (hC : Cd = partC Tryz.f3.body (isBlock 2))
    (HLs : Hid (∀ x ∈ L, x.size ≤ 8))
    (B : Hid (ws.heap[b]? = some (.cells (rtL PA pc OA oc).toArray 31 (0, 0))))
    (D : Hid (ws.heap[d]? = some (.cells (busL BA 2 bc now).toArray 37 (0, 0))))
    (H : Hid (Rt ws PA OA A c L))
    (AW : Hid (Rt.Away (ZS b d none) PA OA A L.length))
    (HB : Hid (Rd ws ws.heap.size BA 23 (clRows bl)))
    (AB : Hid (OffS (ZS b d none) BA 2))
    (HW : Hid (StR ws ws.heap.size WA L))
    (AWw : Hid (OffS (ZS b d none) WA L.length))
    (Q : Hid (Below w1.heap.size w1 ws))
    (hQ : ∀ c (a : Act) d v w, Q' (.panic c) (a.put d v) w → Q' (.panic c) a w)
    (hK : ∀ (v4 v15 v16 v17 v18 v19 v20 v21 v22 v23 v24 v81 v82 v83 v84 v85 v86 v87 v88 v89 v90 v91 v92 v93 v94 v95 v96 v97 v98 v99 v100 v101 v102 v103 v104 v105 v106 v107 v108 v109 v110 v111 v112 v113 v114 v115 v116 v117 v118 v119 v120 v121 v122 v123 v124 v125 v126 v127 v128 v129 v130 v131 v132 v133 v134 v135 : Value) (W' : World), (fun v15 W => ∃ (GA : Option Addr) (gc : Nat), v15 = .slice GA L.length gc ∧ Hid (Own W N 9 1 GA gc (stRow L)) ∧ Hid (StR W W.heap.size WA L) ∧ Hid (Below w1.heap.size w1 W)) v15 W' → K' ⟨List.toArray (sl0 :: (.int .u32 id) :: sl2 :: sl3 :: v4 :: (.pointer (some ⟨b, 0, none⟩)) :: sl6 :: sl7 :: sl8 :: sl9 :: sl10 :: sl11 :: sl12 :: (.pointer (some ⟨d, 0, none⟩)) :: sl14 :: v15 :: v16 :: v17 :: v18 :: v19 :: v20 :: v21 :: v22 :: v23 :: v24 :: sl25 :: sl26 :: sl27 :: sl28 :: sl29 :: sl30 :: sl31 :: sl32 :: sl33 :: sl34 :: sl35 :: sl36 :: sl37 :: sl38 :: sl39 :: sl40 :: sl41 :: sl42 :: sl43 :: sl44 :: sl45 :: sl46 :: sl47 :: sl48 :: sl49 :: sl50 :: sl51 :: sl52 :: sl53 :: sl54 :: sl55 :: sl56 :: sl57 :: sl58 :: sl59 :: sl60 :: sl61 :: sl62 :: sl63 :: sl64 :: sl65 :: sl66 :: sl67 :: sl68 :: sl69 :: sl70 :: sl71 :: sl72 :: sl73 :: sl74 :: sl75 :: sl76 :: sl77 :: sl78 :: sl79 :: sl80 :: v81 :: v82 :: v83 :: v84 :: v85 :: v86 :: v87 :: v88 :: v89 :: v90 :: v91 :: v92 :: v93 :: v94 :: v95 :: v96 :: v97 :: v98 :: v99 :: v100 :: v101 :: v102 :: v103 :: v104 :: v105 :: v106 :: v107 :: v108 :: v109 :: v110 :: v111 :: v112 :: v113 :: v114 :: v115 :: v116 :: v117 :: v118 :: v119 :: v120 :: v121 :: v122 :: v123 :: v124 :: v125 :: v126 :: v127 :: v128 :: v129 :: v130 :: v131 :: v132 :: v133 :: v134 :: v135 :: sl136 :: sl137 :: sl138 :: sl139 :: sl140 :: sl141 :: sl142 :: sl143 :: sl144 :: sl145 :: sl146 :: sl147 :: sl148 :: sl149 :: sl150 :: sl151 :: sl152 :: sl153 :: sl154 :: sl155 :: sl156 :: sl157 :: sl158 :: sl159 :: sl160 :: []), []⟩ W') :
    Cd.wp Tryz.prog (Exit.then K' Q') ⟨List.toArray (sl0 :: (.int .u32 id) :: sl2 :: sl3 :: sl4 :: (.pointer (some ⟨b, 0, none⟩)) :: sl6 :: sl7 :: sl8 :: sl9 :: sl10 :: sl11 :: sl12 :: (.pointer (some ⟨d, 0, none⟩)) :: sl14 :: (.slice none 0 0) :: sl16 :: sl17 :: sl18 :: sl19 :: sl20 :: sl21 :: sl22 :: sl23 :: sl24 :: sl25 :: sl26 :: sl27 :: sl28 :: sl29 :: sl30 :: sl31 :: sl32 :: sl33 :: sl34 :: sl35 :: sl36 :: sl37 :: sl38 :: sl39 :: sl40 :: sl41 :: sl42 :: sl43 :: sl44 :: sl45 :: sl46 :: sl47 :: sl48 :: sl49 :: sl50 :: sl51 :: sl52 :: sl53 :: sl54 :: sl55 :: sl56 :: sl57 :: sl58 :: sl59 :: sl60 :: sl61 :: sl62 :: sl63 :: sl64 :: sl65 :: sl66 :: sl67 :: sl68 :: sl69 :: sl70 :: sl71 :: sl72 :: sl73 :: sl74 :: sl75 :: sl76 :: sl77 :: sl78 :: sl79 :: sl80 :: (.int .i64 0) :: sl82 :: sl83 :: sl84 :: sl85 :: sl86 :: sl87 :: sl88 :: sl89 :: sl90 :: sl91 :: sl92 :: sl93 :: sl94 :: sl95 :: sl96 :: sl97 :: sl98 :: sl99 :: sl100 :: sl101 :: sl102 :: sl103 :: sl104 :: sl105 :: sl106 :: sl107 :: sl108 :: sl109 :: sl110 :: sl111 :: sl112 :: sl113 :: sl114 :: sl115 :: sl116 :: sl117 :: sl118 :: sl119 :: sl120 :: sl121 :: sl122 :: sl123 :: sl124 :: sl125 :: sl126 :: sl127 :: sl128 :: sl129 :: sl130 :: sl131 :: sl132 :: sl133 :: sl134 :: sl135 :: sl136 :: sl137 :: sl138 :: sl139 :: sl140 :: sl141 :: sl142 :: sl143 :: sl144 :: sl145 :: sl146 :: sl147 :: sl148 :: sl149 :: sl150 :: sl151 :: sl152 :: sl153 :: sl154 :: sl155 :: sl156 :: sl157 :: sl158 :: sl159 :: sl160 :: []), []⟩ ws := by
  subst hC
  conv => arg 2; whnf
  go_cut [15] from 99999 (fun v15 W => ∃ (GA : Option Addr) (gc : Nat), v15 = .slice GA L.length gc ∧ Hid (Own W N 9 1 GA gc (stRow L)) ∧ Hid (StR W W.heap.size WA L) ∧ Hid (Below w1.heap.size w1 W))
  case rest => exact hK _ _ _ _ _ _ _ _ _ _ _ _ _ _ _ _ _ _ _ _ _ _ _ _ _ _ _ _ _ _ _ _ _ _ _ _ _ _ _ _ _ _ _ _ _ _ _ _ _ _ _ _ _ _ _ _ _ _ _ _ _ _ _ _ _ _ _ hcut
  case first =>
    clear hK
    replace zN := hide zN
    go_wp2_with fail
    go_loopw [81, 15] (fun vi vs W => ∃ k : Nat, k ≤ L.length ∧ vi = .int .i64 k ∧ ∃ (PA A GA BA : Option Addr) (pc c gc bc : Nat) (now : Int) (bl : List Cl), vs = .slice GA (L.take k).length gc ∧ Hid (W.heap[b]? = some (.cells (rtL PA pc OA oc).toArray 31 (0, 0))) ∧ Hid (W.heap[d]? = some (.cells (busL BA 2 bc now).toArray 37 (0, 0))) ∧ Hid (Rt W PA OA A c (L.drop k)) ∧ Hid (Rt.Away (ZS b d GA) PA OA A (L.drop k).length) ∧ Hid (Rd W W.heap.size BA 23 (clRows bl)) ∧ Hid (OffS (ZS b d GA) BA 2) ∧ Two bl ∧ 0 ≤ now ∧ now ≤ 11 + 180 * (k : Int) ∧ Hid (StR W W.heap.size WA L) ∧ Hid (OffS (ZS b d GA) WA L.length) ∧ Hid (Own W N 9 1 GA gc (stRow (L.take k))) ∧ Hid (Below w1.heap.size w1 W)) (fun vi _ _ => L.length - (intOf vi).toNat)
    case atStart => exact ⟨0, Nat.zero_le _, rfl, PA, A, none, BA, pc, c, 0, bc, now, bl, rfl, B, D, H, AW, HB, AB, htwo, hnow.1, by have := hnow.2; omega, HW, AWw, hide Own.nil, Q⟩
    case round =>
      clear B D H AW HB AB HW AWw Q htwo hnow
      obtain ⟨k, hk, rfl, PA, A, GA, BA, pc, c, gc, bc, now, bl, rfl, B, D, H, AW, HB, AB, hbl, hn0, hn1, HW, AWw, OG, Q⟩ := hrel
      have hki : (k : Int) < 5 := by omega
      have htl : (L.take k).length = k := by rw [List.length_take]; omega
      rw [htl]
      replace htl := hide htl
      have hbl2 := hide hbl.len
      have HTW := hide hbl
      clear hbl
      have zO := heap_lt B.out
      have zD := heap_lt D.out
      have hzs : ∀ k9, ZS b d GA k9 → k9 < wr.heap.size := fun k9 h9 => by
        rcases h9 with h | h | ⟨a9, ha, hb⟩
        · omega
        · omega
        · have := (own_in OG.out a9 ha).2; omega
      replace hzs := hide hzs
      by_cases hlt : k < L.length
      · have hdr := List.drop_eq_getElem_cons hlt
        obtain ⟨rest, hrest⟩ : ∃ rest, rest = L.drop (k + 1) := ⟨_, rfl⟩
        have HTK := hide (show L.take (k + 1) = L.take k ++ [L[k]] from List.take_succ_eq_append_getElem hlt)
        have hxs := HLs.out _ (List.getElem_mem hlt)
        rw [← hrest] at hdr
        generalize L[k] = x at *
        rw [hdr] at H AW
        replace hrest := hide hrest
        replace hxs := hide hxs
        clear hdr
        have T1 := hide (rtTake_ok x rest PA OA A pc oc c wr H.out)
        go_wp2_with (refine wpList_load_row rfl 31 (.tmp 5) (by rfl) b (by rfl) 31 (rtL PA pc OA oc).toArray (0, 0) _ (by exact B.out) Tryz.underlying31 (by rfl) (by kernel_rfl) ?_)
        (with_reducible refine T1.out.mono ?_)
        rintro ew1' w1' ⟨PA2, pc2, A2, c2, rfl, hRt, hF1, hgA, qw1'⟩
        have AW2 := hide (show Rt.Away (ZS b d GA) PA2 OA A2 rest.length from ⟨offS_fresh hF1 hzs.out, AW.out.o, .inr (fun g off e t9 => by
          obtain ⟨o2, e2⟩ := hgA g off e
          rcases AW.out.i with h | h
          · simp at h
          · exact h g o2 e2 t9)⟩)
        have HR2 := hide hRt
        clear hRt hF1 hgA T1 H AW
        replace B := hide (heap_below B.out qw1')
        replace D := hide (heap_below D.out qw1')
        replace HB := hide (Rd.next HB.out qw1' qw1'.size)
        replace HW := hide (Rd.next HW.out qw1' qw1'.size)
        replace OG := hide ((OG.out.grown qw1'))
        replace Q := hide (below_next Q.out Q.out.size qw1')
        clear qw1'
        have X := World.alloc_heap_new w1' (.cells ([.slice none 0 0, .slice none 0 0]).toArray 31)
        have zBxa : b < w1'.heap.size := heap_lt B.out
        have zDxa : d < w1'.heap.size := heap_lt D.out
        have zQxa : w1.heap.size ≤ w1'.heap.size := Q.out.size
        obtain ⟨w3', hw3'⟩ : ∃ wx, wx = w1'.alloc (.cells ([.slice none 0 0, .slice none 0 0]).toArray 31) := ⟨_, rfl⟩
        have q2' := hide (show Below w1'.heap.size w1' w3' by rw [hw3']; exact (Below.refl _ _).alloc (Nat.le_refl _) _)
        rw [← hw3'] at X
        replace X := hide X
        have Tw4' := hide (show (w1'.alloc (.cells ([.slice none 0 0, .slice none 0 0]).toArray 31)).there w1'.heap.size 0 2 by rw [← hw3']; exact there_heap (cs := [.slice none 0 0, .slice none 0 0]) X.out)
        go_wp2_with (refine wpList_store_hid (by rfl) 31 (.tmp 16) (.tmp 86) (by rfl) w1'.heap.size 0 (rtL PA2 pc2 OA oc) (by rfl) (by rfl) (by exact Tw4'.out) (by kernel_rfl) (by simp [Value.oneCell', rtL]) ?_)
        intro w4' ew4'
        replace ew4' : Hid (w4' = w3'.setCells w1'.heap.size 0 (rtL PA2 pc2 OA oc)) := by rw [hw3']; exact ew4'
        replace X := hide (show w4'.heap[w1'.heap.size]? = some (.cells (rtL PA2 pc2 OA oc).toArray 31 (0, 0)) by rw [ew4'.out]; exact whole_heap (rtL PA2 pc2 OA oc) (xs := [.slice none 0 0, .slice none 0 0]) X.out rfl)
        replace q2' := hide (show Below w1'.heap.size w1' w4' by rw [ew4'.out]; exact q2'.out.trans (below_setCells _ _ _ (by omega)))
        clear ew4' Tw4' hw3'
        replace B := hide (heap_below B.out q2'.out)
        replace D := hide (heap_below D.out q2'.out)
        replace HB := hide (Rd.next HB.out q2'.out q2'.out.size)
        replace HW := hide (Rd.next HW.out q2'.out q2'.out.size)
        replace OG := hide ((OG.out.grown q2'.out))
        replace HR2 := hide ((HR2.out.next q2'.out))
        replace Q := hide (below_next Q.out Q.out.size q2'.out)
        clear q2'
        generalize w1'.heap.size = xa at *
        obtain ⟨f, hf⟩ : ∃ f : Fr, f = ⟨idm, false, false, (x.size : Int), x⟩ := ⟨_, rfl⟩
        have hfr : FP.rightB f = true := by
          have h1 := hidm
          have h2 := hxs.out
          rw [hf]
          unfold FP.rightB
          simp
          omega
        have hfd : f.data = x := by rw [hf]
        have hfi : f.id < 4294967296 := by rw [hf]; show idm < 4294967296; omega
        obtain ⟨t1, t2, t3, t4, t5, t6⟩ := two_run HTW.out hfr now 180 (by omega)
        have S1 := hide (fun (W : World) (q : ClR W W.heap.size BA bl) => show Calls Tryz.prog 7 #[.agg (busL BA 2 bc now).toArray, .int .i64 0, .agg #[.int .u32 idm, .bool false, .bool false, .int .i64 x.size, .string x]] W fun e w' => (∃ A9 c9, e = .returned (.tuple #[.agg (busL A9 2 c9 now).toArray, .int .i64 0]) ∧ ClR w' w'.heap.size A9 (subL bl 0 f)) ∧ Below W.heap.size W w' from by
          have h := busSubmit_in bl BA bc now 0 f W q (by rw [hbl2.out]; decide) (by rw [hbl2.out]; decide) hn0 (by omega) HTW.out.ok hfi
          rw [hbl2.out, hf] at h
          refine h.mono ?_
          rintro e w' ⟨⟨_, A9, c9, rfl, h2, _⟩ | ⟨h3, _⟩, q9⟩
          · rw [hbl2.out, hf] at *
            exact ⟨⟨A9, c9, rfl, h2⟩, q9⟩
          · rw [← hf] at h3
            exact absurd t1 h3)
        have R1 := hide (fun (W : World) (A9 : Option Addr) (c9 : Nat) (q : ClR W W.heap.size A9 (subL bl 0 f)) => show Calls Tryz.prog 8 #[.agg (busL A9 2 c9 now).toArray, .int .i64 180] W fun e w' => ∃ A' c' E ec, e = .returned (.tuple #[.agg (busL A' 2 c' (now + 180)).toArray, .slice E 2 ec, .int .i64 0]) ∧ ClR w' w'.heap.size A' (itB (subL bl 0 f) 180) ∧ Own w' W.heap.size 52 9 E ec (snRows (snB (subL bl 0 f) now 180)) ∧ Fresh W.heap.size A' ∧ Below W.heap.size W w' from by
          have h := busRun_ok (subL bl 0 f) A9 c9 now 180 W q (by rw [t3]; decide) (by rw [t3]; decide) hn0 (by omega) (by decide) t2
          rw [t3, t4] at h
          refine h.mono ?_
          rintro e w' ⟨A', c', E, ec, rfl, h2, h3, h4, h5⟩
          exact ⟨A', c', E, ec, rfl, h2, h3, h4.elim (fun o => fresh_own o) fun z => absurd z.1 (by decide), h5⟩)
        skip
        obtain ⟨sn, hsn⟩ : ∃ sn, sn = snB (subL bl 0 f) now 180 := ⟨_, rfl⟩
        obtain ⟨bl2, hbl3⟩ : ∃ bl2, bl2 = itB (subL bl 0 f) 180 := ⟨_, rfl⟩
        rw [← hsn] at R1 t4 t5
        rw [← hbl3] at R1 t6
        have HT6 := hide t6
        have HS4 := hide t4
        have HS5 := hide (show ∀ y ∈ sn, y.ef.data = x from fun y hy => by rw [t5 y hy]; exact hfd)
        clear hsn hbl3 t1 t2 t3 t4 t5 t6 hfr hfd hfi
        have S2 := hide (S1.out _ HB.out)
        clear S1
        skip
        go_wp2_with (refine wpList_load_row rfl 37 (.tmp 13) (by rfl) d (by rfl) 37 (busL BA 2 bc now).toArray (0, 0) _ (by exact D.out) Tryz.underlying37 (by rfl) (by kernel_rfl) ?_)
        (with_reducible refine S2.out.mono ?_)
        rintro ew5' w5' ⟨⟨A3, c3, rfl, hC3⟩, qw5'⟩
        have HC3 := hide (show Rd w5' w5'.heap.size A3 23 (clRows (subL bl 0 f)) from hC3)
        clear hC3 S2
        replace B := hide (heap_below B.out qw5')
        replace D := hide (heap_below D.out qw5')
        replace X := hide (heap_below X.out qw5')
        replace HB := hide (Rd.next HB.out qw5' qw5'.size)
        replace HW := hide (Rd.next HW.out qw5' qw5'.size)
        replace OG := hide ((OG.out.grown qw5'))
        replace HR2 := hide ((HR2.out.next qw5'))
        replace Q := hide (below_next Q.out Q.out.size qw5')
        clear qw5'
        clear HB
        have Y := World.alloc_heap_new w5' (.cells (busL none 0 0 0).toArray 37)
        have zBxb : b < w5'.heap.size := heap_lt B.out
        have zDxb : d < w5'.heap.size := heap_lt D.out
        have zXxb : xa < w5'.heap.size := heap_lt X.out
        have zQxb : w1.heap.size ≤ w5'.heap.size := Q.out.size
        obtain ⟨w7', hw7'⟩ : ∃ wx, wx = w5'.alloc (.cells (busL none 0 0 0).toArray 37) := ⟨_, rfl⟩
        have q6' := hide (show Below w5'.heap.size w5' w7' by rw [hw7']; exact (Below.refl _ _).alloc (Nat.le_refl _) _)
        rw [← hw7'] at Y
        replace Y := hide Y
        have Tw8' := hide (show (w5'.alloc (.cells (busL none 0 0 0).toArray 37)).there w5'.heap.size 0 2 by rw [← hw7']; exact there_heap (cs := busL none 0 0 0) Y.out)
        go_wp2_with (refine wpList_store_hid (by rfl) 37 (.tmp 20) (.tmp 101) (by rfl) w5'.heap.size 0 (busL A3 2 c3 now) (by rfl) (by rfl) (by exact Tw8'.out) (by kernel_rfl) (by simp [Value.oneCell', busL]) ?_)
        intro w8' ew8'
        replace ew8' : Hid (w8' = w7'.setCells w5'.heap.size 0 (busL A3 2 c3 now)) := by rw [hw7']; exact ew8'
        replace Y := hide (show w8'.heap[w5'.heap.size]? = some (.cells (busL A3 2 c3 now).toArray 37 (0, 0)) by rw [ew8'.out]; exact whole_heap (busL A3 2 c3 now) (xs := busL none 0 0 0) Y.out rfl)
        replace q6' := hide (show Below w5'.heap.size w5' w8' by rw [ew8'.out]; exact q6'.out.trans (below_setCells _ _ _ (by omega)))
        clear ew8' Tw8' hw7'
        replace B := hide (heap_below B.out q6'.out)
        replace D := hide (heap_below D.out q6'.out)
        replace X := hide (heap_below X.out q6'.out)
        replace HW := hide (Rd.next HW.out q6'.out q6'.out.size)
        replace OG := hide ((OG.out.grown q6'.out))
        replace HR2 := hide ((HR2.out.next q6'.out))
        replace HC3 := hide (Rd.next HC3.out q6'.out q6'.out.size)
        replace Q := hide (below_next Q.out Q.out.size q6'.out)
        clear q6'
        generalize w5'.heap.size = xb at *
        have R2 := hide (R1.out _ A3 c3 HC3.out)
        clear R1 HC3
        have zR : ∀ k9, ZS b d GA k9 → k9 < w8'.heap.size := fun k9 h9 => by
          rcases h9 with h | h | ⟨a9, ha, hb⟩
          · have := heap_lt B.out; omega
          · have := heap_lt D.out; omega
          · have := (own_in OG.out a9 ha).2; omega
        replace zR := hide zR
        go_wp2_with (refine wpList_load_row rfl 37 (.tmp 20) (by rfl) xb (by rfl) 37 (busL A3 2 c3 now).toArray (0, 0) _ (by exact Y.out) Tryz.underlying37 (by rfl) (by kernel_rfl) ?_)
        (with_reducible refine R2.out.mono ?_)
        rintro ew9' w9' ⟨A4, c4, E, ec, rfl, hC4, hE, hF4, qw9'⟩
        have AB4 := hide (show OffS (ZS b d GA) A4 2 from offS_fresh hF4 zR.out)
        have HC4 := hide (show Rd w9' w9'.heap.size A4 23 (clRows bl2) from hC4)
        have HE := hide (show Rd w9' w9'.heap.size E 9 (snRows sn) from hE.rd (snRows_rows _))
        have AE := hide (show OffS (ZS b d GA) E 2 from offS_fresh (fresh_own hE) zR.out)
        clear hC4 hF4 hE R2 zR Y
        replace B := hide (heap_below B.out qw9')
        replace D := hide (heap_below D.out qw9')
        replace X := hide (heap_below X.out qw9')
        replace HW := hide (Rd.next HW.out qw9' qw9'.size)
        replace OG := hide ((OG.out.grown qw9'))
        replace HR2 := hide ((HR2.out.next qw9'))
        replace Q := hide (below_next Q.out Q.out.size qw9')
        clear qw9'
        have hT6 := HT6.out.len
        replace hT6 := hide hT6
        have Z := World.alloc_heap_new w9' (.cells (busL none 0 0 0).toArray 37)
        have zBxc : b < w9'.heap.size := heap_lt B.out
        have zDxc : d < w9'.heap.size := heap_lt D.out
        have zXxc : xa < w9'.heap.size := heap_lt X.out
        have zQxc : w1.heap.size ≤ w9'.heap.size := Q.out.size
        obtain ⟨w11', hw11'⟩ : ∃ wx, wx = w9'.alloc (.cells (busL none 0 0 0).toArray 37) := ⟨_, rfl⟩
        have q10' := hide (show Below w9'.heap.size w9' w11' by rw [hw11']; exact (Below.refl _ _).alloc (Nat.le_refl _) _)
        rw [← hw11'] at Z
        replace Z := hide Z
        have Tw12' := hide (show (w9'.alloc (.cells (busL none 0 0 0).toArray 37)).there w9'.heap.size 0 2 by rw [← hw11']; exact there_heap (cs := busL none 0 0 0) Z.out)
        go_wp2_with (refine wpList_store_hid (by rfl) 37 (.tmp 22) (.tmp 106) (by rfl) w9'.heap.size 0 (busL A4 2 c4 (now + 180)) (by rfl) (by rfl) (by exact Tw12'.out) (by kernel_rfl) (by simp [Value.oneCell', busL]) ?_)
        intro w12' ew12'
        replace ew12' : Hid (w12' = w11'.setCells w9'.heap.size 0 (busL A4 2 c4 (now + 180))) := by rw [hw11']; exact ew12'
        replace Z := hide (show w12'.heap[w9'.heap.size]? = some (.cells (busL A4 2 c4 (now + 180)).toArray 37 (0, 0)) by rw [ew12'.out]; exact whole_heap (busL A4 2 c4 (now + 180)) (xs := busL none 0 0 0) Z.out rfl)
        replace q10' := hide (show Below w9'.heap.size w9' w12' by rw [ew12'.out]; exact q10'.out.trans (below_setCells _ _ _ (by omega)))
        clear ew12' Tw12' hw11'
        replace B := hide (heap_below B.out q10'.out)
        replace D := hide (heap_below D.out q10'.out)
        replace X := hide (heap_below X.out q10'.out)
        replace HW := hide (Rd.next HW.out q10'.out q10'.out.size)
        replace OG := hide ((OG.out.grown q10'.out))
        replace HR2 := hide ((HR2.out.next q10'.out))
        replace HC4 := hide (Rd.next HC4.out q10'.out q10'.out.size)
        replace HE := hide (Rd.next HE.out q10'.out q10'.out.size)
        replace Q := hide (below_next Q.out Q.out.size q10'.out)
        clear q10'
        generalize w9'.heap.size = xc at *
        go_upto_region 25 with fail
        refine wp_region_L [0, 1] [(0, fun W => W.heap[xa]? = some (.cells (rtL PA2 pc2 OA oc).toArray 31 (0, 0))), (1, fun W => W.heap[xc]? = some (.cells (busL A4 2 c4 (now + 180)).toArray 37 (0, 0)))] (by kernel_rfl) ?_
        replace B := hide (show w12'.drew.heap[b]? = some (.cells (rtL PA pc OA oc).toArray 31 (0, 0)) from B.out)
        replace D := hide (show w12'.drew.heap[d]? = some (.cells (busL BA 2 bc now).toArray 37 (0, 0)) from D.out)
        replace X := hide (show w12'.drew.heap[xa]? = some (.cells (rtL PA2 pc2 OA oc).toArray 31 (0, 0)) from X.out)
        replace Z := hide (show w12'.drew.heap[xc]? = some (.cells (busL A4 2 c4 (now + 180)).toArray 37 (0, 0)) from Z.out)
        replace HW := hide (show StR (w12'.drew) (w12'.drew).heap.size WA L from Rd.next HW.out ((Below.refl w12'.heap.size w12').drew) ((Below.refl w12'.heap.size w12').drew).size)
        replace OG := hide (show Own (w12'.drew) N 9 1 GA gc (stRow (L.take k)) from (OG.out.grown ((Below.refl w12'.heap.size w12').drew)))
        replace HR2 := hide (show Rt (w12'.drew) PA2 OA A2 c2 rest from (HR2.out.next ((Below.refl w12'.heap.size w12').drew)))
        replace HC4 := hide (show Rd (w12'.drew) (w12'.drew).heap.size A4 23 (clRows bl2) from Rd.next HC4.out ((Below.refl w12'.heap.size w12').drew) ((Below.refl w12'.heap.size w12').drew).size)
        replace HE := hide (show Rd (w12'.drew) (w12'.drew).heap.size E 9 (snRows sn) from Rd.next HE.out ((Below.refl w12'.heap.size w12').drew) ((Below.refl w12'.heap.size w12').drew).size)
        replace Q := hide (show Below w1.heap.size w1 w12'.drew from Q.out.drew)
        generalize w12'.drew = w13' at *
        refine wpAnyL_load (i := 0) (v := .agg (rtL PA2 pc2 OA oc).toArray) rfl rfl (by kernel_rfl) (by kernel_rfl) (by kernel_rfl) (by kernel_rfl) (by kernel_rfl) (fun _ _ _ h => hQ _ _ _ _ _ h) rfl (fun W h => exec_heap W xa 31 _ _ h Tryz.underlying31 rfl (by kernel_rfl) _ _ (.tmp 16) (by rfl) (by rfl)) (X.out) ?_
        go_simp
        refine wpAnyL_load (i := 1) (v := .agg (busL A4 2 c4 (now + 180)).toArray) rfl rfl (by kernel_rfl) (by kernel_rfl) (by kernel_rfl) (by kernel_rfl) (by kernel_rfl) (fun _ _ _ h => hQ _ _ _ _ _ h) rfl (fun W h => exec_heap W xc 37 _ _ h Tryz.underlying37 rfl (by kernel_rfl) _ _ (.tmp 22) (by rfl) (by rfl)) (Z.out) ?_
        go_simp
        refine wpAnyL_one (i := 2) (by kernel_rfl) ?_
        refine wpOp_do rfl rfl ?_
        have Tw14' := hide (show World.there _ b 0 2 from there_heap (cs := rtL PA pc OA oc) B.out)
        refine wp_store_as 31 (.tmp 5) (.tmp 124) rfl b 0 (rtL PA2 pc2 OA oc) (by rfl) (by rfl) (by exact Tw14'.out) (by kernel_rfl) (by simp [Value.oneCell', rtL]) ?_
        intro w14' ew14'
        replace D := hide (show w14'.heap[d]? = some (.cells (busL BA 2 bc now).toArray 37 (0, 0)) by rw [ew14']; exact other_heap (by omega) _ _ _ D.out)
        replace X := hide (show w14'.heap[xa]? = some (.cells (rtL PA2 pc2 OA oc).toArray 31 (0, 0)) by rw [ew14']; exact other_heap (by omega) _ _ _ X.out)
        replace Z := hide (show w14'.heap[xc]? = some (.cells (busL A4 2 c4 (now + 180)).toArray 37 (0, 0)) by rw [ew14']; exact other_heap (by omega) _ _ _ Z.out)
        replace HW := hide (show StR w14' w14'.heap.size WA L by rw [ew14']; exact Kp.rd (Kp.set (S := ZS b d GA) _ _ _ _ (by first | exact .inl rfl | exact .inr (.inl rfl))) HW.out (by unfold stRow; rw [List.length_map]; exact AWw.out))
        replace OG := hide (show Own w14' N 9 1 GA gc (stRow (L.take k)) by rw [ew14']; exact own_setCells (by have := zN.out; omega) _ _ _ OG.out)
        replace HR2 := hide (show Rt w14' PA2 OA A2 c2 rest by rw [ew14']; exact HR2.out.kp (Kp.set (S := ZS b d GA) _ _ _ _ (by first | exact .inl rfl | exact .inr (.inl rfl))) AW2.out)
        replace HC4 := hide (show Rd w14' w14'.heap.size A4 23 (clRows bl2) by rw [ew14']; exact Kp.rd (Kp.set (S := ZS b d GA) _ _ _ _ (by first | exact .inl rfl | exact .inr (.inl rfl))) HC4.out (by unfold clRows; rw [List.length_map, hT6.out]; exact AB4.out))
        replace HE := hide (show Rd w14' w14'.heap.size E 9 (snRows sn) by rw [ew14']; exact Kp.rd (Kp.set (S := ZS b d GA) _ _ _ _ (by first | exact .inl rfl | exact .inr (.inl rfl))) HE.out (by rw [snRows_len, HS4.out]; exact AE.out))
        replace Q := hide (show Below w1.heap.size w1 w14' by rw [ew14']; exact Q.out.trans (below_setCells _ _ _ (by have := Q.out.size; omega)))
        replace B := hide (show w14'.heap[b]? = some (.cells (rtL PA2 pc2 OA oc).toArray 31 (0, 0)) by rw [ew14']; exact whole_heap (rtL PA2 pc2 OA oc) (xs := rtL PA pc OA oc) B.out rfl)
        clear ew14' Tw14'
        refine ⟨keepsL_mk (by kernel_rfl) (.past (by kernel_rfl) (.cons (by exact Z.out) .nil)), ?_⟩
        go_simp
        refine wpAnyL_one (i := 3) (by kernel_rfl) ?_
        refine wpOp_do rfl rfl ?_
        have Tw15' := hide (show World.there _ d 0 2 from there_heap (cs := busL BA 2 bc now) D.out)
        refine wp_store_as 37 (.tmp 13) (.tmp 125) rfl d 0 (busL A4 2 c4 (now + 180)) (by rfl) (by rfl) (by exact Tw15'.out) (by kernel_rfl) (by simp [Value.oneCell', busL]) ?_
        intro w15' ew15'
        replace B := hide (show w15'.heap[b]? = some (.cells (rtL PA2 pc2 OA oc).toArray 31 (0, 0)) by rw [ew15']; exact other_heap (by omega) _ _ _ B.out)
        replace X := hide (show w15'.heap[xa]? = some (.cells (rtL PA2 pc2 OA oc).toArray 31 (0, 0)) by rw [ew15']; exact other_heap (by omega) _ _ _ X.out)
        replace Z := hide (show w15'.heap[xc]? = some (.cells (busL A4 2 c4 (now + 180)).toArray 37 (0, 0)) by rw [ew15']; exact other_heap (by omega) _ _ _ Z.out)
        replace HW := hide (show StR w15' w15'.heap.size WA L by rw [ew15']; exact Kp.rd (Kp.set (S := ZS b d GA) _ _ _ _ (by first | exact .inl rfl | exact .inr (.inl rfl))) HW.out (by unfold stRow; rw [List.length_map]; exact AWw.out))
        replace OG := hide (show Own w15' N 9 1 GA gc (stRow (L.take k)) by rw [ew15']; exact own_setCells (by have := zN.out; omega) _ _ _ OG.out)
        replace HR2 := hide (show Rt w15' PA2 OA A2 c2 rest by rw [ew15']; exact HR2.out.kp (Kp.set (S := ZS b d GA) _ _ _ _ (by first | exact .inl rfl | exact .inr (.inl rfl))) AW2.out)
        replace HC4 := hide (show Rd w15' w15'.heap.size A4 23 (clRows bl2) by rw [ew15']; exact Kp.rd (Kp.set (S := ZS b d GA) _ _ _ _ (by first | exact .inl rfl | exact .inr (.inl rfl))) HC4.out (by unfold clRows; rw [List.length_map, hT6.out]; exact AB4.out))
        replace HE := hide (show Rd w15' w15'.heap.size E 9 (snRows sn) by rw [ew15']; exact Kp.rd (Kp.set (S := ZS b d GA) _ _ _ _ (by first | exact .inl rfl | exact .inr (.inl rfl))) HE.out (by rw [snRows_len, HS4.out]; exact AE.out))
        replace Q := hide (show Below w1.heap.size w1 w15' by rw [ew15']; exact Q.out.trans (below_setCells _ _ _ (by have := Q.out.size; omega)))
        replace D := hide (show w15'.heap[d]? = some (.cells (busL A4 2 c4 (now + 180)).toArray 37 (0, 0)) by rw [ew15']; exact whole_heap (busL A4 2 c4 (now + 180)) (xs := busL BA 2 bc now) D.out rfl)
        clear ew15' Tw15'
        refine ⟨keepsL_all (by kernel_rfl) (by kernel_rfl), ?_⟩
        go_simp
        refine wpAnyL_done (by kernel_rfl) ?_ _
        clear X 
        clear Z 
        obtain ⟨eb, eo, rfl, heb, hrow⟩ := HE.out (by rw [snRows_len, HS4.out]; decide)
        obtain ⟨y, hy⟩ : ∃ y, sn[0]? = some y := by
          have := HS4.out
          exact ⟨sn[0]'(by omega), List.getElem?_eq_getElem (by omega)⟩
        have e7 : w15'.cell? ⟨eb, eo + 7, none⟩ = some (.string x) := by
          have h := hrow 0 (sncs y) 7 (.string y.ef.data) (by unfold snRows; rw [List.getElem?_map, hy]; rfl) rfl
          rw [HS5.out y (List.mem_of_getElem? hy), Nat.zero_mul, Nat.add_zero] at h
          exact h
        clear hrow hy
        have q9 : Below w15'.heap.size w15' (w15'.alloc (.cells #[.string x] 9)) := (Below.refl _ _).alloc (Nat.le_refl _) _
        have N2 := hide (World.alloc_heap_new w15' (.cells #[.string x] 9))
        have e8 := cellBelow q9 heb e7
        clear heb HE
        replace B := hide (heap_below B.out q9)
        replace D := hide (heap_below D.out q9)
        replace HW := hide (Rd.next HW.out q9 q9.size)
        replace OG := hide ((OG.out.grown q9))
        replace HR2 := hide ((HR2.out.next q9))
        replace HC4 := hide (Rd.next HC4.out q9 q9.size)
        replace Q := hide (below_next Q.out Q.out.size q9)
        clear q9
        have zB9 := heap_lt B.out
        have zD9 := heap_lt D.out
        have zN9 : N ≤ (w15'.alloc (.cells #[.string x] 9)).heap.size := by have := zN.out; omega
        have hkk : (stRow (L.take k)).length = k := by unfold stRow; rw [List.length_map]; exact htl.out
        replace hkk := hide hkk
        go_wp2_with (at_builtin; refine wpList_append_lies1 _ rfl _ _ 22 rfl slStT N _ _ _ (stRow (L.take k)) (by rfl) (by exact OG.out) _ 1 [.string x] (by rfl) (by exact rd_row (cs := [.string x]) N2.out) (by rfl) (by simp [Value.oneCell']) (by rw [hkk.out]; omega) (by rw [hkk.out]; unfold maxLen; omega) (by exact zN9) (by exact hkk.out.symm) ?_)
        intro GA3 gc3 w9 oN gN lN
        have kp := kp_appendG gN
        have zs := zs_after (W := (w15'.alloc (.cells #[.string x] 9))) (b := b) (d := d) oN (by simp) (fun g9 off9 h9 => by have := lN g9 off9 h9; simpa using this)
        have zz := fun k9 (h9 : ∃ a : Addr, GA = some a ∧ a.block = k9) => (show ZS b d GA k9 from .inr (.inr h9))
        replace B := hide (heap_grownB B.out gN (own_not OG.out (by have := zN.out; omega)))
        replace D := hide (heap_grownB D.out gN (own_not OG.out (by have := zN.out; omega)))
        have AW3 := hide (show Rt.Away (ZS b d GA3) PA2 OA A2 rest.length from (AW2.out.or HR2.out.away).mono zs)
        have AB5 := hide (show OffS (ZS b d GA3) A4 2 from (AB4.out.or (by have h := offS_rd HC4.out; rwa [show (clRows bl2).length = 2 by unfold clRows; rw [List.length_map, hT6.out]] at h)).mono zs)
        have AW5 := hide (show OffS (ZS b d GA3) WA L.length from (AWw.out.or (by have h := offS_rd HW.out; unfold stRow at h; rwa [List.length_map] at h)).mono zs)
        replace HR2 := hide (HR2.out.kp kp (AW2.out.mono zz))
        replace HC4 := hide (show Rd w9 w9.heap.size A4 23 (clRows bl2) from kp.rd HC4.out (by unfold clRows; rw [List.length_map, hT6.out]; exact AB4.out.mono zz))
        replace HW := hide (show StR w9 w9.heap.size WA L from kp.rd HW.out (by unfold stRow; rw [List.length_map]; exact AWw.out.mono zz))
        replace Q := hide (below_append Q.out gN OG.out (by have := zN.out; omega) (by have := Q.out.size; omega))
        replace OG := hide (show Own w9 N 9 1 GA3 gc3 (stRow (L.take (k + 1))) by rw [HTK.out]; unfold stRow; rw [List.map_append]; exact oN)
        clear oN gN lN kp zs N2 zN9 e7 e8 zz AW2 AB4 AWw
        go_wp2_with fail
        go_roundw
        case rel => exact ⟨k + 1, by omega, by go_num, PA2, A2, GA3, A4, pc2, c2, gc3, c4, now + 180, bl2, by rw [List.length_take, Nat.min_eq_left (by omega)], B, D, by rw [← hrest.out]; exact HR2, by rw [← hrest.out]; exact AW3, HC4, AB5, HT6.out, by omega, by omega, HW, AW5, OG, Q⟩
        case measure => simp [intOf]; omega
      · obtain rfl : k = L.length := by omega
        have hnil : L.drop L.length = [] := List.drop_length
        rw [hnil] at H
        have T1 := hide (rtTake_none PA OA A pc oc c wr H.out)
        clear hzs H AW HB AB HTW hbl2 D
        have htk : L.take L.length = L := List.take_length
        rw [htk] at OG
        clear htk hnil
        go_wp2_with (refine wpList_load_row rfl 31 (.tmp 5) (by rfl) b (by rfl) 31 (rtL PA pc OA oc).toArray (0, 0) _ (by exact B.out) Tryz.underlying31 (by rfl) (by kernel_rfl) ?_)
        (with_reducible refine (T1.out).mono ?_)
        rintro ew16' w16' ⟨rfl, qw16'⟩
        replace B := hide (heap_below B.out qw16')
        replace HW := hide (Rd.next HW.out qw16' qw16'.size)
        replace OG := hide ((OG.out.grown qw16'))
        replace Q := hide (below_next Q.out Q.out.size qw16')
        clear qw16'
        clear T1
        go_wp2_with fail
        go_meet
        exact ⟨GA, gc, rfl, hide (OG.out.alloc _), hide (Rd.next HW.out ((Below.refl _ _).alloc (Nat.le_refl _) _) (by simp)), hide (Q.out.alloc Q.out.size _)⟩
end Go.Proofs.YthkilodnghiocaaGreatDoor
