/- Parts of the walk of campanilelaw23.CanifOne. -/
import Derived.Test.YtkfedgjepiljiaaDoorCnE
import Derived.Test.YtkfedgjepiljiaaDoorMgCnP
namespace Go.Proofs.YtkfedgjepiljiaaDoor
open Go.ChangeShapes Go.WideShapes Go.ChangeAt Go.RowKit
open FP (Fr)

set_option maxRecDepth 100000 in
set_option maxHeartbeats 32000000 in
theorem canifOne_r5 (wr : World) (b : Nat) (x : Fi) {sl0 sl1 sl2 sl3 sl4 sl6 sl7 sl8 sl9 sl10 sl11 sl12 sl13 sl14 sl15 sl16 sl17 sl18 sl19 sl20 sl21 sl22 sl23 sl24 sl25 sl26 sl27 sl28 sl29 sl30 sl31 sl32 sl33 sl34 sl35 sl36 sl37 sl38 sl39 sl40 sl41 sl42 sl43 sl44 sl45 sl46 sl47 sl48 sl49 sl50 sl51 sl52 sl53 sl54 sl55 sl56 sl57 sl58 sl59 sl60 sl61 sl62 sl63 sl64 sl65 sl66 sl67 sl68 sl69 sl70 sl71 sl72 sl73 sl74 sl75 sl76 sl77 sl78 sl79 sl80 sl81 sl82 sl83 sl84 sl85 sl86 sl87 sl88 sl89 sl90 sl91 sl92 sl93 sl94 sl95 sl96 sl97 sl98 sl99 sl100 sl101 sl102 sl103 sl104 sl105 sl106 sl107 sl108 sl109 sl110 sl111 sl112 sl113 sl114 sl115 sl116 sl117 sl118 sl119 sl120 sl121 sl122 sl123 sl124 sl125 sl126 sl127 sl128 sl129 sl130 sl131 sl132 sl133 sl134 sl135 sl136 sl137 sl138 sl139 sl140 sl141 sl142 sl143 sl144 sl145 sl146 sl147 sl148 sl149 sl150 sl151 sl152 sl153 sl154 sl155 sl156 sl157 sl158 sl159 sl160 sl161 sl162 sl163 sl164 sl165 sl166 sl167 sl168 sl169 : Value} {K' : Act → World → Prop} {Q' : Exit → Act → World → Prop} {Cd : Code} (hC : Cd = partC Tryd.f3.body (isRegion 5))
    (CALL : Hid (∀ W, Below wr.heap.size wr W → Calls Tryd.prog 8 #[.agg x.cs.toArray, .agg zCl.cs.toArray] W fun e w' => e = .returned (.tuple #[.agg x.cs.toArray, .agg zCl.cs.toArray, .int .i64 0]) ∧ Below W.heap.size W w'))
    (B : Hid (wr.heap[b]? = some (.cells x.cs.toArray 31 (0, 0))))
    (hQ : ∀ c (a : Act) d v w, Q' (.panic c) (a.put d v) w → Q' (.panic c) a w)
    (hK : ∀ (v7 v8 v9 v51 v52 v53 v54 v55 v56 v57 : Value) (W' : World), (fun vx vc ve W => ∃ (k1 k2 : Nat), vx = .pointer (some ⟨k1, 0, none⟩) ∧ vc = .pointer (some ⟨k2, 0, none⟩) ∧ ve = .int .i64 0 ∧ Hid (W.heap[k1]? = some (.cells x.cs.toArray 31 (0, 0))) ∧ Hid (W.heap[k2]? = some (.cells zCl.cs.toArray 40 (0, 0))) ∧ wr.heap.size ≤ k1 ∧ wr.heap.size ≤ k2 ∧ k1 ≠ k2 ∧ Hid (Below wr.heap.size wr W)) v7 v8 v9 W' → K' ⟨List.toArray (sl0 :: sl1 :: sl2 :: sl3 :: sl4 :: (.pointer (some ⟨b, 0, none⟩)) :: sl6 :: v7 :: v8 :: v9 :: sl10 :: sl11 :: sl12 :: sl13 :: sl14 :: sl15 :: sl16 :: sl17 :: sl18 :: sl19 :: sl20 :: sl21 :: sl22 :: sl23 :: sl24 :: sl25 :: sl26 :: sl27 :: sl28 :: sl29 :: sl30 :: sl31 :: sl32 :: sl33 :: sl34 :: sl35 :: sl36 :: sl37 :: sl38 :: sl39 :: sl40 :: sl41 :: sl42 :: sl43 :: sl44 :: sl45 :: sl46 :: sl47 :: sl48 :: sl49 :: sl50 :: v51 :: v52 :: v53 :: v54 :: v55 :: v56 :: v57 :: sl58 :: sl59 :: sl60 :: sl61 :: sl62 :: sl63 :: sl64 :: sl65 :: sl66 :: sl67 :: sl68 :: sl69 :: sl70 :: sl71 :: sl72 :: sl73 :: sl74 :: sl75 :: sl76 :: sl77 :: sl78 :: sl79 :: sl80 :: sl81 :: sl82 :: sl83 :: sl84 :: sl85 :: sl86 :: sl87 :: sl88 :: sl89 :: sl90 :: sl91 :: sl92 :: sl93 :: sl94 :: sl95 :: sl96 :: sl97 :: sl98 :: sl99 :: sl100 :: sl101 :: sl102 :: sl103 :: sl104 :: sl105 :: sl106 :: sl107 :: sl108 :: sl109 :: sl110 :: sl111 :: sl112 :: sl113 :: sl114 :: sl115 :: sl116 :: sl117 :: sl118 :: sl119 :: sl120 :: sl121 :: sl122 :: sl123 :: sl124 :: sl125 :: sl126 :: sl127 :: sl128 :: sl129 :: sl130 :: sl131 :: sl132 :: sl133 :: sl134 :: sl135 :: sl136 :: sl137 :: sl138 :: sl139 :: sl140 :: sl141 :: sl142 :: sl143 :: sl144 :: sl145 :: sl146 :: sl147 :: sl148 :: sl149 :: sl150 :: sl151 :: sl152 :: sl153 :: sl154 :: sl155 :: sl156 :: sl157 :: sl158 :: sl159 :: sl160 :: sl161 :: sl162 :: sl163 :: sl164 :: sl165 :: sl166 :: sl167 :: sl168 :: sl169 :: []), []⟩ W') :
    Cd.wp Tryd.prog (Exit.then K' Q') ⟨List.toArray (sl0 :: sl1 :: sl2 :: sl3 :: sl4 :: (.pointer (some ⟨b, 0, none⟩)) :: sl6 :: sl7 :: sl8 :: sl9 :: sl10 :: sl11 :: sl12 :: sl13 :: sl14 :: sl15 :: sl16 :: sl17 :: sl18 :: sl19 :: sl20 :: sl21 :: sl22 :: sl23 :: sl24 :: sl25 :: sl26 :: sl27 :: sl28 :: sl29 :: sl30 :: sl31 :: sl32 :: sl33 :: sl34 :: sl35 :: sl36 :: sl37 :: sl38 :: sl39 :: sl40 :: sl41 :: sl42 :: sl43 :: sl44 :: sl45 :: sl46 :: sl47 :: sl48 :: sl49 :: sl50 :: sl51 :: sl52 :: sl53 :: sl54 :: sl55 :: sl56 :: sl57 :: sl58 :: sl59 :: sl60 :: sl61 :: sl62 :: sl63 :: sl64 :: sl65 :: sl66 :: sl67 :: sl68 :: sl69 :: sl70 :: sl71 :: sl72 :: sl73 :: sl74 :: sl75 :: sl76 :: sl77 :: sl78 :: sl79 :: sl80 :: sl81 :: sl82 :: sl83 :: sl84 :: sl85 :: sl86 :: sl87 :: sl88 :: sl89 :: sl90 :: sl91 :: sl92 :: sl93 :: sl94 :: sl95 :: sl96 :: sl97 :: sl98 :: sl99 :: sl100 :: sl101 :: sl102 :: sl103 :: sl104 :: sl105 :: sl106 :: sl107 :: sl108 :: sl109 :: sl110 :: sl111 :: sl112 :: sl113 :: sl114 :: sl115 :: sl116 :: sl117 :: sl118 :: sl119 :: sl120 :: sl121 :: sl122 :: sl123 :: sl124 :: sl125 :: sl126 :: sl127 :: sl128 :: sl129 :: sl130 :: sl131 :: sl132 :: sl133 :: sl134 :: sl135 :: sl136 :: sl137 :: sl138 :: sl139 :: sl140 :: sl141 :: sl142 :: sl143 :: sl144 :: sl145 :: sl146 :: sl147 :: sl148 :: sl149 :: sl150 :: sl151 :: sl152 :: sl153 :: sl154 :: sl155 :: sl156 :: sl157 :: sl158 :: sl159 :: sl160 :: sl161 :: sl162 :: sl163 :: sl164 :: sl165 :: sl166 :: sl167 :: sl168 :: sl169 :: []), []⟩ wr := by
  subst hC
  conv => arg 2; whnf
  go_cut [7, 8, 9] from 99999 (fun vx vc ve W => ∃ (k1 k2 : Nat), vx = .pointer (some ⟨k1, 0, none⟩) ∧ vc = .pointer (some ⟨k2, 0, none⟩) ∧ ve = .int .i64 0 ∧ Hid (W.heap[k1]? = some (.cells x.cs.toArray 31 (0, 0))) ∧ Hid (W.heap[k2]? = some (.cells zCl.cs.toArray 40 (0, 0))) ∧ wr.heap.size ≤ k1 ∧ wr.heap.size ≤ k2 ∧ k1 ≠ k2 ∧ Hid (Below wr.heap.size wr W))
  case rest => exact hK _ _ _ _ _ _ _ _ _ _ _ hcut
  case first =>
    clear hK
    have NC := hide (fun W => ctlNew_any W)
    have Q := hide (Below.refl wr.heap.size wr)
    refine wp_region_L [0, 3, 4, 5, 6] [(0, fun W => W.heap[b]? = some (.cells x.cs.toArray 31 (0, 0)))] (by kernel_rfl) ?_
    replace B := hide (show wr.drew.heap[b]? = some (.cells x.cs.toArray 31 (0, 0)) from B.out)
    replace Q := hide (show Below wr.heap.size wr wr.drew from Q.out.drew)
    generalize wr.drew = w1' at *
    refine wpAnyL_load (i := 0) (v := .agg x.cs.toArray) rfl rfl (by kernel_rfl) (by kernel_rfl) (by kernel_rfl) (by kernel_rfl) (by kernel_rfl) (fun _ _ _ h => hQ _ _ _ _ _ h) rfl (fun W h => exec_heap W b 31 x.cs _ h Tryd.underlying31 rfl (by kernel_rfl) _ _ (.tmp 5) (by rfl) (by rfl)) (B.out) ?_
    go_simp
    refine wpAnyL_three (i := 1) (k := 7) (m := 8) (by kernel_rfl) ?_ ?_ ?_
    · refine wpOp_do rfl rfl ?_
      go_simp
      (with_reducible refine (NC.out _).mono ?_)
      rintro ew2' w2' ⟨rfl, qw2'⟩
      replace B := hide (heap_below B.out qw2')
      replace Q := hide (below_next Q.out Q.out.size qw2')
      clear qw2'
      go_simp
      refine ⟨keepsL_mk (by kernel_rfl) (.cons B.out .nil), ?_⟩
      go_simp
      refine wpAnyL_three (i := 2) (k := 7) (m := 8) (by kernel_rfl) ?_ ?_ ?_
      · refine wpOp_do rfl rfl ?_
        go_simp
        have R1 := hide (CALL.out w2' Q.out)
        (with_reducible refine (R1.out).mono ?_)
        rintro ew3' w3' ⟨rfl, qw3'⟩
        replace B := hide (heap_below B.out qw3')
        replace Q := hide (below_next Q.out Q.out.size qw3')
        clear qw3'
        clear R1
        clear CALL
        go_simp
        refine ⟨keepsL_mk (by kernel_rfl) (.cons B.out .nil), ?_⟩
        go_simp
        refine wpAnyL_pure (i := 3) (v := .tuple #[.agg x.cs.toArray, .agg zCl.cs.toArray, .int .i64 0]) rfl rfl (by kernel_rfl) (by kernel_rfl) (by kernel_rfl) (by kernel_rfl) (by kernel_rfl) (fun _ _ _ h => hQ _ _ _ _ _ h) rfl (fun W => by go_simp) ?_
        go_simp
        refine wpAnyL_pure (i := 4) (v := .agg x.cs.toArray) rfl rfl (by kernel_rfl) (by kernel_rfl) (by kernel_rfl) (by kernel_rfl) (by kernel_rfl) (fun _ _ _ h => hQ _ _ _ _ _ h) rfl (fun W => by go_simp) ?_
        go_simp
        refine wpAnyL_pure (i := 5) (v := .agg zCl.cs.toArray) rfl rfl (by kernel_rfl) (by kernel_rfl) (by kernel_rfl) (by kernel_rfl) (by kernel_rfl) (fun _ _ _ h => hQ _ _ _ _ _ h) rfl (fun W => by go_simp) ?_
        go_simp
        refine wpAnyL_pure (i := 6) (v := .int .i64 0) rfl rfl (by kernel_rfl) (by kernel_rfl) (by kernel_rfl) (by kernel_rfl) (by kernel_rfl) (fun _ _ _ h => hQ _ _ _ _ _ h) rfl (fun W => by go_simp) ?_
        go_simp
        refine wpAnyL_two (i := 7) (k := 8) (by kernel_rfl) ?_ ?_
        · refine wpOp_do rfl rfl ?_
          go_simp
          have N1 := hide (World.alloc_heap_new w3' (.cells zFi.cs.toArray 31))
          have zBx7 : b < w3'.heap.size := heap_lt B.out
          have zQx7 : wr.heap.size ≤ w3'.heap.size := Q.out.size
          have q5' : Below w3'.heap.size w3' (w3'.alloc (.cells zFi.cs.toArray 31)) := (Below.refl _ _).alloc (Nat.le_refl _) _
          replace B := hide (heap_below B.out q5')
          replace Q := hide (below_next Q.out Q.out.size q5')
          clear q5'
          refine ⟨keepsL_mk (by kernel_rfl) (.cons B.out .nil), ?_⟩
          change wpAnyL _ _ _ _ _ _ _ _ _ (w3'.alloc (.cells zFi.cs.toArray 31))
          generalize w3'.alloc (.cells zFi.cs.toArray 31) = w4' at *
          generalize w3'.heap.size = x7 at *
          go_simp
          refine wpAnyL_one (i := 8) (by kernel_rfl) ?_
          refine wpOp_do rfl rfl ?_
          go_simp
          have N2 := hide (World.alloc_heap_new w4' (.cells zCl.cs.toArray 40))
          have zBx8 : b < w4'.heap.size := heap_lt B.out
          have zN1x8 : x7 < w4'.heap.size := heap_lt N1.out
          have zQx8 : wr.heap.size ≤ w4'.heap.size := Q.out.size
          have q7' : Below w4'.heap.size w4' (w4'.alloc (.cells zCl.cs.toArray 40)) := (Below.refl _ _).alloc (Nat.le_refl _) _
          replace B := hide (heap_below B.out q7')
          replace N1 := hide (heap_below N1.out q7')
          replace Q := hide (below_next Q.out Q.out.size q7')
          clear q7'
          refine ⟨keepsL_mk (by kernel_rfl) (.cons B.out .nil), ?_⟩
          change wpAnyL _ _ _ _ _ _ _ _ _ (w4'.alloc (.cells zCl.cs.toArray 40))
          generalize w4'.alloc (.cells zCl.cs.toArray 40) = w6' at *
          generalize w4'.heap.size = x8 at *
          go_simp
          refine wpAnyL_one (i := 9) (by kernel_rfl) ?_
          refine wpOp_do rfl rfl ?_
          have Tw8' := hide (show World.there _ x7 0 7 from there_heap (cs := zFi.cs) N1.out)
          refine wp_store_as 31 (.tmp 7) (.tmp 55) rfl x7 0 x.cs (by rfl) (by rfl) (by exact Tw8'.out) (by kernel_rfl) (by simp [Value.oneCell', Fi.cs]) ?_
          intro w8' ew8'
          replace B := hide (show w8'.heap[b]? = some (.cells x.cs.toArray 31 (0, 0)) by rw [ew8']; exact other_heap (by omega) _ _ _ B.out)
          replace N2 := hide (show w8'.heap[x8]? = some (.cells zCl.cs.toArray 40 (0, 0)) by rw [ew8']; exact other_heap (by omega) _ _ _ N2.out)
          replace Q := hide (show Below wr.heap.size wr w8' by rw [ew8']; exact Q.out.trans (below_setCells _ _ _ (by have := Q.out.size; omega)))
          replace N1 := hide (show w8'.heap[x7]? = some (.cells x.cs.toArray 31 (0, 0)) by rw [ew8']; exact whole_heap x.cs (xs := zFi.cs) N1.out rfl)
          clear ew8' Tw8'
          refine ⟨keepsL_all (by kernel_rfl) (by kernel_rfl), ?_⟩
          go_simp
          refine wpAnyL_one (i := 10) (by kernel_rfl) ?_
          refine wpOp_do rfl rfl ?_
          have Tw9' := hide (show World.there _ x8 0 23 from there_heap (cs := zCl.cs) N2.out)
          refine wp_store_as 40 (.tmp 8) (.tmp 56) rfl x8 0 zCl.cs (by rfl) (by rfl) (by exact Tw9'.out) (by kernel_rfl) (by simp [Value.oneCell', Cl.cs]) ?_
          intro w9' ew9'
          replace B := hide (show w9'.heap[b]? = some (.cells x.cs.toArray 31 (0, 0)) by rw [ew9']; exact other_heap (by omega) _ _ _ B.out)
          replace N1 := hide (show w9'.heap[x7]? = some (.cells x.cs.toArray 31 (0, 0)) by rw [ew9']; exact other_heap (by omega) _ _ _ N1.out)
          replace Q := hide (show Below wr.heap.size wr w9' by rw [ew9']; exact Q.out.trans (below_setCells _ _ _ (by have := Q.out.size; omega)))
          replace N2 := hide (show w9'.heap[x8]? = some (.cells zCl.cs.toArray 40 (0, 0)) by rw [ew9']; exact whole_heap zCl.cs (xs := zCl.cs) N2.out rfl)
          clear ew9' Tw9'
          refine ⟨keepsL_all (by kernel_rfl) (by kernel_rfl), ?_⟩
          go_simp
          refine wpAnyL_one (i := 11) (by kernel_rfl) ?_
          refine wpOp_do rfl rfl ?_
          go_simp
          refine ⟨keepsL_all (by kernel_rfl) (by kernel_rfl), ?_⟩
          go_simp
          refine wpAnyL_done (by kernel_rfl) ?_ _
          go_wp2_with fail
          go_meet
          exact ⟨x7, x8, rfl, rfl, rfl, N1, N2, by omega, by omega, by omega, Q⟩
        · refine wpOp_do rfl rfl ?_
          go_simp
          have N2 := hide (World.alloc_heap_new w3' (.cells zCl.cs.toArray 40))
          have zBx8 : b < w3'.heap.size := heap_lt B.out
          have zQx8 : wr.heap.size ≤ w3'.heap.size := Q.out.size
          have q11' : Below w3'.heap.size w3' (w3'.alloc (.cells zCl.cs.toArray 40)) := (Below.refl _ _).alloc (Nat.le_refl _) _
          replace B := hide (heap_below B.out q11')
          replace Q := hide (below_next Q.out Q.out.size q11')
          clear q11'
          refine ⟨keepsL_mk (by kernel_rfl) (.cons B.out .nil), ?_⟩
          change wpAnyL _ _ _ _ _ _ _ _ _ (w3'.alloc (.cells zCl.cs.toArray 40))
          generalize w3'.alloc (.cells zCl.cs.toArray 40) = w10' at *
          generalize w3'.heap.size = x8 at *
          go_simp
          refine wpAnyL_one (i := 7) (by kernel_rfl) ?_
          refine wpOp_do rfl rfl ?_
          go_simp
          have N1 := hide (World.alloc_heap_new w10' (.cells zFi.cs.toArray 31))
          have zBx7 : b < w10'.heap.size := heap_lt B.out
          have zN2x7 : x8 < w10'.heap.size := heap_lt N2.out
          have zQx7 : wr.heap.size ≤ w10'.heap.size := Q.out.size
          have q13' : Below w10'.heap.size w10' (w10'.alloc (.cells zFi.cs.toArray 31)) := (Below.refl _ _).alloc (Nat.le_refl _) _
          replace B := hide (heap_below B.out q13')
          replace N2 := hide (heap_below N2.out q13')
          replace Q := hide (below_next Q.out Q.out.size q13')
          clear q13'
          refine ⟨keepsL_mk (by kernel_rfl) (.cons B.out .nil), ?_⟩
          change wpAnyL _ _ _ _ _ _ _ _ _ (w10'.alloc (.cells zFi.cs.toArray 31))
          generalize w10'.alloc (.cells zFi.cs.toArray 31) = w12' at *
          generalize w10'.heap.size = x7 at *
          go_simp
          refine wpAnyL_one (i := 9) (by kernel_rfl) ?_
          refine wpOp_do rfl rfl ?_
          have Tw14' := hide (show World.there _ x7 0 7 from there_heap (cs := zFi.cs) N1.out)
          refine wp_store_as 31 (.tmp 7) (.tmp 55) rfl x7 0 x.cs (by rfl) (by rfl) (by exact Tw14'.out) (by kernel_rfl) (by simp [Value.oneCell', Fi.cs]) ?_
          intro w14' ew14'
          replace B := hide (show w14'.heap[b]? = some (.cells x.cs.toArray 31 (0, 0)) by rw [ew14']; exact other_heap (by omega) _ _ _ B.out)
          replace N2 := hide (show w14'.heap[x8]? = some (.cells zCl.cs.toArray 40 (0, 0)) by rw [ew14']; exact other_heap (by omega) _ _ _ N2.out)
          replace Q := hide (show Below wr.heap.size wr w14' by rw [ew14']; exact Q.out.trans (below_setCells _ _ _ (by have := Q.out.size; omega)))
          replace N1 := hide (show w14'.heap[x7]? = some (.cells x.cs.toArray 31 (0, 0)) by rw [ew14']; exact whole_heap x.cs (xs := zFi.cs) N1.out rfl)
          clear ew14' Tw14'
          refine ⟨keepsL_all (by kernel_rfl) (by kernel_rfl), ?_⟩
          go_simp
          refine wpAnyL_one (i := 10) (by kernel_rfl) ?_
          refine wpOp_do rfl rfl ?_
          have Tw15' := hide (show World.there _ x8 0 23 from there_heap (cs := zCl.cs) N2.out)
          refine wp_store_as 40 (.tmp 8) (.tmp 56) rfl x8 0 zCl.cs (by rfl) (by rfl) (by exact Tw15'.out) (by kernel_rfl) (by simp [Value.oneCell', Cl.cs]) ?_
          intro w15' ew15'
          replace B := hide (show w15'.heap[b]? = some (.cells x.cs.toArray 31 (0, 0)) by rw [ew15']; exact other_heap (by omega) _ _ _ B.out)
          replace N1 := hide (show w15'.heap[x7]? = some (.cells x.cs.toArray 31 (0, 0)) by rw [ew15']; exact other_heap (by omega) _ _ _ N1.out)
          replace Q := hide (show Below wr.heap.size wr w15' by rw [ew15']; exact Q.out.trans (below_setCells _ _ _ (by have := Q.out.size; omega)))
          replace N2 := hide (show w15'.heap[x8]? = some (.cells zCl.cs.toArray 40 (0, 0)) by rw [ew15']; exact whole_heap zCl.cs (xs := zCl.cs) N2.out rfl)
          clear ew15' Tw15'
          refine ⟨keepsL_all (by kernel_rfl) (by kernel_rfl), ?_⟩
          go_simp
          refine wpAnyL_one (i := 11) (by kernel_rfl) ?_
          refine wpOp_do rfl rfl ?_
          go_simp
          refine ⟨keepsL_all (by kernel_rfl) (by kernel_rfl), ?_⟩
          go_simp
          refine wpAnyL_done (by kernel_rfl) ?_ _
          go_wp2_with fail
          go_meet
          exact ⟨x7, x8, rfl, rfl, rfl, N1, N2, by omega, by omega, by omega, Q⟩
      · refine wpOp_do rfl rfl ?_
        go_simp
        have N1 := hide (World.alloc_heap_new w2' (.cells zFi.cs.toArray 31))
        have zBx7 : b < w2'.heap.size := heap_lt B.out
        have zQx7 : wr.heap.size ≤ w2'.heap.size := Q.out.size
        have q17' : Below w2'.heap.size w2' (w2'.alloc (.cells zFi.cs.toArray 31)) := (Below.refl _ _).alloc (Nat.le_refl _) _
        replace B := hide (heap_below B.out q17')
        replace Q := hide (below_next Q.out Q.out.size q17')
        clear q17'
        refine ⟨keepsL_mk (by kernel_rfl) (.cons B.out .nil), ?_⟩
        change wpAnyL _ _ _ _ _ _ _ _ _ (w2'.alloc (.cells zFi.cs.toArray 31))
        generalize w2'.alloc (.cells zFi.cs.toArray 31) = w16' at *
        generalize w2'.heap.size = x7 at *
        go_simp
        refine wpAnyL_two (i := 2) (k := 8) (by kernel_rfl) ?_ ?_
        · refine wpOp_do rfl rfl ?_
          go_simp
          have R1 := hide (CALL.out w16' Q.out)
          (with_reducible refine (R1.out).mono ?_)
          rintro ew18' w18' ⟨rfl, qw18'⟩
          replace B := hide (heap_below B.out qw18')
          replace N1 := hide (heap_below N1.out qw18')
          replace Q := hide (below_next Q.out Q.out.size qw18')
          clear qw18'
          clear R1
          clear CALL
          go_simp
          refine ⟨keepsL_mk (by kernel_rfl) (.cons B.out .nil), ?_⟩
          go_simp
          refine wpAnyL_pure (i := 3) (v := .tuple #[.agg x.cs.toArray, .agg zCl.cs.toArray, .int .i64 0]) rfl rfl (by kernel_rfl) (by kernel_rfl) (by kernel_rfl) (by kernel_rfl) (by kernel_rfl) (fun _ _ _ h => hQ _ _ _ _ _ h) rfl (fun W => by go_simp) ?_
          go_simp
          refine wpAnyL_pure (i := 4) (v := .agg x.cs.toArray) rfl rfl (by kernel_rfl) (by kernel_rfl) (by kernel_rfl) (by kernel_rfl) (by kernel_rfl) (fun _ _ _ h => hQ _ _ _ _ _ h) rfl (fun W => by go_simp) ?_
          go_simp
          refine wpAnyL_pure (i := 5) (v := .agg zCl.cs.toArray) rfl rfl (by kernel_rfl) (by kernel_rfl) (by kernel_rfl) (by kernel_rfl) (by kernel_rfl) (fun _ _ _ h => hQ _ _ _ _ _ h) rfl (fun W => by go_simp) ?_
          go_simp
          refine wpAnyL_pure (i := 6) (v := .int .i64 0) rfl rfl (by kernel_rfl) (by kernel_rfl) (by kernel_rfl) (by kernel_rfl) (by kernel_rfl) (fun _ _ _ h => hQ _ _ _ _ _ h) rfl (fun W => by go_simp) ?_
          go_simp
          refine wpAnyL_one (i := 8) (by kernel_rfl) ?_
          refine wpOp_do rfl rfl ?_
          go_simp
          have N2 := hide (World.alloc_heap_new w18' (.cells zCl.cs.toArray 40))
          have zBx8 : b < w18'.heap.size := heap_lt B.out
          have zN1x8 : x7 < w18'.heap.size := heap_lt N1.out
          have zQx8 : wr.heap.size ≤ w18'.heap.size := Q.out.size
          have q20' : Below w18'.heap.size w18' (w18'.alloc (.cells zCl.cs.toArray 40)) := (Below.refl _ _).alloc (Nat.le_refl _) _
          replace B := hide (heap_below B.out q20')
          replace N1 := hide (heap_below N1.out q20')
          replace Q := hide (below_next Q.out Q.out.size q20')
          clear q20'
          refine ⟨keepsL_mk (by kernel_rfl) (.cons B.out .nil), ?_⟩
          change wpAnyL _ _ _ _ _ _ _ _ _ (w18'.alloc (.cells zCl.cs.toArray 40))
          generalize w18'.alloc (.cells zCl.cs.toArray 40) = w19' at *
          generalize w18'.heap.size = x8 at *
          go_simp
          refine wpAnyL_one (i := 9) (by kernel_rfl) ?_
          refine wpOp_do rfl rfl ?_
          have Tw21' := hide (show World.there _ x7 0 7 from there_heap (cs := zFi.cs) N1.out)
          refine wp_store_as 31 (.tmp 7) (.tmp 55) rfl x7 0 x.cs (by rfl) (by rfl) (by exact Tw21'.out) (by kernel_rfl) (by simp [Value.oneCell', Fi.cs]) ?_
          intro w21' ew21'
          replace B := hide (show w21'.heap[b]? = some (.cells x.cs.toArray 31 (0, 0)) by rw [ew21']; exact other_heap (by omega) _ _ _ B.out)
          replace N2 := hide (show w21'.heap[x8]? = some (.cells zCl.cs.toArray 40 (0, 0)) by rw [ew21']; exact other_heap (by omega) _ _ _ N2.out)
          replace Q := hide (show Below wr.heap.size wr w21' by rw [ew21']; exact Q.out.trans (below_setCells _ _ _ (by have := Q.out.size; omega)))
          replace N1 := hide (show w21'.heap[x7]? = some (.cells x.cs.toArray 31 (0, 0)) by rw [ew21']; exact whole_heap x.cs (xs := zFi.cs) N1.out rfl)
          clear ew21' Tw21'
          refine ⟨keepsL_all (by kernel_rfl) (by kernel_rfl), ?_⟩
          go_simp
          refine wpAnyL_one (i := 10) (by kernel_rfl) ?_
          refine wpOp_do rfl rfl ?_
          have Tw22' := hide (show World.there _ x8 0 23 from there_heap (cs := zCl.cs) N2.out)
          refine wp_store_as 40 (.tmp 8) (.tmp 56) rfl x8 0 zCl.cs (by rfl) (by rfl) (by exact Tw22'.out) (by kernel_rfl) (by simp [Value.oneCell', Cl.cs]) ?_
          intro w22' ew22'
          replace B := hide (show w22'.heap[b]? = some (.cells x.cs.toArray 31 (0, 0)) by rw [ew22']; exact other_heap (by omega) _ _ _ B.out)
          replace N1 := hide (show w22'.heap[x7]? = some (.cells x.cs.toArray 31 (0, 0)) by rw [ew22']; exact other_heap (by omega) _ _ _ N1.out)
          replace Q := hide (show Below wr.heap.size wr w22' by rw [ew22']; exact Q.out.trans (below_setCells _ _ _ (by have := Q.out.size; omega)))
          replace N2 := hide (show w22'.heap[x8]? = some (.cells zCl.cs.toArray 40 (0, 0)) by rw [ew22']; exact whole_heap zCl.cs (xs := zCl.cs) N2.out rfl)
          clear ew22' Tw22'
          refine ⟨keepsL_all (by kernel_rfl) (by kernel_rfl), ?_⟩
          go_simp
          refine wpAnyL_one (i := 11) (by kernel_rfl) ?_
          refine wpOp_do rfl rfl ?_
          go_simp
          refine ⟨keepsL_all (by kernel_rfl) (by kernel_rfl), ?_⟩
          go_simp
          refine wpAnyL_done (by kernel_rfl) ?_ _
          go_wp2_with fail
          go_meet
          exact ⟨x7, x8, rfl, rfl, rfl, N1, N2, by omega, by omega, by omega, Q⟩
        · refine wpOp_do rfl rfl ?_
          go_simp
          have N2 := hide (World.alloc_heap_new w16' (.cells zCl.cs.toArray 40))
          have zBx8 : b < w16'.heap.size := heap_lt B.out
          have zN1x8 : x7 < w16'.heap.size := heap_lt N1.out
          have zQx8 : wr.heap.size ≤ w16'.heap.size := Q.out.size
          have q24' : Below w16'.heap.size w16' (w16'.alloc (.cells zCl.cs.toArray 40)) := (Below.refl _ _).alloc (Nat.le_refl _) _
          replace B := hide (heap_below B.out q24')
          replace N1 := hide (heap_below N1.out q24')
          replace Q := hide (below_next Q.out Q.out.size q24')
          clear q24'
          refine ⟨keepsL_mk (by kernel_rfl) (.cons B.out .nil), ?_⟩
          change wpAnyL _ _ _ _ _ _ _ _ _ (w16'.alloc (.cells zCl.cs.toArray 40))
          generalize w16'.alloc (.cells zCl.cs.toArray 40) = w23' at *
          generalize w16'.heap.size = x8 at *
          go_simp
          refine wpAnyL_one (i := 2) (by kernel_rfl) ?_
          refine wpOp_do rfl rfl ?_
          go_simp
          have R1 := hide (CALL.out w23' Q.out)
          (with_reducible refine (R1.out).mono ?_)
          rintro ew25' w25' ⟨rfl, qw25'⟩
          replace B := hide (heap_below B.out qw25')
          replace N1 := hide (heap_below N1.out qw25')
          replace N2 := hide (heap_below N2.out qw25')
          replace Q := hide (below_next Q.out Q.out.size qw25')
          clear qw25'
          clear R1
          clear CALL
          go_simp
          refine ⟨keepsL_mk (by kernel_rfl) (.cons B.out .nil), ?_⟩
          go_simp
          refine wpAnyL_pure (i := 3) (v := .tuple #[.agg x.cs.toArray, .agg zCl.cs.toArray, .int .i64 0]) rfl rfl (by kernel_rfl) (by kernel_rfl) (by kernel_rfl) (by kernel_rfl) (by kernel_rfl) (fun _ _ _ h => hQ _ _ _ _ _ h) rfl (fun W => by go_simp) ?_
          go_simp
          refine wpAnyL_pure (i := 4) (v := .agg x.cs.toArray) rfl rfl (by kernel_rfl) (by kernel_rfl) (by kernel_rfl) (by kernel_rfl) (by kernel_rfl) (fun _ _ _ h => hQ _ _ _ _ _ h) rfl (fun W => by go_simp) ?_
          go_simp
          refine wpAnyL_pure (i := 5) (v := .agg zCl.cs.toArray) rfl rfl (by kernel_rfl) (by kernel_rfl) (by kernel_rfl) (by kernel_rfl) (by kernel_rfl) (fun _ _ _ h => hQ _ _ _ _ _ h) rfl (fun W => by go_simp) ?_
          go_simp
          refine wpAnyL_pure (i := 6) (v := .int .i64 0) rfl rfl (by kernel_rfl) (by kernel_rfl) (by kernel_rfl) (by kernel_rfl) (by kernel_rfl) (fun _ _ _ h => hQ _ _ _ _ _ h) rfl (fun W => by go_simp) ?_
          go_simp
          refine wpAnyL_one (i := 9) (by kernel_rfl) ?_
          refine wpOp_do rfl rfl ?_
          have Tw26' := hide (show World.there _ x7 0 7 from there_heap (cs := zFi.cs) N1.out)
          refine wp_store_as 31 (.tmp 7) (.tmp 55) rfl x7 0 x.cs (by rfl) (by rfl) (by exact Tw26'.out) (by kernel_rfl) (by simp [Value.oneCell', Fi.cs]) ?_
          intro w26' ew26'
          replace B := hide (show w26'.heap[b]? = some (.cells x.cs.toArray 31 (0, 0)) by rw [ew26']; exact other_heap (by omega) _ _ _ B.out)
          replace N2 := hide (show w26'.heap[x8]? = some (.cells zCl.cs.toArray 40 (0, 0)) by rw [ew26']; exact other_heap (by omega) _ _ _ N2.out)
          replace Q := hide (show Below wr.heap.size wr w26' by rw [ew26']; exact Q.out.trans (below_setCells _ _ _ (by have := Q.out.size; omega)))
          replace N1 := hide (show w26'.heap[x7]? = some (.cells x.cs.toArray 31 (0, 0)) by rw [ew26']; exact whole_heap x.cs (xs := zFi.cs) N1.out rfl)
          clear ew26' Tw26'
          refine ⟨keepsL_all (by kernel_rfl) (by kernel_rfl), ?_⟩
          go_simp
          refine wpAnyL_one (i := 10) (by kernel_rfl) ?_
          refine wpOp_do rfl rfl ?_
          have Tw27' := hide (show World.there _ x8 0 23 from there_heap (cs := zCl.cs) N2.out)
          refine wp_store_as 40 (.tmp 8) (.tmp 56) rfl x8 0 zCl.cs (by rfl) (by rfl) (by exact Tw27'.out) (by kernel_rfl) (by simp [Value.oneCell', Cl.cs]) ?_
          intro w27' ew27'
          replace B := hide (show w27'.heap[b]? = some (.cells x.cs.toArray 31 (0, 0)) by rw [ew27']; exact other_heap (by omega) _ _ _ B.out)
          replace N1 := hide (show w27'.heap[x7]? = some (.cells x.cs.toArray 31 (0, 0)) by rw [ew27']; exact other_heap (by omega) _ _ _ N1.out)
          replace Q := hide (show Below wr.heap.size wr w27' by rw [ew27']; exact Q.out.trans (below_setCells _ _ _ (by have := Q.out.size; omega)))
          replace N2 := hide (show w27'.heap[x8]? = some (.cells zCl.cs.toArray 40 (0, 0)) by rw [ew27']; exact whole_heap zCl.cs (xs := zCl.cs) N2.out rfl)
          clear ew27' Tw27'
          refine ⟨keepsL_all (by kernel_rfl) (by kernel_rfl), ?_⟩
          go_simp
          refine wpAnyL_one (i := 11) (by kernel_rfl) ?_
          refine wpOp_do rfl rfl ?_
          go_simp
          refine ⟨keepsL_all (by kernel_rfl) (by kernel_rfl), ?_⟩
          go_simp
          refine wpAnyL_done (by kernel_rfl) ?_ _
          go_wp2_with fail
          go_meet
          exact ⟨x7, x8, rfl, rfl, rfl, N1, N2, by omega, by omega, by omega, Q⟩
      · refine wpOp_do rfl rfl ?_
        go_simp
        have N2 := hide (World.alloc_heap_new w2' (.cells zCl.cs.toArray 40))
        have zBx8 : b < w2'.heap.size := heap_lt B.out
        have zQx8 : wr.heap.size ≤ w2'.heap.size := Q.out.size
        have q29' : Below w2'.heap.size w2' (w2'.alloc (.cells zCl.cs.toArray 40)) := (Below.refl _ _).alloc (Nat.le_refl _) _
        replace B := hide (heap_below B.out q29')
        replace Q := hide (below_next Q.out Q.out.size q29')
        clear q29'
        refine ⟨keepsL_mk (by kernel_rfl) (.cons B.out .nil), ?_⟩
        change wpAnyL _ _ _ _ _ _ _ _ _ (w2'.alloc (.cells zCl.cs.toArray 40))
        generalize w2'.alloc (.cells zCl.cs.toArray 40) = w28' at *
        generalize w2'.heap.size = x8 at *
        go_simp
        refine wpAnyL_two (i := 2) (k := 7) (by kernel_rfl) ?_ ?_
        · refine wpOp_do rfl rfl ?_
          go_simp
          have R1 := hide (CALL.out w28' Q.out)
          (with_reducible refine (R1.out).mono ?_)
          rintro ew30' w30' ⟨rfl, qw30'⟩
          replace B := hide (heap_below B.out qw30')
          replace N2 := hide (heap_below N2.out qw30')
          replace Q := hide (below_next Q.out Q.out.size qw30')
          clear qw30'
          clear R1
          clear CALL
          go_simp
          refine ⟨keepsL_mk (by kernel_rfl) (.cons B.out .nil), ?_⟩
          go_simp
          refine wpAnyL_pure (i := 3) (v := .tuple #[.agg x.cs.toArray, .agg zCl.cs.toArray, .int .i64 0]) rfl rfl (by kernel_rfl) (by kernel_rfl) (by kernel_rfl) (by kernel_rfl) (by kernel_rfl) (fun _ _ _ h => hQ _ _ _ _ _ h) rfl (fun W => by go_simp) ?_
          go_simp
          refine wpAnyL_pure (i := 4) (v := .agg x.cs.toArray) rfl rfl (by kernel_rfl) (by kernel_rfl) (by kernel_rfl) (by kernel_rfl) (by kernel_rfl) (fun _ _ _ h => hQ _ _ _ _ _ h) rfl (fun W => by go_simp) ?_
          go_simp
          refine wpAnyL_pure (i := 5) (v := .agg zCl.cs.toArray) rfl rfl (by kernel_rfl) (by kernel_rfl) (by kernel_rfl) (by kernel_rfl) (by kernel_rfl) (fun _ _ _ h => hQ _ _ _ _ _ h) rfl (fun W => by go_simp) ?_
          go_simp
          refine wpAnyL_pure (i := 6) (v := .int .i64 0) rfl rfl (by kernel_rfl) (by kernel_rfl) (by kernel_rfl) (by kernel_rfl) (by kernel_rfl) (fun _ _ _ h => hQ _ _ _ _ _ h) rfl (fun W => by go_simp) ?_
          go_simp
          refine wpAnyL_one (i := 7) (by kernel_rfl) ?_
          refine wpOp_do rfl rfl ?_
          go_simp
          have N1 := hide (World.alloc_heap_new w30' (.cells zFi.cs.toArray 31))
          have zBx7 : b < w30'.heap.size := heap_lt B.out
          have zN2x7 : x8 < w30'.heap.size := heap_lt N2.out
          have zQx7 : wr.heap.size ≤ w30'.heap.size := Q.out.size
          have q32' : Below w30'.heap.size w30' (w30'.alloc (.cells zFi.cs.toArray 31)) := (Below.refl _ _).alloc (Nat.le_refl _) _
          replace B := hide (heap_below B.out q32')
          replace N2 := hide (heap_below N2.out q32')
          replace Q := hide (below_next Q.out Q.out.size q32')
          clear q32'
          refine ⟨keepsL_mk (by kernel_rfl) (.cons B.out .nil), ?_⟩
          change wpAnyL _ _ _ _ _ _ _ _ _ (w30'.alloc (.cells zFi.cs.toArray 31))
          generalize w30'.alloc (.cells zFi.cs.toArray 31) = w31' at *
          generalize w30'.heap.size = x7 at *
          go_simp
          refine wpAnyL_one (i := 9) (by kernel_rfl) ?_
          refine wpOp_do rfl rfl ?_
          have Tw33' := hide (show World.there _ x7 0 7 from there_heap (cs := zFi.cs) N1.out)
          refine wp_store_as 31 (.tmp 7) (.tmp 55) rfl x7 0 x.cs (by rfl) (by rfl) (by exact Tw33'.out) (by kernel_rfl) (by simp [Value.oneCell', Fi.cs]) ?_
          intro w33' ew33'
          replace B := hide (show w33'.heap[b]? = some (.cells x.cs.toArray 31 (0, 0)) by rw [ew33']; exact other_heap (by omega) _ _ _ B.out)
          replace N2 := hide (show w33'.heap[x8]? = some (.cells zCl.cs.toArray 40 (0, 0)) by rw [ew33']; exact other_heap (by omega) _ _ _ N2.out)
          replace Q := hide (show Below wr.heap.size wr w33' by rw [ew33']; exact Q.out.trans (below_setCells _ _ _ (by have := Q.out.size; omega)))
          replace N1 := hide (show w33'.heap[x7]? = some (.cells x.cs.toArray 31 (0, 0)) by rw [ew33']; exact whole_heap x.cs (xs := zFi.cs) N1.out rfl)
          clear ew33' Tw33'
          refine ⟨keepsL_all (by kernel_rfl) (by kernel_rfl), ?_⟩
          go_simp
          refine wpAnyL_one (i := 10) (by kernel_rfl) ?_
          refine wpOp_do rfl rfl ?_
          have Tw34' := hide (show World.there _ x8 0 23 from there_heap (cs := zCl.cs) N2.out)
          refine wp_store_as 40 (.tmp 8) (.tmp 56) rfl x8 0 zCl.cs (by rfl) (by rfl) (by exact Tw34'.out) (by kernel_rfl) (by simp [Value.oneCell', Cl.cs]) ?_
          intro w34' ew34'
          replace B := hide (show w34'.heap[b]? = some (.cells x.cs.toArray 31 (0, 0)) by rw [ew34']; exact other_heap (by omega) _ _ _ B.out)
          replace N1 := hide (show w34'.heap[x7]? = some (.cells x.cs.toArray 31 (0, 0)) by rw [ew34']; exact other_heap (by omega) _ _ _ N1.out)
          replace Q := hide (show Below wr.heap.size wr w34' by rw [ew34']; exact Q.out.trans (below_setCells _ _ _ (by have := Q.out.size; omega)))
          replace N2 := hide (show w34'.heap[x8]? = some (.cells zCl.cs.toArray 40 (0, 0)) by rw [ew34']; exact whole_heap zCl.cs (xs := zCl.cs) N2.out rfl)
          clear ew34' Tw34'
          refine ⟨keepsL_all (by kernel_rfl) (by kernel_rfl), ?_⟩
          go_simp
          refine wpAnyL_one (i := 11) (by kernel_rfl) ?_
          refine wpOp_do rfl rfl ?_
          go_simp
          refine ⟨keepsL_all (by kernel_rfl) (by kernel_rfl), ?_⟩
          go_simp
          refine wpAnyL_done (by kernel_rfl) ?_ _
          go_wp2_with fail
          go_meet
          exact ⟨x7, x8, rfl, rfl, rfl, N1, N2, by omega, by omega, by omega, Q⟩
        · refine wpOp_do rfl rfl ?_
          go_simp
          have N1 := hide (World.alloc_heap_new w28' (.cells zFi.cs.toArray 31))
          have zBx7 : b < w28'.heap.size := heap_lt B.out
          have zN2x7 : x8 < w28'.heap.size := heap_lt N2.out
          have zQx7 : wr.heap.size ≤ w28'.heap.size := Q.out.size
          have q36' : Below w28'.heap.size w28' (w28'.alloc (.cells zFi.cs.toArray 31)) := (Below.refl _ _).alloc (Nat.le_refl _) _
          replace B := hide (heap_below B.out q36')
          replace N2 := hide (heap_below N2.out q36')
          replace Q := hide (below_next Q.out Q.out.size q36')
          clear q36'
          refine ⟨keepsL_mk (by kernel_rfl) (.cons B.out .nil), ?_⟩
          change wpAnyL _ _ _ _ _ _ _ _ _ (w28'.alloc (.cells zFi.cs.toArray 31))
          generalize w28'.alloc (.cells zFi.cs.toArray 31) = w35' at *
          generalize w28'.heap.size = x7 at *
          go_simp
          refine wpAnyL_one (i := 2) (by kernel_rfl) ?_
          refine wpOp_do rfl rfl ?_
          go_simp
          have R1 := hide (CALL.out w35' Q.out)
          (with_reducible refine (R1.out).mono ?_)
          rintro ew37' w37' ⟨rfl, qw37'⟩
          replace B := hide (heap_below B.out qw37')
          replace N2 := hide (heap_below N2.out qw37')
          replace N1 := hide (heap_below N1.out qw37')
          replace Q := hide (below_next Q.out Q.out.size qw37')
          clear qw37'
          clear R1
          clear CALL
          go_simp
          refine ⟨keepsL_mk (by kernel_rfl) (.cons B.out .nil), ?_⟩
          go_simp
          refine wpAnyL_pure (i := 3) (v := .tuple #[.agg x.cs.toArray, .agg zCl.cs.toArray, .int .i64 0]) rfl rfl (by kernel_rfl) (by kernel_rfl) (by kernel_rfl) (by kernel_rfl) (by kernel_rfl) (fun _ _ _ h => hQ _ _ _ _ _ h) rfl (fun W => by go_simp) ?_
          go_simp
          refine wpAnyL_pure (i := 4) (v := .agg x.cs.toArray) rfl rfl (by kernel_rfl) (by kernel_rfl) (by kernel_rfl) (by kernel_rfl) (by kernel_rfl) (fun _ _ _ h => hQ _ _ _ _ _ h) rfl (fun W => by go_simp) ?_
          go_simp
          refine wpAnyL_pure (i := 5) (v := .agg zCl.cs.toArray) rfl rfl (by kernel_rfl) (by kernel_rfl) (by kernel_rfl) (by kernel_rfl) (by kernel_rfl) (fun _ _ _ h => hQ _ _ _ _ _ h) rfl (fun W => by go_simp) ?_
          go_simp
          refine wpAnyL_pure (i := 6) (v := .int .i64 0) rfl rfl (by kernel_rfl) (by kernel_rfl) (by kernel_rfl) (by kernel_rfl) (by kernel_rfl) (fun _ _ _ h => hQ _ _ _ _ _ h) rfl (fun W => by go_simp) ?_
          go_simp
          refine wpAnyL_one (i := 9) (by kernel_rfl) ?_
          refine wpOp_do rfl rfl ?_
          have Tw38' := hide (show World.there _ x7 0 7 from there_heap (cs := zFi.cs) N1.out)
          refine wp_store_as 31 (.tmp 7) (.tmp 55) rfl x7 0 x.cs (by rfl) (by rfl) (by exact Tw38'.out) (by kernel_rfl) (by simp [Value.oneCell', Fi.cs]) ?_
          intro w38' ew38'
          replace B := hide (show w38'.heap[b]? = some (.cells x.cs.toArray 31 (0, 0)) by rw [ew38']; exact other_heap (by omega) _ _ _ B.out)
          replace N2 := hide (show w38'.heap[x8]? = some (.cells zCl.cs.toArray 40 (0, 0)) by rw [ew38']; exact other_heap (by omega) _ _ _ N2.out)
          replace Q := hide (show Below wr.heap.size wr w38' by rw [ew38']; exact Q.out.trans (below_setCells _ _ _ (by have := Q.out.size; omega)))
          replace N1 := hide (show w38'.heap[x7]? = some (.cells x.cs.toArray 31 (0, 0)) by rw [ew38']; exact whole_heap x.cs (xs := zFi.cs) N1.out rfl)
          clear ew38' Tw38'
          refine ⟨keepsL_all (by kernel_rfl) (by kernel_rfl), ?_⟩
          go_simp
          refine wpAnyL_one (i := 10) (by kernel_rfl) ?_
          refine wpOp_do rfl rfl ?_
          have Tw39' := hide (show World.there _ x8 0 23 from there_heap (cs := zCl.cs) N2.out)
          refine wp_store_as 40 (.tmp 8) (.tmp 56) rfl x8 0 zCl.cs (by rfl) (by rfl) (by exact Tw39'.out) (by kernel_rfl) (by simp [Value.oneCell', Cl.cs]) ?_
          intro w39' ew39'
          replace B := hide (show w39'.heap[b]? = some (.cells x.cs.toArray 31 (0, 0)) by rw [ew39']; exact other_heap (by omega) _ _ _ B.out)
          replace N1 := hide (show w39'.heap[x7]? = some (.cells x.cs.toArray 31 (0, 0)) by rw [ew39']; exact other_heap (by omega) _ _ _ N1.out)
          replace Q := hide (show Below wr.heap.size wr w39' by rw [ew39']; exact Q.out.trans (below_setCells _ _ _ (by have := Q.out.size; omega)))
          replace N2 := hide (show w39'.heap[x8]? = some (.cells zCl.cs.toArray 40 (0, 0)) by rw [ew39']; exact whole_heap zCl.cs (xs := zCl.cs) N2.out rfl)
          clear ew39' Tw39'
          refine ⟨keepsL_all (by kernel_rfl) (by kernel_rfl), ?_⟩
          go_simp
          refine wpAnyL_one (i := 11) (by kernel_rfl) ?_
          refine wpOp_do rfl rfl ?_
          go_simp
          refine ⟨keepsL_all (by kernel_rfl) (by kernel_rfl), ?_⟩
          go_simp
          refine wpAnyL_done (by kernel_rfl) ?_ _
          go_wp2_with fail
          go_meet
          exact ⟨x7, x8, rfl, rfl, rfl, N1, N2, by omega, by omega, by omega, Q⟩
    · refine wpOp_do rfl rfl ?_
      go_simp
      have N1 := hide (World.alloc_heap_new w1' (.cells zFi.cs.toArray 31))
      have zBx7 : b < w1'.heap.size := heap_lt B.out
      have zQx7 : wr.heap.size ≤ w1'.heap.size := Q.out.size
      have q41' : Below w1'.heap.size w1' (w1'.alloc (.cells zFi.cs.toArray 31)) := (Below.refl _ _).alloc (Nat.le_refl _) _
      replace B := hide (heap_below B.out q41')
      replace Q := hide (below_next Q.out Q.out.size q41')
      clear q41'
      refine ⟨keepsL_mk (by kernel_rfl) (.cons B.out .nil), ?_⟩
      change wpAnyL _ _ _ _ _ _ _ _ _ (w1'.alloc (.cells zFi.cs.toArray 31))
      generalize w1'.alloc (.cells zFi.cs.toArray 31) = w40' at *
      generalize w1'.heap.size = x7 at *
      go_simp
      refine wpAnyL_two (i := 1) (k := 8) (by kernel_rfl) ?_ ?_
      · refine wpOp_do rfl rfl ?_
        go_simp
        (with_reducible refine (NC.out _).mono ?_)
        rintro ew42' w42' ⟨rfl, qw42'⟩
        replace B := hide (heap_below B.out qw42')
        replace N1 := hide (heap_below N1.out qw42')
        replace Q := hide (below_next Q.out Q.out.size qw42')
        clear qw42'
        go_simp
        refine ⟨keepsL_mk (by kernel_rfl) (.cons B.out .nil), ?_⟩
        go_simp
        refine wpAnyL_two (i := 2) (k := 8) (by kernel_rfl) ?_ ?_
        · refine wpOp_do rfl rfl ?_
          go_simp
          have R1 := hide (CALL.out w42' Q.out)
          (with_reducible refine (R1.out).mono ?_)
          rintro ew43' w43' ⟨rfl, qw43'⟩
          replace B := hide (heap_below B.out qw43')
          replace N1 := hide (heap_below N1.out qw43')
          replace Q := hide (below_next Q.out Q.out.size qw43')
          clear qw43'
          clear R1
          clear CALL
          go_simp
          refine ⟨keepsL_mk (by kernel_rfl) (.cons B.out .nil), ?_⟩
          go_simp
          refine wpAnyL_pure (i := 3) (v := .tuple #[.agg x.cs.toArray, .agg zCl.cs.toArray, .int .i64 0]) rfl rfl (by kernel_rfl) (by kernel_rfl) (by kernel_rfl) (by kernel_rfl) (by kernel_rfl) (fun _ _ _ h => hQ _ _ _ _ _ h) rfl (fun W => by go_simp) ?_
          go_simp
          refine wpAnyL_pure (i := 4) (v := .agg x.cs.toArray) rfl rfl (by kernel_rfl) (by kernel_rfl) (by kernel_rfl) (by kernel_rfl) (by kernel_rfl) (fun _ _ _ h => hQ _ _ _ _ _ h) rfl (fun W => by go_simp) ?_
          go_simp
          refine wpAnyL_pure (i := 5) (v := .agg zCl.cs.toArray) rfl rfl (by kernel_rfl) (by kernel_rfl) (by kernel_rfl) (by kernel_rfl) (by kernel_rfl) (fun _ _ _ h => hQ _ _ _ _ _ h) rfl (fun W => by go_simp) ?_
          go_simp
          refine wpAnyL_pure (i := 6) (v := .int .i64 0) rfl rfl (by kernel_rfl) (by kernel_rfl) (by kernel_rfl) (by kernel_rfl) (by kernel_rfl) (fun _ _ _ h => hQ _ _ _ _ _ h) rfl (fun W => by go_simp) ?_
          go_simp
          refine wpAnyL_one (i := 8) (by kernel_rfl) ?_
          refine wpOp_do rfl rfl ?_
          go_simp
          have N2 := hide (World.alloc_heap_new w43' (.cells zCl.cs.toArray 40))
          have zBx8 : b < w43'.heap.size := heap_lt B.out
          have zN1x8 : x7 < w43'.heap.size := heap_lt N1.out
          have zQx8 : wr.heap.size ≤ w43'.heap.size := Q.out.size
          have q45' : Below w43'.heap.size w43' (w43'.alloc (.cells zCl.cs.toArray 40)) := (Below.refl _ _).alloc (Nat.le_refl _) _
          replace B := hide (heap_below B.out q45')
          replace N1 := hide (heap_below N1.out q45')
          replace Q := hide (below_next Q.out Q.out.size q45')
          clear q45'
          refine ⟨keepsL_mk (by kernel_rfl) (.cons B.out .nil), ?_⟩
          change wpAnyL _ _ _ _ _ _ _ _ _ (w43'.alloc (.cells zCl.cs.toArray 40))
          generalize w43'.alloc (.cells zCl.cs.toArray 40) = w44' at *
          generalize w43'.heap.size = x8 at *
          go_simp
          refine wpAnyL_one (i := 9) (by kernel_rfl) ?_
          refine wpOp_do rfl rfl ?_
          have Tw46' := hide (show World.there _ x7 0 7 from there_heap (cs := zFi.cs) N1.out)
          refine wp_store_as 31 (.tmp 7) (.tmp 55) rfl x7 0 x.cs (by rfl) (by rfl) (by exact Tw46'.out) (by kernel_rfl) (by simp [Value.oneCell', Fi.cs]) ?_
          intro w46' ew46'
          replace B := hide (show w46'.heap[b]? = some (.cells x.cs.toArray 31 (0, 0)) by rw [ew46']; exact other_heap (by omega) _ _ _ B.out)
          replace N2 := hide (show w46'.heap[x8]? = some (.cells zCl.cs.toArray 40 (0, 0)) by rw [ew46']; exact other_heap (by omega) _ _ _ N2.out)
          replace Q := hide (show Below wr.heap.size wr w46' by rw [ew46']; exact Q.out.trans (below_setCells _ _ _ (by have := Q.out.size; omega)))
          replace N1 := hide (show w46'.heap[x7]? = some (.cells x.cs.toArray 31 (0, 0)) by rw [ew46']; exact whole_heap x.cs (xs := zFi.cs) N1.out rfl)
          clear ew46' Tw46'
          refine ⟨keepsL_all (by kernel_rfl) (by kernel_rfl), ?_⟩
          go_simp
          refine wpAnyL_one (i := 10) (by kernel_rfl) ?_
          refine wpOp_do rfl rfl ?_
          have Tw47' := hide (show World.there _ x8 0 23 from there_heap (cs := zCl.cs) N2.out)
          refine wp_store_as 40 (.tmp 8) (.tmp 56) rfl x8 0 zCl.cs (by rfl) (by rfl) (by exact Tw47'.out) (by kernel_rfl) (by simp [Value.oneCell', Cl.cs]) ?_
          intro w47' ew47'
          replace B := hide (show w47'.heap[b]? = some (.cells x.cs.toArray 31 (0, 0)) by rw [ew47']; exact other_heap (by omega) _ _ _ B.out)
          replace N1 := hide (show w47'.heap[x7]? = some (.cells x.cs.toArray 31 (0, 0)) by rw [ew47']; exact other_heap (by omega) _ _ _ N1.out)
          replace Q := hide (show Below wr.heap.size wr w47' by rw [ew47']; exact Q.out.trans (below_setCells _ _ _ (by have := Q.out.size; omega)))
          replace N2 := hide (show w47'.heap[x8]? = some (.cells zCl.cs.toArray 40 (0, 0)) by rw [ew47']; exact whole_heap zCl.cs (xs := zCl.cs) N2.out rfl)
          clear ew47' Tw47'
          refine ⟨keepsL_all (by kernel_rfl) (by kernel_rfl), ?_⟩
          go_simp
          refine wpAnyL_one (i := 11) (by kernel_rfl) ?_
          refine wpOp_do rfl rfl ?_
          go_simp
          refine ⟨keepsL_all (by kernel_rfl) (by kernel_rfl), ?_⟩
          go_simp
          refine wpAnyL_done (by kernel_rfl) ?_ _
          go_wp2_with fail
          go_meet
          exact ⟨x7, x8, rfl, rfl, rfl, N1, N2, by omega, by omega, by omega, Q⟩
        · refine wpOp_do rfl rfl ?_
          go_simp
          have N2 := hide (World.alloc_heap_new w42' (.cells zCl.cs.toArray 40))
          have zBx8 : b < w42'.heap.size := heap_lt B.out
          have zN1x8 : x7 < w42'.heap.size := heap_lt N1.out
          have zQx8 : wr.heap.size ≤ w42'.heap.size := Q.out.size
          have q49' : Below w42'.heap.size w42' (w42'.alloc (.cells zCl.cs.toArray 40)) := (Below.refl _ _).alloc (Nat.le_refl _) _
          replace B := hide (heap_below B.out q49')
          replace N1 := hide (heap_below N1.out q49')
          replace Q := hide (below_next Q.out Q.out.size q49')
          clear q49'
          refine ⟨keepsL_mk (by kernel_rfl) (.cons B.out .nil), ?_⟩
          change wpAnyL _ _ _ _ _ _ _ _ _ (w42'.alloc (.cells zCl.cs.toArray 40))
          generalize w42'.alloc (.cells zCl.cs.toArray 40) = w48' at *
          generalize w42'.heap.size = x8 at *
          go_simp
          refine wpAnyL_one (i := 2) (by kernel_rfl) ?_
          refine wpOp_do rfl rfl ?_
          go_simp
          have R1 := hide (CALL.out w48' Q.out)
          (with_reducible refine (R1.out).mono ?_)
          rintro ew50' w50' ⟨rfl, qw50'⟩
          replace B := hide (heap_below B.out qw50')
          replace N1 := hide (heap_below N1.out qw50')
          replace N2 := hide (heap_below N2.out qw50')
          replace Q := hide (below_next Q.out Q.out.size qw50')
          clear qw50'
          clear R1
          clear CALL
          go_simp
          refine ⟨keepsL_mk (by kernel_rfl) (.cons B.out .nil), ?_⟩
          go_simp
          refine wpAnyL_pure (i := 3) (v := .tuple #[.agg x.cs.toArray, .agg zCl.cs.toArray, .int .i64 0]) rfl rfl (by kernel_rfl) (by kernel_rfl) (by kernel_rfl) (by kernel_rfl) (by kernel_rfl) (fun _ _ _ h => hQ _ _ _ _ _ h) rfl (fun W => by go_simp) ?_
          go_simp
          refine wpAnyL_pure (i := 4) (v := .agg x.cs.toArray) rfl rfl (by kernel_rfl) (by kernel_rfl) (by kernel_rfl) (by kernel_rfl) (by kernel_rfl) (fun _ _ _ h => hQ _ _ _ _ _ h) rfl (fun W => by go_simp) ?_
          go_simp
          refine wpAnyL_pure (i := 5) (v := .agg zCl.cs.toArray) rfl rfl (by kernel_rfl) (by kernel_rfl) (by kernel_rfl) (by kernel_rfl) (by kernel_rfl) (fun _ _ _ h => hQ _ _ _ _ _ h) rfl (fun W => by go_simp) ?_
          go_simp
          refine wpAnyL_pure (i := 6) (v := .int .i64 0) rfl rfl (by kernel_rfl) (by kernel_rfl) (by kernel_rfl) (by kernel_rfl) (by kernel_rfl) (fun _ _ _ h => hQ _ _ _ _ _ h) rfl (fun W => by go_simp) ?_
          go_simp
          refine wpAnyL_one (i := 9) (by kernel_rfl) ?_
          refine wpOp_do rfl rfl ?_
          have Tw51' := hide (show World.there _ x7 0 7 from there_heap (cs := zFi.cs) N1.out)
          refine wp_store_as 31 (.tmp 7) (.tmp 55) rfl x7 0 x.cs (by rfl) (by rfl) (by exact Tw51'.out) (by kernel_rfl) (by simp [Value.oneCell', Fi.cs]) ?_
          intro w51' ew51'
          replace B := hide (show w51'.heap[b]? = some (.cells x.cs.toArray 31 (0, 0)) by rw [ew51']; exact other_heap (by omega) _ _ _ B.out)
          replace N2 := hide (show w51'.heap[x8]? = some (.cells zCl.cs.toArray 40 (0, 0)) by rw [ew51']; exact other_heap (by omega) _ _ _ N2.out)
          replace Q := hide (show Below wr.heap.size wr w51' by rw [ew51']; exact Q.out.trans (below_setCells _ _ _ (by have := Q.out.size; omega)))
          replace N1 := hide (show w51'.heap[x7]? = some (.cells x.cs.toArray 31 (0, 0)) by rw [ew51']; exact whole_heap x.cs (xs := zFi.cs) N1.out rfl)
          clear ew51' Tw51'
          refine ⟨keepsL_all (by kernel_rfl) (by kernel_rfl), ?_⟩
          go_simp
          refine wpAnyL_one (i := 10) (by kernel_rfl) ?_
          refine wpOp_do rfl rfl ?_
          have Tw52' := hide (show World.there _ x8 0 23 from there_heap (cs := zCl.cs) N2.out)
          refine wp_store_as 40 (.tmp 8) (.tmp 56) rfl x8 0 zCl.cs (by rfl) (by rfl) (by exact Tw52'.out) (by kernel_rfl) (by simp [Value.oneCell', Cl.cs]) ?_
          intro w52' ew52'
          replace B := hide (show w52'.heap[b]? = some (.cells x.cs.toArray 31 (0, 0)) by rw [ew52']; exact other_heap (by omega) _ _ _ B.out)
          replace N1 := hide (show w52'.heap[x7]? = some (.cells x.cs.toArray 31 (0, 0)) by rw [ew52']; exact other_heap (by omega) _ _ _ N1.out)
          replace Q := hide (show Below wr.heap.size wr w52' by rw [ew52']; exact Q.out.trans (below_setCells _ _ _ (by have := Q.out.size; omega)))
          replace N2 := hide (show w52'.heap[x8]? = some (.cells zCl.cs.toArray 40 (0, 0)) by rw [ew52']; exact whole_heap zCl.cs (xs := zCl.cs) N2.out rfl)
          clear ew52' Tw52'
          refine ⟨keepsL_all (by kernel_rfl) (by kernel_rfl), ?_⟩
          go_simp
          refine wpAnyL_one (i := 11) (by kernel_rfl) ?_
          refine wpOp_do rfl rfl ?_
          go_simp
          refine ⟨keepsL_all (by kernel_rfl) (by kernel_rfl), ?_⟩
          go_simp
          refine wpAnyL_done (by kernel_rfl) ?_ _
          go_wp2_with fail
          go_meet
          exact ⟨x7, x8, rfl, rfl, rfl, N1, N2, by omega, by omega, by omega, Q⟩
      · refine wpOp_do rfl rfl ?_
        go_simp
        have N2 := hide (World.alloc_heap_new w40' (.cells zCl.cs.toArray 40))
        have zBx8 : b < w40'.heap.size := heap_lt B.out
        have zN1x8 : x7 < w40'.heap.size := heap_lt N1.out
        have zQx8 : wr.heap.size ≤ w40'.heap.size := Q.out.size
        have q54' : Below w40'.heap.size w40' (w40'.alloc (.cells zCl.cs.toArray 40)) := (Below.refl _ _).alloc (Nat.le_refl _) _
        replace B := hide (heap_below B.out q54')
        replace N1 := hide (heap_below N1.out q54')
        replace Q := hide (below_next Q.out Q.out.size q54')
        clear q54'
        refine ⟨keepsL_mk (by kernel_rfl) (.cons B.out .nil), ?_⟩
        change wpAnyL _ _ _ _ _ _ _ _ _ (w40'.alloc (.cells zCl.cs.toArray 40))
        generalize w40'.alloc (.cells zCl.cs.toArray 40) = w53' at *
        generalize w40'.heap.size = x8 at *
        go_simp
        refine wpAnyL_one (i := 1) (by kernel_rfl) ?_
        refine wpOp_do rfl rfl ?_
        go_simp
        (with_reducible refine (NC.out _).mono ?_)
        rintro ew55' w55' ⟨rfl, qw55'⟩
        replace B := hide (heap_below B.out qw55')
        replace N1 := hide (heap_below N1.out qw55')
        replace N2 := hide (heap_below N2.out qw55')
        replace Q := hide (below_next Q.out Q.out.size qw55')
        clear qw55'
        go_simp
        refine ⟨keepsL_mk (by kernel_rfl) (.cons B.out .nil), ?_⟩
        go_simp
        refine wpAnyL_one (i := 2) (by kernel_rfl) ?_
        refine wpOp_do rfl rfl ?_
        go_simp
        have R1 := hide (CALL.out w55' Q.out)
        (with_reducible refine (R1.out).mono ?_)
        rintro ew56' w56' ⟨rfl, qw56'⟩
        replace B := hide (heap_below B.out qw56')
        replace N1 := hide (heap_below N1.out qw56')
        replace N2 := hide (heap_below N2.out qw56')
        replace Q := hide (below_next Q.out Q.out.size qw56')
        clear qw56'
        clear R1
        clear CALL
        go_simp
        refine ⟨keepsL_mk (by kernel_rfl) (.cons B.out .nil), ?_⟩
        go_simp
        refine wpAnyL_pure (i := 3) (v := .tuple #[.agg x.cs.toArray, .agg zCl.cs.toArray, .int .i64 0]) rfl rfl (by kernel_rfl) (by kernel_rfl) (by kernel_rfl) (by kernel_rfl) (by kernel_rfl) (fun _ _ _ h => hQ _ _ _ _ _ h) rfl (fun W => by go_simp) ?_
        go_simp
        refine wpAnyL_pure (i := 4) (v := .agg x.cs.toArray) rfl rfl (by kernel_rfl) (by kernel_rfl) (by kernel_rfl) (by kernel_rfl) (by kernel_rfl) (fun _ _ _ h => hQ _ _ _ _ _ h) rfl (fun W => by go_simp) ?_
        go_simp
        refine wpAnyL_pure (i := 5) (v := .agg zCl.cs.toArray) rfl rfl (by kernel_rfl) (by kernel_rfl) (by kernel_rfl) (by kernel_rfl) (by kernel_rfl) (fun _ _ _ h => hQ _ _ _ _ _ h) rfl (fun W => by go_simp) ?_
        go_simp
        refine wpAnyL_pure (i := 6) (v := .int .i64 0) rfl rfl (by kernel_rfl) (by kernel_rfl) (by kernel_rfl) (by kernel_rfl) (by kernel_rfl) (fun _ _ _ h => hQ _ _ _ _ _ h) rfl (fun W => by go_simp) ?_
        go_simp
        refine wpAnyL_one (i := 9) (by kernel_rfl) ?_
        refine wpOp_do rfl rfl ?_
        have Tw57' := hide (show World.there _ x7 0 7 from there_heap (cs := zFi.cs) N1.out)
        refine wp_store_as 31 (.tmp 7) (.tmp 55) rfl x7 0 x.cs (by rfl) (by rfl) (by exact Tw57'.out) (by kernel_rfl) (by simp [Value.oneCell', Fi.cs]) ?_
        intro w57' ew57'
        replace B := hide (show w57'.heap[b]? = some (.cells x.cs.toArray 31 (0, 0)) by rw [ew57']; exact other_heap (by omega) _ _ _ B.out)
        replace N2 := hide (show w57'.heap[x8]? = some (.cells zCl.cs.toArray 40 (0, 0)) by rw [ew57']; exact other_heap (by omega) _ _ _ N2.out)
        replace Q := hide (show Below wr.heap.size wr w57' by rw [ew57']; exact Q.out.trans (below_setCells _ _ _ (by have := Q.out.size; omega)))
        replace N1 := hide (show w57'.heap[x7]? = some (.cells x.cs.toArray 31 (0, 0)) by rw [ew57']; exact whole_heap x.cs (xs := zFi.cs) N1.out rfl)
        clear ew57' Tw57'
        refine ⟨keepsL_all (by kernel_rfl) (by kernel_rfl), ?_⟩
        go_simp
        refine wpAnyL_one (i := 10) (by kernel_rfl) ?_
        refine wpOp_do rfl rfl ?_
        have Tw58' := hide (show World.there _ x8 0 23 from there_heap (cs := zCl.cs) N2.out)
        refine wp_store_as 40 (.tmp 8) (.tmp 56) rfl x8 0 zCl.cs (by rfl) (by rfl) (by exact Tw58'.out) (by kernel_rfl) (by simp [Value.oneCell', Cl.cs]) ?_
        intro w58' ew58'
        replace B := hide (show w58'.heap[b]? = some (.cells x.cs.toArray 31 (0, 0)) by rw [ew58']; exact other_heap (by omega) _ _ _ B.out)
        replace N1 := hide (show w58'.heap[x7]? = some (.cells x.cs.toArray 31 (0, 0)) by rw [ew58']; exact other_heap (by omega) _ _ _ N1.out)
        replace Q := hide (show Below wr.heap.size wr w58' by rw [ew58']; exact Q.out.trans (below_setCells _ _ _ (by have := Q.out.size; omega)))
        replace N2 := hide (show w58'.heap[x8]? = some (.cells zCl.cs.toArray 40 (0, 0)) by rw [ew58']; exact whole_heap zCl.cs (xs := zCl.cs) N2.out rfl)
        clear ew58' Tw58'
        refine ⟨keepsL_all (by kernel_rfl) (by kernel_rfl), ?_⟩
        go_simp
        refine wpAnyL_one (i := 11) (by kernel_rfl) ?_
        refine wpOp_do rfl rfl ?_
        go_simp
        refine ⟨keepsL_all (by kernel_rfl) (by kernel_rfl), ?_⟩
        go_simp
        refine wpAnyL_done (by kernel_rfl) ?_ _
        go_wp2_with fail
        go_meet
        exact ⟨x7, x8, rfl, rfl, rfl, N1, N2, by omega, by omega, by omega, Q⟩
    · refine wpOp_do rfl rfl ?_
      go_simp
      have N2 := hide (World.alloc_heap_new w1' (.cells zCl.cs.toArray 40))
      have zBx8 : b < w1'.heap.size := heap_lt B.out
      have zQx8 : wr.heap.size ≤ w1'.heap.size := Q.out.size
      have q60' : Below w1'.heap.size w1' (w1'.alloc (.cells zCl.cs.toArray 40)) := (Below.refl _ _).alloc (Nat.le_refl _) _
      replace B := hide (heap_below B.out q60')
      replace Q := hide (below_next Q.out Q.out.size q60')
      clear q60'
      refine ⟨keepsL_mk (by kernel_rfl) (.cons B.out .nil), ?_⟩
      change wpAnyL _ _ _ _ _ _ _ _ _ (w1'.alloc (.cells zCl.cs.toArray 40))
      generalize w1'.alloc (.cells zCl.cs.toArray 40) = w59' at *
      generalize w1'.heap.size = x8 at *
      go_simp
      refine wpAnyL_two (i := 1) (k := 7) (by kernel_rfl) ?_ ?_
      · refine wpOp_do rfl rfl ?_
        go_simp
        (with_reducible refine (NC.out _).mono ?_)
        rintro ew61' w61' ⟨rfl, qw61'⟩
        replace B := hide (heap_below B.out qw61')
        replace N2 := hide (heap_below N2.out qw61')
        replace Q := hide (below_next Q.out Q.out.size qw61')
        clear qw61'
        go_simp
        refine ⟨keepsL_mk (by kernel_rfl) (.cons B.out .nil), ?_⟩
        go_simp
        refine wpAnyL_two (i := 2) (k := 7) (by kernel_rfl) ?_ ?_
        · refine wpOp_do rfl rfl ?_
          go_simp
          have R1 := hide (CALL.out w61' Q.out)
          (with_reducible refine (R1.out).mono ?_)
          rintro ew62' w62' ⟨rfl, qw62'⟩
          replace B := hide (heap_below B.out qw62')
          replace N2 := hide (heap_below N2.out qw62')
          replace Q := hide (below_next Q.out Q.out.size qw62')
          clear qw62'
          clear R1
          clear CALL
          go_simp
          refine ⟨keepsL_mk (by kernel_rfl) (.cons B.out .nil), ?_⟩
          go_simp
          refine wpAnyL_pure (i := 3) (v := .tuple #[.agg x.cs.toArray, .agg zCl.cs.toArray, .int .i64 0]) rfl rfl (by kernel_rfl) (by kernel_rfl) (by kernel_rfl) (by kernel_rfl) (by kernel_rfl) (fun _ _ _ h => hQ _ _ _ _ _ h) rfl (fun W => by go_simp) ?_
          go_simp
          refine wpAnyL_pure (i := 4) (v := .agg x.cs.toArray) rfl rfl (by kernel_rfl) (by kernel_rfl) (by kernel_rfl) (by kernel_rfl) (by kernel_rfl) (fun _ _ _ h => hQ _ _ _ _ _ h) rfl (fun W => by go_simp) ?_
          go_simp
          refine wpAnyL_pure (i := 5) (v := .agg zCl.cs.toArray) rfl rfl (by kernel_rfl) (by kernel_rfl) (by kernel_rfl) (by kernel_rfl) (by kernel_rfl) (fun _ _ _ h => hQ _ _ _ _ _ h) rfl (fun W => by go_simp) ?_
          go_simp
          refine wpAnyL_pure (i := 6) (v := .int .i64 0) rfl rfl (by kernel_rfl) (by kernel_rfl) (by kernel_rfl) (by kernel_rfl) (by kernel_rfl) (fun _ _ _ h => hQ _ _ _ _ _ h) rfl (fun W => by go_simp) ?_
          go_simp
          refine wpAnyL_one (i := 7) (by kernel_rfl) ?_
          refine wpOp_do rfl rfl ?_
          go_simp
          have N1 := hide (World.alloc_heap_new w62' (.cells zFi.cs.toArray 31))
          have zBx7 : b < w62'.heap.size := heap_lt B.out
          have zN2x7 : x8 < w62'.heap.size := heap_lt N2.out
          have zQx7 : wr.heap.size ≤ w62'.heap.size := Q.out.size
          have q64' : Below w62'.heap.size w62' (w62'.alloc (.cells zFi.cs.toArray 31)) := (Below.refl _ _).alloc (Nat.le_refl _) _
          replace B := hide (heap_below B.out q64')
          replace N2 := hide (heap_below N2.out q64')
          replace Q := hide (below_next Q.out Q.out.size q64')
          clear q64'
          refine ⟨keepsL_mk (by kernel_rfl) (.cons B.out .nil), ?_⟩
          change wpAnyL _ _ _ _ _ _ _ _ _ (w62'.alloc (.cells zFi.cs.toArray 31))
          generalize w62'.alloc (.cells zFi.cs.toArray 31) = w63' at *
          generalize w62'.heap.size = x7 at *
          go_simp
          refine wpAnyL_one (i := 9) (by kernel_rfl) ?_
          refine wpOp_do rfl rfl ?_
          have Tw65' := hide (show World.there _ x7 0 7 from there_heap (cs := zFi.cs) N1.out)
          refine wp_store_as 31 (.tmp 7) (.tmp 55) rfl x7 0 x.cs (by rfl) (by rfl) (by exact Tw65'.out) (by kernel_rfl) (by simp [Value.oneCell', Fi.cs]) ?_
          intro w65' ew65'
          replace B := hide (show w65'.heap[b]? = some (.cells x.cs.toArray 31 (0, 0)) by rw [ew65']; exact other_heap (by omega) _ _ _ B.out)
          replace N2 := hide (show w65'.heap[x8]? = some (.cells zCl.cs.toArray 40 (0, 0)) by rw [ew65']; exact other_heap (by omega) _ _ _ N2.out)
          replace Q := hide (show Below wr.heap.size wr w65' by rw [ew65']; exact Q.out.trans (below_setCells _ _ _ (by have := Q.out.size; omega)))
          replace N1 := hide (show w65'.heap[x7]? = some (.cells x.cs.toArray 31 (0, 0)) by rw [ew65']; exact whole_heap x.cs (xs := zFi.cs) N1.out rfl)
          clear ew65' Tw65'
          refine ⟨keepsL_all (by kernel_rfl) (by kernel_rfl), ?_⟩
          go_simp
          refine wpAnyL_one (i := 10) (by kernel_rfl) ?_
          refine wpOp_do rfl rfl ?_
          have Tw66' := hide (show World.there _ x8 0 23 from there_heap (cs := zCl.cs) N2.out)
          refine wp_store_as 40 (.tmp 8) (.tmp 56) rfl x8 0 zCl.cs (by rfl) (by rfl) (by exact Tw66'.out) (by kernel_rfl) (by simp [Value.oneCell', Cl.cs]) ?_
          intro w66' ew66'
          replace B := hide (show w66'.heap[b]? = some (.cells x.cs.toArray 31 (0, 0)) by rw [ew66']; exact other_heap (by omega) _ _ _ B.out)
          replace N1 := hide (show w66'.heap[x7]? = some (.cells x.cs.toArray 31 (0, 0)) by rw [ew66']; exact other_heap (by omega) _ _ _ N1.out)
          replace Q := hide (show Below wr.heap.size wr w66' by rw [ew66']; exact Q.out.trans (below_setCells _ _ _ (by have := Q.out.size; omega)))
          replace N2 := hide (show w66'.heap[x8]? = some (.cells zCl.cs.toArray 40 (0, 0)) by rw [ew66']; exact whole_heap zCl.cs (xs := zCl.cs) N2.out rfl)
          clear ew66' Tw66'
          refine ⟨keepsL_all (by kernel_rfl) (by kernel_rfl), ?_⟩
          go_simp
          refine wpAnyL_one (i := 11) (by kernel_rfl) ?_
          refine wpOp_do rfl rfl ?_
          go_simp
          refine ⟨keepsL_all (by kernel_rfl) (by kernel_rfl), ?_⟩
          go_simp
          refine wpAnyL_done (by kernel_rfl) ?_ _
          go_wp2_with fail
          go_meet
          exact ⟨x7, x8, rfl, rfl, rfl, N1, N2, by omega, by omega, by omega, Q⟩
        · refine wpOp_do rfl rfl ?_
          go_simp
          have N1 := hide (World.alloc_heap_new w61' (.cells zFi.cs.toArray 31))
          have zBx7 : b < w61'.heap.size := heap_lt B.out
          have zN2x7 : x8 < w61'.heap.size := heap_lt N2.out
          have zQx7 : wr.heap.size ≤ w61'.heap.size := Q.out.size
          have q68' : Below w61'.heap.size w61' (w61'.alloc (.cells zFi.cs.toArray 31)) := (Below.refl _ _).alloc (Nat.le_refl _) _
          replace B := hide (heap_below B.out q68')
          replace N2 := hide (heap_below N2.out q68')
          replace Q := hide (below_next Q.out Q.out.size q68')
          clear q68'
          refine ⟨keepsL_mk (by kernel_rfl) (.cons B.out .nil), ?_⟩
          change wpAnyL _ _ _ _ _ _ _ _ _ (w61'.alloc (.cells zFi.cs.toArray 31))
          generalize w61'.alloc (.cells zFi.cs.toArray 31) = w67' at *
          generalize w61'.heap.size = x7 at *
          go_simp
          refine wpAnyL_one (i := 2) (by kernel_rfl) ?_
          refine wpOp_do rfl rfl ?_
          go_simp
          have R1 := hide (CALL.out w67' Q.out)
          (with_reducible refine (R1.out).mono ?_)
          rintro ew69' w69' ⟨rfl, qw69'⟩
          replace B := hide (heap_below B.out qw69')
          replace N2 := hide (heap_below N2.out qw69')
          replace N1 := hide (heap_below N1.out qw69')
          replace Q := hide (below_next Q.out Q.out.size qw69')
          clear qw69'
          clear R1
          clear CALL
          go_simp
          refine ⟨keepsL_mk (by kernel_rfl) (.cons B.out .nil), ?_⟩
          go_simp
          refine wpAnyL_pure (i := 3) (v := .tuple #[.agg x.cs.toArray, .agg zCl.cs.toArray, .int .i64 0]) rfl rfl (by kernel_rfl) (by kernel_rfl) (by kernel_rfl) (by kernel_rfl) (by kernel_rfl) (fun _ _ _ h => hQ _ _ _ _ _ h) rfl (fun W => by go_simp) ?_
          go_simp
          refine wpAnyL_pure (i := 4) (v := .agg x.cs.toArray) rfl rfl (by kernel_rfl) (by kernel_rfl) (by kernel_rfl) (by kernel_rfl) (by kernel_rfl) (fun _ _ _ h => hQ _ _ _ _ _ h) rfl (fun W => by go_simp) ?_
          go_simp
          refine wpAnyL_pure (i := 5) (v := .agg zCl.cs.toArray) rfl rfl (by kernel_rfl) (by kernel_rfl) (by kernel_rfl) (by kernel_rfl) (by kernel_rfl) (fun _ _ _ h => hQ _ _ _ _ _ h) rfl (fun W => by go_simp) ?_
          go_simp
          refine wpAnyL_pure (i := 6) (v := .int .i64 0) rfl rfl (by kernel_rfl) (by kernel_rfl) (by kernel_rfl) (by kernel_rfl) (by kernel_rfl) (fun _ _ _ h => hQ _ _ _ _ _ h) rfl (fun W => by go_simp) ?_
          go_simp
          refine wpAnyL_one (i := 9) (by kernel_rfl) ?_
          refine wpOp_do rfl rfl ?_
          have Tw70' := hide (show World.there _ x7 0 7 from there_heap (cs := zFi.cs) N1.out)
          refine wp_store_as 31 (.tmp 7) (.tmp 55) rfl x7 0 x.cs (by rfl) (by rfl) (by exact Tw70'.out) (by kernel_rfl) (by simp [Value.oneCell', Fi.cs]) ?_
          intro w70' ew70'
          replace B := hide (show w70'.heap[b]? = some (.cells x.cs.toArray 31 (0, 0)) by rw [ew70']; exact other_heap (by omega) _ _ _ B.out)
          replace N2 := hide (show w70'.heap[x8]? = some (.cells zCl.cs.toArray 40 (0, 0)) by rw [ew70']; exact other_heap (by omega) _ _ _ N2.out)
          replace Q := hide (show Below wr.heap.size wr w70' by rw [ew70']; exact Q.out.trans (below_setCells _ _ _ (by have := Q.out.size; omega)))
          replace N1 := hide (show w70'.heap[x7]? = some (.cells x.cs.toArray 31 (0, 0)) by rw [ew70']; exact whole_heap x.cs (xs := zFi.cs) N1.out rfl)
          clear ew70' Tw70'
          refine ⟨keepsL_all (by kernel_rfl) (by kernel_rfl), ?_⟩
          go_simp
          refine wpAnyL_one (i := 10) (by kernel_rfl) ?_
          refine wpOp_do rfl rfl ?_
          have Tw71' := hide (show World.there _ x8 0 23 from there_heap (cs := zCl.cs) N2.out)
          refine wp_store_as 40 (.tmp 8) (.tmp 56) rfl x8 0 zCl.cs (by rfl) (by rfl) (by exact Tw71'.out) (by kernel_rfl) (by simp [Value.oneCell', Cl.cs]) ?_
          intro w71' ew71'
          replace B := hide (show w71'.heap[b]? = some (.cells x.cs.toArray 31 (0, 0)) by rw [ew71']; exact other_heap (by omega) _ _ _ B.out)
          replace N1 := hide (show w71'.heap[x7]? = some (.cells x.cs.toArray 31 (0, 0)) by rw [ew71']; exact other_heap (by omega) _ _ _ N1.out)
          replace Q := hide (show Below wr.heap.size wr w71' by rw [ew71']; exact Q.out.trans (below_setCells _ _ _ (by have := Q.out.size; omega)))
          replace N2 := hide (show w71'.heap[x8]? = some (.cells zCl.cs.toArray 40 (0, 0)) by rw [ew71']; exact whole_heap zCl.cs (xs := zCl.cs) N2.out rfl)
          clear ew71' Tw71'
          refine ⟨keepsL_all (by kernel_rfl) (by kernel_rfl), ?_⟩
          go_simp
          refine wpAnyL_one (i := 11) (by kernel_rfl) ?_
          refine wpOp_do rfl rfl ?_
          go_simp
          refine ⟨keepsL_all (by kernel_rfl) (by kernel_rfl), ?_⟩
          go_simp
          refine wpAnyL_done (by kernel_rfl) ?_ _
          go_wp2_with fail
          go_meet
          exact ⟨x7, x8, rfl, rfl, rfl, N1, N2, by omega, by omega, by omega, Q⟩
      · refine wpOp_do rfl rfl ?_
        go_simp
        have N1 := hide (World.alloc_heap_new w59' (.cells zFi.cs.toArray 31))
        have zBx7 : b < w59'.heap.size := heap_lt B.out
        have zN2x7 : x8 < w59'.heap.size := heap_lt N2.out
        have zQx7 : wr.heap.size ≤ w59'.heap.size := Q.out.size
        have q73' : Below w59'.heap.size w59' (w59'.alloc (.cells zFi.cs.toArray 31)) := (Below.refl _ _).alloc (Nat.le_refl _) _
        replace B := hide (heap_below B.out q73')
        replace N2 := hide (heap_below N2.out q73')
        replace Q := hide (below_next Q.out Q.out.size q73')
        clear q73'
        refine ⟨keepsL_mk (by kernel_rfl) (.cons B.out .nil), ?_⟩
        change wpAnyL _ _ _ _ _ _ _ _ _ (w59'.alloc (.cells zFi.cs.toArray 31))
        generalize w59'.alloc (.cells zFi.cs.toArray 31) = w72' at *
        generalize w59'.heap.size = x7 at *
        go_simp
        refine wpAnyL_one (i := 1) (by kernel_rfl) ?_
        refine wpOp_do rfl rfl ?_
        go_simp
        (with_reducible refine (NC.out _).mono ?_)
        rintro ew74' w74' ⟨rfl, qw74'⟩
        replace B := hide (heap_below B.out qw74')
        replace N2 := hide (heap_below N2.out qw74')
        replace N1 := hide (heap_below N1.out qw74')
        replace Q := hide (below_next Q.out Q.out.size qw74')
        clear qw74'
        go_simp
        refine ⟨keepsL_mk (by kernel_rfl) (.cons B.out .nil), ?_⟩
        go_simp
        refine wpAnyL_one (i := 2) (by kernel_rfl) ?_
        refine wpOp_do rfl rfl ?_
        go_simp
        have R1 := hide (CALL.out w74' Q.out)
        (with_reducible refine (R1.out).mono ?_)
        rintro ew75' w75' ⟨rfl, qw75'⟩
        replace B := hide (heap_below B.out qw75')
        replace N2 := hide (heap_below N2.out qw75')
        replace N1 := hide (heap_below N1.out qw75')
        replace Q := hide (below_next Q.out Q.out.size qw75')
        clear qw75'
        clear R1
        clear CALL
        go_simp
        refine ⟨keepsL_mk (by kernel_rfl) (.cons B.out .nil), ?_⟩
        go_simp
        refine wpAnyL_pure (i := 3) (v := .tuple #[.agg x.cs.toArray, .agg zCl.cs.toArray, .int .i64 0]) rfl rfl (by kernel_rfl) (by kernel_rfl) (by kernel_rfl) (by kernel_rfl) (by kernel_rfl) (fun _ _ _ h => hQ _ _ _ _ _ h) rfl (fun W => by go_simp) ?_
        go_simp
        refine wpAnyL_pure (i := 4) (v := .agg x.cs.toArray) rfl rfl (by kernel_rfl) (by kernel_rfl) (by kernel_rfl) (by kernel_rfl) (by kernel_rfl) (fun _ _ _ h => hQ _ _ _ _ _ h) rfl (fun W => by go_simp) ?_
        go_simp
        refine wpAnyL_pure (i := 5) (v := .agg zCl.cs.toArray) rfl rfl (by kernel_rfl) (by kernel_rfl) (by kernel_rfl) (by kernel_rfl) (by kernel_rfl) (fun _ _ _ h => hQ _ _ _ _ _ h) rfl (fun W => by go_simp) ?_
        go_simp
        refine wpAnyL_pure (i := 6) (v := .int .i64 0) rfl rfl (by kernel_rfl) (by kernel_rfl) (by kernel_rfl) (by kernel_rfl) (by kernel_rfl) (fun _ _ _ h => hQ _ _ _ _ _ h) rfl (fun W => by go_simp) ?_
        go_simp
        refine wpAnyL_one (i := 9) (by kernel_rfl) ?_
        refine wpOp_do rfl rfl ?_
        have Tw76' := hide (show World.there _ x7 0 7 from there_heap (cs := zFi.cs) N1.out)
        refine wp_store_as 31 (.tmp 7) (.tmp 55) rfl x7 0 x.cs (by rfl) (by rfl) (by exact Tw76'.out) (by kernel_rfl) (by simp [Value.oneCell', Fi.cs]) ?_
        intro w76' ew76'
        replace B := hide (show w76'.heap[b]? = some (.cells x.cs.toArray 31 (0, 0)) by rw [ew76']; exact other_heap (by omega) _ _ _ B.out)
        replace N2 := hide (show w76'.heap[x8]? = some (.cells zCl.cs.toArray 40 (0, 0)) by rw [ew76']; exact other_heap (by omega) _ _ _ N2.out)
        replace Q := hide (show Below wr.heap.size wr w76' by rw [ew76']; exact Q.out.trans (below_setCells _ _ _ (by have := Q.out.size; omega)))
        replace N1 := hide (show w76'.heap[x7]? = some (.cells x.cs.toArray 31 (0, 0)) by rw [ew76']; exact whole_heap x.cs (xs := zFi.cs) N1.out rfl)
        clear ew76' Tw76'
        refine ⟨keepsL_all (by kernel_rfl) (by kernel_rfl), ?_⟩
        go_simp
        refine wpAnyL_one (i := 10) (by kernel_rfl) ?_
        refine wpOp_do rfl rfl ?_
        have Tw77' := hide (show World.there _ x8 0 23 from there_heap (cs := zCl.cs) N2.out)
        refine wp_store_as 40 (.tmp 8) (.tmp 56) rfl x8 0 zCl.cs (by rfl) (by rfl) (by exact Tw77'.out) (by kernel_rfl) (by simp [Value.oneCell', Cl.cs]) ?_
        intro w77' ew77'
        replace B := hide (show w77'.heap[b]? = some (.cells x.cs.toArray 31 (0, 0)) by rw [ew77']; exact other_heap (by omega) _ _ _ B.out)
        replace N1 := hide (show w77'.heap[x7]? = some (.cells x.cs.toArray 31 (0, 0)) by rw [ew77']; exact other_heap (by omega) _ _ _ N1.out)
        replace Q := hide (show Below wr.heap.size wr w77' by rw [ew77']; exact Q.out.trans (below_setCells _ _ _ (by have := Q.out.size; omega)))
        replace N2 := hide (show w77'.heap[x8]? = some (.cells zCl.cs.toArray 40 (0, 0)) by rw [ew77']; exact whole_heap zCl.cs (xs := zCl.cs) N2.out rfl)
        clear ew77' Tw77'
        refine ⟨keepsL_all (by kernel_rfl) (by kernel_rfl), ?_⟩
        go_simp
        refine wpAnyL_one (i := 11) (by kernel_rfl) ?_
        refine wpOp_do rfl rfl ?_
        go_simp
        refine ⟨keepsL_all (by kernel_rfl) (by kernel_rfl), ?_⟩
        go_simp
        refine wpAnyL_done (by kernel_rfl) ?_ _
        go_wp2_with fail
        go_meet
        exact ⟨x7, x8, rfl, rfl, rfl, N1, N2, by omega, by omega, by omega, Q⟩

set_option maxRecDepth 100000 in
set_option maxHeartbeats 32000000 in
theorem canifOne_r9 (wr : World) (b : Nat) (x : Fi) (P : Fi → Cl → Prop) {sl0 sl1 sl2 sl3 sl4 sl6 sl7 sl8 sl9 sl10 sl11 sl12 sl13 sl14 sl15 sl16 sl17 sl18 sl19 sl20 sl21 sl22 sl23 sl24 sl25 sl26 sl27 sl28 sl29 sl30 sl31 sl32 sl33 sl34 sl35 sl36 sl37 sl38 sl39 sl40 sl41 sl42 sl43 sl44 sl45 sl46 sl47 sl48 sl49 sl50 sl51 sl52 sl53 sl54 sl55 sl56 sl57 sl58 sl59 sl60 sl61 sl62 sl63 sl64 sl65 sl66 sl67 sl68 sl69 sl70 sl71 sl72 sl73 sl74 sl75 sl76 sl77 sl78 sl79 sl80 sl81 sl82 sl83 sl84 sl85 sl86 sl87 sl88 sl89 sl90 sl91 sl92 sl93 sl94 sl95 sl96 sl97 sl98 sl99 sl100 sl101 sl102 sl103 sl104 sl105 sl106 sl107 sl108 sl109 sl110 sl111 sl112 sl113 sl114 sl115 sl116 sl117 sl118 sl119 sl120 sl121 sl122 sl123 sl124 sl125 sl126 sl127 sl128 sl129 sl130 sl131 sl132 sl133 sl134 sl135 sl136 sl137 sl138 sl139 sl140 sl141 sl142 sl143 sl144 sl145 sl146 sl147 sl148 sl149 sl150 sl151 sl152 sl153 sl154 sl155 sl156 sl157 sl158 sl159 sl160 sl161 sl162 sl163 sl164 sl165 sl166 sl167 sl168 sl169 : Value} {K' : Act → World → Prop} {Q' : Exit → Act → World → Prop} {Cd : Code} (hC : Cd = partC Tryd.f3.body (isRegion 9))
    (CALL : Hid (∀ W, Below wr.heap.size wr W → Calls Tryd.prog 8 #[.agg x.cs.toArray, .agg zCl.cs.toArray] W fun e w' => ∃ (y : Fi) (d : Cl), e = .returned (.tuple #[.agg y.cs.toArray, .agg d.cs.toArray, .int .i64 0]) ∧ Rd w' w'.heap.size y.A 7 (y.m.map bxc) ∧ Fresh W.heap.size y.A ∧ Hid (P y d) ∧ Below W.heap.size W w'))
    (B : Hid (wr.heap[b]? = some (.cells x.cs.toArray 31 (0, 0))))
    (hQ : ∀ c (a : Act) d v w, Q' (.panic c) (a.put d v) w → Q' (.panic c) a w)
    (hK : ∀ (v13 v14 v15 v75 v76 v77 v78 v79 v80 v81 : Value) (W' : World), (fun vx vc ve W => ∃ (k1 k2 : Nat) (y : Fi) (d : Cl), vx = .pointer (some ⟨k1, 0, none⟩) ∧ vc = .pointer (some ⟨k2, 0, none⟩) ∧ ve = .int .i64 0 ∧ Hid (W.heap[k1]? = some (.cells y.cs.toArray 31 (0, 0))) ∧ Hid (W.heap[k2]? = some (.cells d.cs.toArray 40 (0, 0))) ∧ Hid (Rd W W.heap.size y.A 7 (y.m.map bxc)) ∧ Hid (Fresh wr.heap.size y.A) ∧ Hid (P y d) ∧ wr.heap.size ≤ k1 ∧ wr.heap.size ≤ k2 ∧ k1 ≠ k2 ∧ Hid (Below wr.heap.size wr W)) v13 v14 v15 W' → K' ⟨List.toArray (sl0 :: sl1 :: sl2 :: sl3 :: sl4 :: (.pointer (some ⟨b, 0, none⟩)) :: sl6 :: sl7 :: sl8 :: sl9 :: sl10 :: sl11 :: sl12 :: v13 :: v14 :: v15 :: sl16 :: sl17 :: sl18 :: sl19 :: sl20 :: sl21 :: sl22 :: sl23 :: sl24 :: sl25 :: sl26 :: sl27 :: sl28 :: sl29 :: sl30 :: sl31 :: sl32 :: sl33 :: sl34 :: sl35 :: sl36 :: sl37 :: sl38 :: sl39 :: sl40 :: sl41 :: sl42 :: sl43 :: sl44 :: sl45 :: sl46 :: sl47 :: sl48 :: sl49 :: sl50 :: sl51 :: sl52 :: sl53 :: sl54 :: sl55 :: sl56 :: sl57 :: sl58 :: sl59 :: sl60 :: sl61 :: sl62 :: sl63 :: sl64 :: sl65 :: sl66 :: sl67 :: sl68 :: sl69 :: sl70 :: sl71 :: sl72 :: sl73 :: sl74 :: v75 :: v76 :: v77 :: v78 :: v79 :: v80 :: v81 :: sl82 :: sl83 :: sl84 :: sl85 :: sl86 :: sl87 :: sl88 :: sl89 :: sl90 :: sl91 :: sl92 :: sl93 :: sl94 :: sl95 :: sl96 :: sl97 :: sl98 :: sl99 :: sl100 :: sl101 :: sl102 :: sl103 :: sl104 :: sl105 :: sl106 :: sl107 :: sl108 :: sl109 :: sl110 :: sl111 :: sl112 :: sl113 :: sl114 :: sl115 :: sl116 :: sl117 :: sl118 :: sl119 :: sl120 :: sl121 :: sl122 :: sl123 :: sl124 :: sl125 :: sl126 :: sl127 :: sl128 :: sl129 :: sl130 :: sl131 :: sl132 :: sl133 :: sl134 :: sl135 :: sl136 :: sl137 :: sl138 :: sl139 :: sl140 :: sl141 :: sl142 :: sl143 :: sl144 :: sl145 :: sl146 :: sl147 :: sl148 :: sl149 :: sl150 :: sl151 :: sl152 :: sl153 :: sl154 :: sl155 :: sl156 :: sl157 :: sl158 :: sl159 :: sl160 :: sl161 :: sl162 :: sl163 :: sl164 :: sl165 :: sl166 :: sl167 :: sl168 :: sl169 :: []), []⟩ W') :
    Cd.wp Tryd.prog (Exit.then K' Q') ⟨List.toArray (sl0 :: sl1 :: sl2 :: sl3 :: sl4 :: (.pointer (some ⟨b, 0, none⟩)) :: sl6 :: sl7 :: sl8 :: sl9 :: sl10 :: sl11 :: sl12 :: sl13 :: sl14 :: sl15 :: sl16 :: sl17 :: sl18 :: sl19 :: sl20 :: sl21 :: sl22 :: sl23 :: sl24 :: sl25 :: sl26 :: sl27 :: sl28 :: sl29 :: sl30 :: sl31 :: sl32 :: sl33 :: sl34 :: sl35 :: sl36 :: sl37 :: sl38 :: sl39 :: sl40 :: sl41 :: sl42 :: sl43 :: sl44 :: sl45 :: sl46 :: sl47 :: sl48 :: sl49 :: sl50 :: sl51 :: sl52 :: sl53 :: sl54 :: sl55 :: sl56 :: sl57 :: sl58 :: sl59 :: sl60 :: sl61 :: sl62 :: sl63 :: sl64 :: sl65 :: sl66 :: sl67 :: sl68 :: sl69 :: sl70 :: sl71 :: sl72 :: sl73 :: sl74 :: sl75 :: sl76 :: sl77 :: sl78 :: sl79 :: sl80 :: sl81 :: sl82 :: sl83 :: sl84 :: sl85 :: sl86 :: sl87 :: sl88 :: sl89 :: sl90 :: sl91 :: sl92 :: sl93 :: sl94 :: sl95 :: sl96 :: sl97 :: sl98 :: sl99 :: sl100 :: sl101 :: sl102 :: sl103 :: sl104 :: sl105 :: sl106 :: sl107 :: sl108 :: sl109 :: sl110 :: sl111 :: sl112 :: sl113 :: sl114 :: sl115 :: sl116 :: sl117 :: sl118 :: sl119 :: sl120 :: sl121 :: sl122 :: sl123 :: sl124 :: sl125 :: sl126 :: sl127 :: sl128 :: sl129 :: sl130 :: sl131 :: sl132 :: sl133 :: sl134 :: sl135 :: sl136 :: sl137 :: sl138 :: sl139 :: sl140 :: sl141 :: sl142 :: sl143 :: sl144 :: sl145 :: sl146 :: sl147 :: sl148 :: sl149 :: sl150 :: sl151 :: sl152 :: sl153 :: sl154 :: sl155 :: sl156 :: sl157 :: sl158 :: sl159 :: sl160 :: sl161 :: sl162 :: sl163 :: sl164 :: sl165 :: sl166 :: sl167 :: sl168 :: sl169 :: []), []⟩ wr := by
  subst hC
  conv => arg 2; whnf
  go_cut [13, 14, 15] from 99999 (fun vx vc ve W => ∃ (k1 k2 : Nat) (y : Fi) (d : Cl), vx = .pointer (some ⟨k1, 0, none⟩) ∧ vc = .pointer (some ⟨k2, 0, none⟩) ∧ ve = .int .i64 0 ∧ Hid (W.heap[k1]? = some (.cells y.cs.toArray 31 (0, 0))) ∧ Hid (W.heap[k2]? = some (.cells d.cs.toArray 40 (0, 0))) ∧ Hid (Rd W W.heap.size y.A 7 (y.m.map bxc)) ∧ Hid (Fresh wr.heap.size y.A) ∧ Hid (P y d) ∧ wr.heap.size ≤ k1 ∧ wr.heap.size ≤ k2 ∧ k1 ≠ k2 ∧ Hid (Below wr.heap.size wr W))
  case rest => exact hK _ _ _ _ _ _ _ _ _ _ _ hcut
  case first =>
    clear hK
    have NC := hide (fun W => ctlNew_any W)
    have Q := hide (Below.refl wr.heap.size wr)
    refine wp_region_L [0, 3, 4, 5, 6] [(0, fun W => W.heap[b]? = some (.cells x.cs.toArray 31 (0, 0)))] (by kernel_rfl) ?_
    replace B := hide (show wr.drew.heap[b]? = some (.cells x.cs.toArray 31 (0, 0)) from B.out)
    replace Q := hide (show Below wr.heap.size wr wr.drew from Q.out.drew)
    generalize wr.drew = w1' at *
    refine wpAnyL_load (i := 0) (v := .agg x.cs.toArray) rfl rfl (by kernel_rfl) (by kernel_rfl) (by kernel_rfl) (by kernel_rfl) (by kernel_rfl) (fun _ _ _ h => hQ _ _ _ _ _ h) rfl (fun W h => exec_heap W b 31 x.cs _ h Tryd.underlying31 rfl (by kernel_rfl) _ _ (.tmp 5) (by rfl) (by rfl)) (B.out) ?_
    go_simp
    refine wpAnyL_three (i := 1) (k := 7) (m := 8) (by kernel_rfl) ?_ ?_ ?_
    · refine wpOp_do rfl rfl ?_
      go_simp
      (with_reducible refine (NC.out _).mono ?_)
      rintro ew2' w2' ⟨rfl, qw2'⟩
      replace B := hide (heap_below B.out qw2')
      replace Q := hide (below_next Q.out Q.out.size qw2')
      clear qw2'
      go_simp
      refine ⟨keepsL_mk (by kernel_rfl) (.cons B.out .nil), ?_⟩
      go_simp
      refine wpAnyL_three (i := 2) (k := 7) (m := 8) (by kernel_rfl) ?_ ?_ ?_
      · refine wpOp_do rfl rfl ?_
        go_simp
        have R1 := hide (CALL.out w2' Q.out)
        have zq := Q.out.size
        (with_reducible refine (R1.out).mono ?_)
        rintro ew3' w3' ⟨y, d, rfl, RY, FRY, HY, qw3'⟩
        have O_RY_B := hide (show Off y.A (y.m.map bxc).length b from off_fresh FRY (heap_lt B.out))
        replace B := hide (heap_below B.out qw3')
        replace Q := hide (below_next Q.out Q.out.size qw3')
        clear qw3'
        replace RY := hide (show Rd w3' w3'.heap.size y.A 7 (y.m.map bxc) from RY)
        replace FRY := hide FRY
        clear R1 CALL
        have FY := hide (show Fresh wr.heap.size y.A from FRY.out.mono zq)
        clear FRY zq
        go_simp
        refine ⟨keepsL_mk (by kernel_rfl) (.cons B.out .nil), ?_⟩
        go_simp
        refine wpAnyL_pure (i := 3) (v := .tuple #[.agg y.cs.toArray, .agg d.cs.toArray, .int .i64 0]) rfl rfl (by kernel_rfl) (by kernel_rfl) (by kernel_rfl) (by kernel_rfl) (by kernel_rfl) (fun _ _ _ h => hQ _ _ _ _ _ h) rfl (fun W => by go_simp) ?_
        go_simp
        refine wpAnyL_pure (i := 4) (v := .agg y.cs.toArray) rfl rfl (by kernel_rfl) (by kernel_rfl) (by kernel_rfl) (by kernel_rfl) (by kernel_rfl) (fun _ _ _ h => hQ _ _ _ _ _ h) rfl (fun W => by go_simp) ?_
        go_simp
        refine wpAnyL_pure (i := 5) (v := .agg d.cs.toArray) rfl rfl (by kernel_rfl) (by kernel_rfl) (by kernel_rfl) (by kernel_rfl) (by kernel_rfl) (fun _ _ _ h => hQ _ _ _ _ _ h) rfl (fun W => by go_simp) ?_
        go_simp
        refine wpAnyL_pure (i := 6) (v := .int .i64 0) rfl rfl (by kernel_rfl) (by kernel_rfl) (by kernel_rfl) (by kernel_rfl) (by kernel_rfl) (fun _ _ _ h => hQ _ _ _ _ _ h) rfl (fun W => by go_simp) ?_
        go_simp
        refine wpAnyL_two (i := 7) (k := 8) (by kernel_rfl) ?_ ?_
        · refine wpOp_do rfl rfl ?_
          go_simp
          have N1 := hide (World.alloc_heap_new w3' (.cells zFi.cs.toArray 31))
          have zBx13 : b < w3'.heap.size := heap_lt B.out
          have O_RY_N1 := hide (off_new (x := w3'.heap.size) RY.out (by omega))
          have zQx13 : wr.heap.size ≤ w3'.heap.size := Q.out.size
          have q5' : Below w3'.heap.size w3' (w3'.alloc (.cells zFi.cs.toArray 31)) := (Below.refl _ _).alloc (Nat.le_refl _) _
          replace B := hide (heap_below B.out q5')
          replace RY := hide (Rd.next RY.out q5' q5'.size)
          replace Q := hide (below_next Q.out Q.out.size q5')
          clear q5'
          refine ⟨keepsL_mk (by kernel_rfl) (.cons B.out .nil), ?_⟩
          change wpAnyL _ _ _ _ _ _ _ _ _ (w3'.alloc (.cells zFi.cs.toArray 31))
          generalize w3'.alloc (.cells zFi.cs.toArray 31) = w4' at *
          generalize w3'.heap.size = x13 at *
          go_simp
          refine wpAnyL_one (i := 8) (by kernel_rfl) ?_
          refine wpOp_do rfl rfl ?_
          go_simp
          have N2 := hide (World.alloc_heap_new w4' (.cells zCl.cs.toArray 40))
          have zBx14 : b < w4'.heap.size := heap_lt B.out
          have zN1x14 : x13 < w4'.heap.size := heap_lt N1.out
          have O_RY_N2 := hide (off_new (x := w4'.heap.size) RY.out (by omega))
          have zQx14 : wr.heap.size ≤ w4'.heap.size := Q.out.size
          have q7' : Below w4'.heap.size w4' (w4'.alloc (.cells zCl.cs.toArray 40)) := (Below.refl _ _).alloc (Nat.le_refl _) _
          replace B := hide (heap_below B.out q7')
          replace N1 := hide (heap_below N1.out q7')
          replace RY := hide (Rd.next RY.out q7' q7'.size)
          replace Q := hide (below_next Q.out Q.out.size q7')
          clear q7'
          refine ⟨keepsL_mk (by kernel_rfl) (.cons B.out .nil), ?_⟩
          change wpAnyL _ _ _ _ _ _ _ _ _ (w4'.alloc (.cells zCl.cs.toArray 40))
          generalize w4'.alloc (.cells zCl.cs.toArray 40) = w6' at *
          generalize w4'.heap.size = x14 at *
          go_simp
          refine wpAnyL_one (i := 9) (by kernel_rfl) ?_
          refine wpOp_do rfl rfl ?_
          have Tw8' := hide (show World.there _ x13 0 7 from there_heap (cs := zFi.cs) N1.out)
          refine wp_store_as 31 (.tmp 13) (.tmp 79) rfl x13 0 y.cs (by rfl) (by rfl) (by exact Tw8'.out) (by kernel_rfl) (by simp [Value.oneCell', Fi.cs]) ?_
          intro w8' ew8'
          replace B := hide (show w8'.heap[b]? = some (.cells x.cs.toArray 31 (0, 0)) by rw [ew8']; exact other_heap (by omega) _ _ _ B.out)
          replace N2 := hide (show w8'.heap[x14]? = some (.cells zCl.cs.toArray 40 (0, 0)) by rw [ew8']; exact other_heap (by omega) _ _ _ N2.out)
          replace RY := hide (show Rd w8' w8'.heap.size y.A 7 (y.m.map bxc) by rw [ew8']; exact off_set RY.out O_RY_N1.out _ _)
          replace Q := hide (show Below wr.heap.size wr w8' by rw [ew8']; exact Q.out.trans (below_setCells _ _ _ (by have := Q.out.size; omega)))
          replace N1 := hide (show w8'.heap[x13]? = some (.cells y.cs.toArray 31 (0, 0)) by rw [ew8']; exact whole_heap y.cs (xs := zFi.cs) N1.out rfl)
          clear ew8' Tw8'
          refine ⟨keepsL_all (by kernel_rfl) (by kernel_rfl), ?_⟩
          go_simp
          refine wpAnyL_one (i := 10) (by kernel_rfl) ?_
          refine wpOp_do rfl rfl ?_
          have Tw9' := hide (show World.there _ x14 0 23 from there_heap (cs := zCl.cs) N2.out)
          refine wp_store_as 40 (.tmp 14) (.tmp 80) rfl x14 0 d.cs (by rfl) (by rfl) (by exact Tw9'.out) (by kernel_rfl) (by simp [Value.oneCell', Cl.cs]) ?_
          intro w9' ew9'
          replace B := hide (show w9'.heap[b]? = some (.cells x.cs.toArray 31 (0, 0)) by rw [ew9']; exact other_heap (by omega) _ _ _ B.out)
          replace N1 := hide (show w9'.heap[x13]? = some (.cells y.cs.toArray 31 (0, 0)) by rw [ew9']; exact other_heap (by omega) _ _ _ N1.out)
          replace RY := hide (show Rd w9' w9'.heap.size y.A 7 (y.m.map bxc) by rw [ew9']; exact off_set RY.out O_RY_N2.out _ _)
          replace Q := hide (show Below wr.heap.size wr w9' by rw [ew9']; exact Q.out.trans (below_setCells _ _ _ (by have := Q.out.size; omega)))
          replace N2 := hide (show w9'.heap[x14]? = some (.cells d.cs.toArray 40 (0, 0)) by rw [ew9']; exact whole_heap d.cs (xs := zCl.cs) N2.out rfl)
          clear ew9' Tw9'
          refine ⟨keepsL_all (by kernel_rfl) (by kernel_rfl), ?_⟩
          go_simp
          refine wpAnyL_one (i := 11) (by kernel_rfl) ?_
          refine wpOp_do rfl rfl ?_
          go_simp
          refine ⟨keepsL_all (by kernel_rfl) (by kernel_rfl), ?_⟩
          go_simp
          refine wpAnyL_done (by kernel_rfl) ?_ _
          go_wp2_with fail
          go_meet
          exact ⟨x13, x14, y, d, rfl, rfl, rfl, N1, N2, RY, FY, HY, by omega, by omega, by omega, Q⟩
        · refine wpOp_do rfl rfl ?_
          go_simp
          have N2 := hide (World.alloc_heap_new w3' (.cells zCl.cs.toArray 40))
          have zBx14 : b < w3'.heap.size := heap_lt B.out
          have O_RY_N2 := hide (off_new (x := w3'.heap.size) RY.out (by omega))
          have zQx14 : wr.heap.size ≤ w3'.heap.size := Q.out.size
          have q11' : Below w3'.heap.size w3' (w3'.alloc (.cells zCl.cs.toArray 40)) := (Below.refl _ _).alloc (Nat.le_refl _) _
          replace B := hide (heap_below B.out q11')
          replace RY := hide (Rd.next RY.out q11' q11'.size)
          replace Q := hide (below_next Q.out Q.out.size q11')
          clear q11'
          refine ⟨keepsL_mk (by kernel_rfl) (.cons B.out .nil), ?_⟩
          change wpAnyL _ _ _ _ _ _ _ _ _ (w3'.alloc (.cells zCl.cs.toArray 40))
          generalize w3'.alloc (.cells zCl.cs.toArray 40) = w10' at *
          generalize w3'.heap.size = x14 at *
          go_simp
          refine wpAnyL_one (i := 7) (by kernel_rfl) ?_
          refine wpOp_do rfl rfl ?_
          go_simp
          have N1 := hide (World.alloc_heap_new w10' (.cells zFi.cs.toArray 31))
          have zBx13 : b < w10'.heap.size := heap_lt B.out
          have zN2x13 : x14 < w10'.heap.size := heap_lt N2.out
          have O_RY_N1 := hide (off_new (x := w10'.heap.size) RY.out (by omega))
          have zQx13 : wr.heap.size ≤ w10'.heap.size := Q.out.size
          have q13' : Below w10'.heap.size w10' (w10'.alloc (.cells zFi.cs.toArray 31)) := (Below.refl _ _).alloc (Nat.le_refl _) _
          replace B := hide (heap_below B.out q13')
          replace N2 := hide (heap_below N2.out q13')
          replace RY := hide (Rd.next RY.out q13' q13'.size)
          replace Q := hide (below_next Q.out Q.out.size q13')
          clear q13'
          refine ⟨keepsL_mk (by kernel_rfl) (.cons B.out .nil), ?_⟩
          change wpAnyL _ _ _ _ _ _ _ _ _ (w10'.alloc (.cells zFi.cs.toArray 31))
          generalize w10'.alloc (.cells zFi.cs.toArray 31) = w12' at *
          generalize w10'.heap.size = x13 at *
          go_simp
          refine wpAnyL_one (i := 9) (by kernel_rfl) ?_
          refine wpOp_do rfl rfl ?_
          have Tw14' := hide (show World.there _ x13 0 7 from there_heap (cs := zFi.cs) N1.out)
          refine wp_store_as 31 (.tmp 13) (.tmp 79) rfl x13 0 y.cs (by rfl) (by rfl) (by exact Tw14'.out) (by kernel_rfl) (by simp [Value.oneCell', Fi.cs]) ?_
          intro w14' ew14'
          replace B := hide (show w14'.heap[b]? = some (.cells x.cs.toArray 31 (0, 0)) by rw [ew14']; exact other_heap (by omega) _ _ _ B.out)
          replace N2 := hide (show w14'.heap[x14]? = some (.cells zCl.cs.toArray 40 (0, 0)) by rw [ew14']; exact other_heap (by omega) _ _ _ N2.out)
          replace RY := hide (show Rd w14' w14'.heap.size y.A 7 (y.m.map bxc) by rw [ew14']; exact off_set RY.out O_RY_N1.out _ _)
          replace Q := hide (show Below wr.heap.size wr w14' by rw [ew14']; exact Q.out.trans (below_setCells _ _ _ (by have := Q.out.size; omega)))
          replace N1 := hide (show w14'.heap[x13]? = some (.cells y.cs.toArray 31 (0, 0)) by rw [ew14']; exact whole_heap y.cs (xs := zFi.cs) N1.out rfl)
          clear ew14' Tw14'
          refine ⟨keepsL_all (by kernel_rfl) (by kernel_rfl), ?_⟩
          go_simp
          refine wpAnyL_one (i := 10) (by kernel_rfl) ?_
          refine wpOp_do rfl rfl ?_
          have Tw15' := hide (show World.there _ x14 0 23 from there_heap (cs := zCl.cs) N2.out)
          refine wp_store_as 40 (.tmp 14) (.tmp 80) rfl x14 0 d.cs (by rfl) (by rfl) (by exact Tw15'.out) (by kernel_rfl) (by simp [Value.oneCell', Cl.cs]) ?_
          intro w15' ew15'
          replace B := hide (show w15'.heap[b]? = some (.cells x.cs.toArray 31 (0, 0)) by rw [ew15']; exact other_heap (by omega) _ _ _ B.out)
          replace N1 := hide (show w15'.heap[x13]? = some (.cells y.cs.toArray 31 (0, 0)) by rw [ew15']; exact other_heap (by omega) _ _ _ N1.out)
          replace RY := hide (show Rd w15' w15'.heap.size y.A 7 (y.m.map bxc) by rw [ew15']; exact off_set RY.out O_RY_N2.out _ _)
          replace Q := hide (show Below wr.heap.size wr w15' by rw [ew15']; exact Q.out.trans (below_setCells _ _ _ (by have := Q.out.size; omega)))
          replace N2 := hide (show w15'.heap[x14]? = some (.cells d.cs.toArray 40 (0, 0)) by rw [ew15']; exact whole_heap d.cs (xs := zCl.cs) N2.out rfl)
          clear ew15' Tw15'
          refine ⟨keepsL_all (by kernel_rfl) (by kernel_rfl), ?_⟩
          go_simp
          refine wpAnyL_one (i := 11) (by kernel_rfl) ?_
          refine wpOp_do rfl rfl ?_
          go_simp
          refine ⟨keepsL_all (by kernel_rfl) (by kernel_rfl), ?_⟩
          go_simp
          refine wpAnyL_done (by kernel_rfl) ?_ _
          go_wp2_with fail
          go_meet
          exact ⟨x13, x14, y, d, rfl, rfl, rfl, N1, N2, RY, FY, HY, by omega, by omega, by omega, Q⟩
      · refine wpOp_do rfl rfl ?_
        go_simp
        have N1 := hide (World.alloc_heap_new w2' (.cells zFi.cs.toArray 31))
        have zBx13 : b < w2'.heap.size := heap_lt B.out
        have zQx13 : wr.heap.size ≤ w2'.heap.size := Q.out.size
        have q17' : Below w2'.heap.size w2' (w2'.alloc (.cells zFi.cs.toArray 31)) := (Below.refl _ _).alloc (Nat.le_refl _) _
        replace B := hide (heap_below B.out q17')
        replace Q := hide (below_next Q.out Q.out.size q17')
        clear q17'
        refine ⟨keepsL_mk (by kernel_rfl) (.cons B.out .nil), ?_⟩
        change wpAnyL _ _ _ _ _ _ _ _ _ (w2'.alloc (.cells zFi.cs.toArray 31))
        generalize w2'.alloc (.cells zFi.cs.toArray 31) = w16' at *
        generalize w2'.heap.size = x13 at *
        go_simp
        refine wpAnyL_two (i := 2) (k := 8) (by kernel_rfl) ?_ ?_
        · refine wpOp_do rfl rfl ?_
          go_simp
          have R1 := hide (CALL.out w16' Q.out)
          have zq := Q.out.size
          (with_reducible refine (R1.out).mono ?_)
          rintro ew18' w18' ⟨y, d, rfl, RY, FRY, HY, qw18'⟩
          have O_RY_B := hide (show Off y.A (y.m.map bxc).length b from off_fresh FRY (heap_lt B.out))
          have O_RY_N1 := hide (show Off y.A (y.m.map bxc).length x13 from off_fresh FRY (heap_lt N1.out))
          replace B := hide (heap_below B.out qw18')
          replace N1 := hide (heap_below N1.out qw18')
          replace Q := hide (below_next Q.out Q.out.size qw18')
          clear qw18'
          replace RY := hide (show Rd w18' w18'.heap.size y.A 7 (y.m.map bxc) from RY)
          replace FRY := hide FRY
          clear R1 CALL
          have FY := hide (show Fresh wr.heap.size y.A from FRY.out.mono zq)
          clear FRY zq
          go_simp
          refine ⟨keepsL_mk (by kernel_rfl) (.cons B.out .nil), ?_⟩
          go_simp
          refine wpAnyL_pure (i := 3) (v := .tuple #[.agg y.cs.toArray, .agg d.cs.toArray, .int .i64 0]) rfl rfl (by kernel_rfl) (by kernel_rfl) (by kernel_rfl) (by kernel_rfl) (by kernel_rfl) (fun _ _ _ h => hQ _ _ _ _ _ h) rfl (fun W => by go_simp) ?_
          go_simp
          refine wpAnyL_pure (i := 4) (v := .agg y.cs.toArray) rfl rfl (by kernel_rfl) (by kernel_rfl) (by kernel_rfl) (by kernel_rfl) (by kernel_rfl) (fun _ _ _ h => hQ _ _ _ _ _ h) rfl (fun W => by go_simp) ?_
          go_simp
          refine wpAnyL_pure (i := 5) (v := .agg d.cs.toArray) rfl rfl (by kernel_rfl) (by kernel_rfl) (by kernel_rfl) (by kernel_rfl) (by kernel_rfl) (fun _ _ _ h => hQ _ _ _ _ _ h) rfl (fun W => by go_simp) ?_
          go_simp
          refine wpAnyL_pure (i := 6) (v := .int .i64 0) rfl rfl (by kernel_rfl) (by kernel_rfl) (by kernel_rfl) (by kernel_rfl) (by kernel_rfl) (fun _ _ _ h => hQ _ _ _ _ _ h) rfl (fun W => by go_simp) ?_
          go_simp
          refine wpAnyL_one (i := 8) (by kernel_rfl) ?_
          refine wpOp_do rfl rfl ?_
          go_simp
          have N2 := hide (World.alloc_heap_new w18' (.cells zCl.cs.toArray 40))
          have zBx14 : b < w18'.heap.size := heap_lt B.out
          have zN1x14 : x13 < w18'.heap.size := heap_lt N1.out
          have O_RY_N2 := hide (off_new (x := w18'.heap.size) RY.out (by omega))
          have zQx14 : wr.heap.size ≤ w18'.heap.size := Q.out.size
          have q20' : Below w18'.heap.size w18' (w18'.alloc (.cells zCl.cs.toArray 40)) := (Below.refl _ _).alloc (Nat.le_refl _) _
          replace B := hide (heap_below B.out q20')
          replace N1 := hide (heap_below N1.out q20')
          replace RY := hide (Rd.next RY.out q20' q20'.size)
          replace Q := hide (below_next Q.out Q.out.size q20')
          clear q20'
          refine ⟨keepsL_mk (by kernel_rfl) (.cons B.out .nil), ?_⟩
          change wpAnyL _ _ _ _ _ _ _ _ _ (w18'.alloc (.cells zCl.cs.toArray 40))
          generalize w18'.alloc (.cells zCl.cs.toArray 40) = w19' at *
          generalize w18'.heap.size = x14 at *
          go_simp
          refine wpAnyL_one (i := 9) (by kernel_rfl) ?_
          refine wpOp_do rfl rfl ?_
          have Tw21' := hide (show World.there _ x13 0 7 from there_heap (cs := zFi.cs) N1.out)
          refine wp_store_as 31 (.tmp 13) (.tmp 79) rfl x13 0 y.cs (by rfl) (by rfl) (by exact Tw21'.out) (by kernel_rfl) (by simp [Value.oneCell', Fi.cs]) ?_
          intro w21' ew21'
          replace B := hide (show w21'.heap[b]? = some (.cells x.cs.toArray 31 (0, 0)) by rw [ew21']; exact other_heap (by omega) _ _ _ B.out)
          replace N2 := hide (show w21'.heap[x14]? = some (.cells zCl.cs.toArray 40 (0, 0)) by rw [ew21']; exact other_heap (by omega) _ _ _ N2.out)
          replace RY := hide (show Rd w21' w21'.heap.size y.A 7 (y.m.map bxc) by rw [ew21']; exact off_set RY.out O_RY_N1.out _ _)
          replace Q := hide (show Below wr.heap.size wr w21' by rw [ew21']; exact Q.out.trans (below_setCells _ _ _ (by have := Q.out.size; omega)))
          replace N1 := hide (show w21'.heap[x13]? = some (.cells y.cs.toArray 31 (0, 0)) by rw [ew21']; exact whole_heap y.cs (xs := zFi.cs) N1.out rfl)
          clear ew21' Tw21'
          refine ⟨keepsL_all (by kernel_rfl) (by kernel_rfl), ?_⟩
          go_simp
          refine wpAnyL_one (i := 10) (by kernel_rfl) ?_
          refine wpOp_do rfl rfl ?_
          have Tw22' := hide (show World.there _ x14 0 23 from there_heap (cs := zCl.cs) N2.out)
          refine wp_store_as 40 (.tmp 14) (.tmp 80) rfl x14 0 d.cs (by rfl) (by rfl) (by exact Tw22'.out) (by kernel_rfl) (by simp [Value.oneCell', Cl.cs]) ?_
          intro w22' ew22'
          replace B := hide (show w22'.heap[b]? = some (.cells x.cs.toArray 31 (0, 0)) by rw [ew22']; exact other_heap (by omega) _ _ _ B.out)
          replace N1 := hide (show w22'.heap[x13]? = some (.cells y.cs.toArray 31 (0, 0)) by rw [ew22']; exact other_heap (by omega) _ _ _ N1.out)
          replace RY := hide (show Rd w22' w22'.heap.size y.A 7 (y.m.map bxc) by rw [ew22']; exact off_set RY.out O_RY_N2.out _ _)
          replace Q := hide (show Below wr.heap.size wr w22' by rw [ew22']; exact Q.out.trans (below_setCells _ _ _ (by have := Q.out.size; omega)))
          replace N2 := hide (show w22'.heap[x14]? = some (.cells d.cs.toArray 40 (0, 0)) by rw [ew22']; exact whole_heap d.cs (xs := zCl.cs) N2.out rfl)
          clear ew22' Tw22'
          refine ⟨keepsL_all (by kernel_rfl) (by kernel_rfl), ?_⟩
          go_simp
          refine wpAnyL_one (i := 11) (by kernel_rfl) ?_
          refine wpOp_do rfl rfl ?_
          go_simp
          refine ⟨keepsL_all (by kernel_rfl) (by kernel_rfl), ?_⟩
          go_simp
          refine wpAnyL_done (by kernel_rfl) ?_ _
          go_wp2_with fail
          go_meet
          exact ⟨x13, x14, y, d, rfl, rfl, rfl, N1, N2, RY, FY, HY, by omega, by omega, by omega, Q⟩
        · refine wpOp_do rfl rfl ?_
          go_simp
          have N2 := hide (World.alloc_heap_new w16' (.cells zCl.cs.toArray 40))
          have zBx14 : b < w16'.heap.size := heap_lt B.out
          have zN1x14 : x13 < w16'.heap.size := heap_lt N1.out
          have zQx14 : wr.heap.size ≤ w16'.heap.size := Q.out.size
          have q24' : Below w16'.heap.size w16' (w16'.alloc (.cells zCl.cs.toArray 40)) := (Below.refl _ _).alloc (Nat.le_refl _) _
          replace B := hide (heap_below B.out q24')
          replace N1 := hide (heap_below N1.out q24')
          replace Q := hide (below_next Q.out Q.out.size q24')
          clear q24'
          refine ⟨keepsL_mk (by kernel_rfl) (.cons B.out .nil), ?_⟩
          change wpAnyL _ _ _ _ _ _ _ _ _ (w16'.alloc (.cells zCl.cs.toArray 40))
          generalize w16'.alloc (.cells zCl.cs.toArray 40) = w23' at *
          generalize w16'.heap.size = x14 at *
          go_simp
          refine wpAnyL_one (i := 2) (by kernel_rfl) ?_
          refine wpOp_do rfl rfl ?_
          go_simp
          have R1 := hide (CALL.out w23' Q.out)
          have zq := Q.out.size
          (with_reducible refine (R1.out).mono ?_)
          rintro ew25' w25' ⟨y, d, rfl, RY, FRY, HY, qw25'⟩
          have O_RY_B := hide (show Off y.A (y.m.map bxc).length b from off_fresh FRY (heap_lt B.out))
          have O_RY_N1 := hide (show Off y.A (y.m.map bxc).length x13 from off_fresh FRY (heap_lt N1.out))
          have O_RY_N2 := hide (show Off y.A (y.m.map bxc).length x14 from off_fresh FRY (heap_lt N2.out))
          replace B := hide (heap_below B.out qw25')
          replace N1 := hide (heap_below N1.out qw25')
          replace N2 := hide (heap_below N2.out qw25')
          replace Q := hide (below_next Q.out Q.out.size qw25')
          clear qw25'
          replace RY := hide (show Rd w25' w25'.heap.size y.A 7 (y.m.map bxc) from RY)
          replace FRY := hide FRY
          clear R1 CALL
          have FY := hide (show Fresh wr.heap.size y.A from FRY.out.mono zq)
          clear FRY zq
          go_simp
          refine ⟨keepsL_mk (by kernel_rfl) (.cons B.out .nil), ?_⟩
          go_simp
          refine wpAnyL_pure (i := 3) (v := .tuple #[.agg y.cs.toArray, .agg d.cs.toArray, .int .i64 0]) rfl rfl (by kernel_rfl) (by kernel_rfl) (by kernel_rfl) (by kernel_rfl) (by kernel_rfl) (fun _ _ _ h => hQ _ _ _ _ _ h) rfl (fun W => by go_simp) ?_
          go_simp
          refine wpAnyL_pure (i := 4) (v := .agg y.cs.toArray) rfl rfl (by kernel_rfl) (by kernel_rfl) (by kernel_rfl) (by kernel_rfl) (by kernel_rfl) (fun _ _ _ h => hQ _ _ _ _ _ h) rfl (fun W => by go_simp) ?_
          go_simp
          refine wpAnyL_pure (i := 5) (v := .agg d.cs.toArray) rfl rfl (by kernel_rfl) (by kernel_rfl) (by kernel_rfl) (by kernel_rfl) (by kernel_rfl) (fun _ _ _ h => hQ _ _ _ _ _ h) rfl (fun W => by go_simp) ?_
          go_simp
          refine wpAnyL_pure (i := 6) (v := .int .i64 0) rfl rfl (by kernel_rfl) (by kernel_rfl) (by kernel_rfl) (by kernel_rfl) (by kernel_rfl) (fun _ _ _ h => hQ _ _ _ _ _ h) rfl (fun W => by go_simp) ?_
          go_simp
          refine wpAnyL_one (i := 9) (by kernel_rfl) ?_
          refine wpOp_do rfl rfl ?_
          have Tw26' := hide (show World.there _ x13 0 7 from there_heap (cs := zFi.cs) N1.out)
          refine wp_store_as 31 (.tmp 13) (.tmp 79) rfl x13 0 y.cs (by rfl) (by rfl) (by exact Tw26'.out) (by kernel_rfl) (by simp [Value.oneCell', Fi.cs]) ?_
          intro w26' ew26'
          replace B := hide (show w26'.heap[b]? = some (.cells x.cs.toArray 31 (0, 0)) by rw [ew26']; exact other_heap (by omega) _ _ _ B.out)
          replace N2 := hide (show w26'.heap[x14]? = some (.cells zCl.cs.toArray 40 (0, 0)) by rw [ew26']; exact other_heap (by omega) _ _ _ N2.out)
          replace RY := hide (show Rd w26' w26'.heap.size y.A 7 (y.m.map bxc) by rw [ew26']; exact off_set RY.out O_RY_N1.out _ _)
          replace Q := hide (show Below wr.heap.size wr w26' by rw [ew26']; exact Q.out.trans (below_setCells _ _ _ (by have := Q.out.size; omega)))
          replace N1 := hide (show w26'.heap[x13]? = some (.cells y.cs.toArray 31 (0, 0)) by rw [ew26']; exact whole_heap y.cs (xs := zFi.cs) N1.out rfl)
          clear ew26' Tw26'
          refine ⟨keepsL_all (by kernel_rfl) (by kernel_rfl), ?_⟩
          go_simp
          refine wpAnyL_one (i := 10) (by kernel_rfl) ?_
          refine wpOp_do rfl rfl ?_
          have Tw27' := hide (show World.there _ x14 0 23 from there_heap (cs := zCl.cs) N2.out)
          refine wp_store_as 40 (.tmp 14) (.tmp 80) rfl x14 0 d.cs (by rfl) (by rfl) (by exact Tw27'.out) (by kernel_rfl) (by simp [Value.oneCell', Cl.cs]) ?_
          intro w27' ew27'
          replace B := hide (show w27'.heap[b]? = some (.cells x.cs.toArray 31 (0, 0)) by rw [ew27']; exact other_heap (by omega) _ _ _ B.out)
          replace N1 := hide (show w27'.heap[x13]? = some (.cells y.cs.toArray 31 (0, 0)) by rw [ew27']; exact other_heap (by omega) _ _ _ N1.out)
          replace RY := hide (show Rd w27' w27'.heap.size y.A 7 (y.m.map bxc) by rw [ew27']; exact off_set RY.out O_RY_N2.out _ _)
          replace Q := hide (show Below wr.heap.size wr w27' by rw [ew27']; exact Q.out.trans (below_setCells _ _ _ (by have := Q.out.size; omega)))
          replace N2 := hide (show w27'.heap[x14]? = some (.cells d.cs.toArray 40 (0, 0)) by rw [ew27']; exact whole_heap d.cs (xs := zCl.cs) N2.out rfl)
          clear ew27' Tw27'
          refine ⟨keepsL_all (by kernel_rfl) (by kernel_rfl), ?_⟩
          go_simp
          refine wpAnyL_one (i := 11) (by kernel_rfl) ?_
          refine wpOp_do rfl rfl ?_
          go_simp
          refine ⟨keepsL_all (by kernel_rfl) (by kernel_rfl), ?_⟩
          go_simp
          refine wpAnyL_done (by kernel_rfl) ?_ _
          go_wp2_with fail
          go_meet
          exact ⟨x13, x14, y, d, rfl, rfl, rfl, N1, N2, RY, FY, HY, by omega, by omega, by omega, Q⟩
      · refine wpOp_do rfl rfl ?_
        go_simp
        have N2 := hide (World.alloc_heap_new w2' (.cells zCl.cs.toArray 40))
        have zBx14 : b < w2'.heap.size := heap_lt B.out
        have zQx14 : wr.heap.size ≤ w2'.heap.size := Q.out.size
        have q29' : Below w2'.heap.size w2' (w2'.alloc (.cells zCl.cs.toArray 40)) := (Below.refl _ _).alloc (Nat.le_refl _) _
        replace B := hide (heap_below B.out q29')
        replace Q := hide (below_next Q.out Q.out.size q29')
        clear q29'
        refine ⟨keepsL_mk (by kernel_rfl) (.cons B.out .nil), ?_⟩
        change wpAnyL _ _ _ _ _ _ _ _ _ (w2'.alloc (.cells zCl.cs.toArray 40))
        generalize w2'.alloc (.cells zCl.cs.toArray 40) = w28' at *
        generalize w2'.heap.size = x14 at *
        go_simp
        refine wpAnyL_two (i := 2) (k := 7) (by kernel_rfl) ?_ ?_
        · refine wpOp_do rfl rfl ?_
          go_simp
          have R1 := hide (CALL.out w28' Q.out)
          have zq := Q.out.size
          (with_reducible refine (R1.out).mono ?_)
          rintro ew30' w30' ⟨y, d, rfl, RY, FRY, HY, qw30'⟩
          have O_RY_B := hide (show Off y.A (y.m.map bxc).length b from off_fresh FRY (heap_lt B.out))
          have O_RY_N2 := hide (show Off y.A (y.m.map bxc).length x14 from off_fresh FRY (heap_lt N2.out))
          replace B := hide (heap_below B.out qw30')
          replace N2 := hide (heap_below N2.out qw30')
          replace Q := hide (below_next Q.out Q.out.size qw30')
          clear qw30'
          replace RY := hide (show Rd w30' w30'.heap.size y.A 7 (y.m.map bxc) from RY)
          replace FRY := hide FRY
          clear R1 CALL
          have FY := hide (show Fresh wr.heap.size y.A from FRY.out.mono zq)
          clear FRY zq
          go_simp
          refine ⟨keepsL_mk (by kernel_rfl) (.cons B.out .nil), ?_⟩
          go_simp
          refine wpAnyL_pure (i := 3) (v := .tuple #[.agg y.cs.toArray, .agg d.cs.toArray, .int .i64 0]) rfl rfl (by kernel_rfl) (by kernel_rfl) (by kernel_rfl) (by kernel_rfl) (by kernel_rfl) (fun _ _ _ h => hQ _ _ _ _ _ h) rfl (fun W => by go_simp) ?_
          go_simp
          refine wpAnyL_pure (i := 4) (v := .agg y.cs.toArray) rfl rfl (by kernel_rfl) (by kernel_rfl) (by kernel_rfl) (by kernel_rfl) (by kernel_rfl) (fun _ _ _ h => hQ _ _ _ _ _ h) rfl (fun W => by go_simp) ?_
          go_simp
          refine wpAnyL_pure (i := 5) (v := .agg d.cs.toArray) rfl rfl (by kernel_rfl) (by kernel_rfl) (by kernel_rfl) (by kernel_rfl) (by kernel_rfl) (fun _ _ _ h => hQ _ _ _ _ _ h) rfl (fun W => by go_simp) ?_
          go_simp
          refine wpAnyL_pure (i := 6) (v := .int .i64 0) rfl rfl (by kernel_rfl) (by kernel_rfl) (by kernel_rfl) (by kernel_rfl) (by kernel_rfl) (fun _ _ _ h => hQ _ _ _ _ _ h) rfl (fun W => by go_simp) ?_
          go_simp
          refine wpAnyL_one (i := 7) (by kernel_rfl) ?_
          refine wpOp_do rfl rfl ?_
          go_simp
          have N1 := hide (World.alloc_heap_new w30' (.cells zFi.cs.toArray 31))
          have zBx13 : b < w30'.heap.size := heap_lt B.out
          have zN2x13 : x14 < w30'.heap.size := heap_lt N2.out
          have O_RY_N1 := hide (off_new (x := w30'.heap.size) RY.out (by omega))
          have zQx13 : wr.heap.size ≤ w30'.heap.size := Q.out.size
          have q32' : Below w30'.heap.size w30' (w30'.alloc (.cells zFi.cs.toArray 31)) := (Below.refl _ _).alloc (Nat.le_refl _) _
          replace B := hide (heap_below B.out q32')
          replace N2 := hide (heap_below N2.out q32')
          replace RY := hide (Rd.next RY.out q32' q32'.size)
          replace Q := hide (below_next Q.out Q.out.size q32')
          clear q32'
          refine ⟨keepsL_mk (by kernel_rfl) (.cons B.out .nil), ?_⟩
          change wpAnyL _ _ _ _ _ _ _ _ _ (w30'.alloc (.cells zFi.cs.toArray 31))
          generalize w30'.alloc (.cells zFi.cs.toArray 31) = w31' at *
          generalize w30'.heap.size = x13 at *
          go_simp
          refine wpAnyL_one (i := 9) (by kernel_rfl) ?_
          refine wpOp_do rfl rfl ?_
          have Tw33' := hide (show World.there _ x13 0 7 from there_heap (cs := zFi.cs) N1.out)
          refine wp_store_as 31 (.tmp 13) (.tmp 79) rfl x13 0 y.cs (by rfl) (by rfl) (by exact Tw33'.out) (by kernel_rfl) (by simp [Value.oneCell', Fi.cs]) ?_
          intro w33' ew33'
          replace B := hide (show w33'.heap[b]? = some (.cells x.cs.toArray 31 (0, 0)) by rw [ew33']; exact other_heap (by omega) _ _ _ B.out)
          replace N2 := hide (show w33'.heap[x14]? = some (.cells zCl.cs.toArray 40 (0, 0)) by rw [ew33']; exact other_heap (by omega) _ _ _ N2.out)
          replace RY := hide (show Rd w33' w33'.heap.size y.A 7 (y.m.map bxc) by rw [ew33']; exact off_set RY.out O_RY_N1.out _ _)
          replace Q := hide (show Below wr.heap.size wr w33' by rw [ew33']; exact Q.out.trans (below_setCells _ _ _ (by have := Q.out.size; omega)))
          replace N1 := hide (show w33'.heap[x13]? = some (.cells y.cs.toArray 31 (0, 0)) by rw [ew33']; exact whole_heap y.cs (xs := zFi.cs) N1.out rfl)
          clear ew33' Tw33'
          refine ⟨keepsL_all (by kernel_rfl) (by kernel_rfl), ?_⟩
          go_simp
          refine wpAnyL_one (i := 10) (by kernel_rfl) ?_
          refine wpOp_do rfl rfl ?_
          have Tw34' := hide (show World.there _ x14 0 23 from there_heap (cs := zCl.cs) N2.out)
          refine wp_store_as 40 (.tmp 14) (.tmp 80) rfl x14 0 d.cs (by rfl) (by rfl) (by exact Tw34'.out) (by kernel_rfl) (by simp [Value.oneCell', Cl.cs]) ?_
          intro w34' ew34'
          replace B := hide (show w34'.heap[b]? = some (.cells x.cs.toArray 31 (0, 0)) by rw [ew34']; exact other_heap (by omega) _ _ _ B.out)
          replace N1 := hide (show w34'.heap[x13]? = some (.cells y.cs.toArray 31 (0, 0)) by rw [ew34']; exact other_heap (by omega) _ _ _ N1.out)
          replace RY := hide (show Rd w34' w34'.heap.size y.A 7 (y.m.map bxc) by rw [ew34']; exact off_set RY.out O_RY_N2.out _ _)
          replace Q := hide (show Below wr.heap.size wr w34' by rw [ew34']; exact Q.out.trans (below_setCells _ _ _ (by have := Q.out.size; omega)))
          replace N2 := hide (show w34'.heap[x14]? = some (.cells d.cs.toArray 40 (0, 0)) by rw [ew34']; exact whole_heap d.cs (xs := zCl.cs) N2.out rfl)
          clear ew34' Tw34'
          refine ⟨keepsL_all (by kernel_rfl) (by kernel_rfl), ?_⟩
          go_simp
          refine wpAnyL_one (i := 11) (by kernel_rfl) ?_
          refine wpOp_do rfl rfl ?_
          go_simp
          refine ⟨keepsL_all (by kernel_rfl) (by kernel_rfl), ?_⟩
          go_simp
          refine wpAnyL_done (by kernel_rfl) ?_ _
          go_wp2_with fail
          go_meet
          exact ⟨x13, x14, y, d, rfl, rfl, rfl, N1, N2, RY, FY, HY, by omega, by omega, by omega, Q⟩
        · refine wpOp_do rfl rfl ?_
          go_simp
          have N1 := hide (World.alloc_heap_new w28' (.cells zFi.cs.toArray 31))
          have zBx13 : b < w28'.heap.size := heap_lt B.out
          have zN2x13 : x14 < w28'.heap.size := heap_lt N2.out
          have zQx13 : wr.heap.size ≤ w28'.heap.size := Q.out.size
          have q36' : Below w28'.heap.size w28' (w28'.alloc (.cells zFi.cs.toArray 31)) := (Below.refl _ _).alloc (Nat.le_refl _) _
          replace B := hide (heap_below B.out q36')
          replace N2 := hide (heap_below N2.out q36')
          replace Q := hide (below_next Q.out Q.out.size q36')
          clear q36'
          refine ⟨keepsL_mk (by kernel_rfl) (.cons B.out .nil), ?_⟩
          change wpAnyL _ _ _ _ _ _ _ _ _ (w28'.alloc (.cells zFi.cs.toArray 31))
          generalize w28'.alloc (.cells zFi.cs.toArray 31) = w35' at *
          generalize w28'.heap.size = x13 at *
          go_simp
          refine wpAnyL_one (i := 2) (by kernel_rfl) ?_
          refine wpOp_do rfl rfl ?_
          go_simp
          have R1 := hide (CALL.out w35' Q.out)
          have zq := Q.out.size
          (with_reducible refine (R1.out).mono ?_)
          rintro ew37' w37' ⟨y, d, rfl, RY, FRY, HY, qw37'⟩
          have O_RY_B := hide (show Off y.A (y.m.map bxc).length b from off_fresh FRY (heap_lt B.out))
          have O_RY_N2 := hide (show Off y.A (y.m.map bxc).length x14 from off_fresh FRY (heap_lt N2.out))
          have O_RY_N1 := hide (show Off y.A (y.m.map bxc).length x13 from off_fresh FRY (heap_lt N1.out))
          replace B := hide (heap_below B.out qw37')
          replace N2 := hide (heap_below N2.out qw37')
          replace N1 := hide (heap_below N1.out qw37')
          replace Q := hide (below_next Q.out Q.out.size qw37')
          clear qw37'
          replace RY := hide (show Rd w37' w37'.heap.size y.A 7 (y.m.map bxc) from RY)
          replace FRY := hide FRY
          clear R1 CALL
          have FY := hide (show Fresh wr.heap.size y.A from FRY.out.mono zq)
          clear FRY zq
          go_simp
          refine ⟨keepsL_mk (by kernel_rfl) (.cons B.out .nil), ?_⟩
          go_simp
          refine wpAnyL_pure (i := 3) (v := .tuple #[.agg y.cs.toArray, .agg d.cs.toArray, .int .i64 0]) rfl rfl (by kernel_rfl) (by kernel_rfl) (by kernel_rfl) (by kernel_rfl) (by kernel_rfl) (fun _ _ _ h => hQ _ _ _ _ _ h) rfl (fun W => by go_simp) ?_
          go_simp
          refine wpAnyL_pure (i := 4) (v := .agg y.cs.toArray) rfl rfl (by kernel_rfl) (by kernel_rfl) (by kernel_rfl) (by kernel_rfl) (by kernel_rfl) (fun _ _ _ h => hQ _ _ _ _ _ h) rfl (fun W => by go_simp) ?_
          go_simp
          refine wpAnyL_pure (i := 5) (v := .agg d.cs.toArray) rfl rfl (by kernel_rfl) (by kernel_rfl) (by kernel_rfl) (by kernel_rfl) (by kernel_rfl) (fun _ _ _ h => hQ _ _ _ _ _ h) rfl (fun W => by go_simp) ?_
          go_simp
          refine wpAnyL_pure (i := 6) (v := .int .i64 0) rfl rfl (by kernel_rfl) (by kernel_rfl) (by kernel_rfl) (by kernel_rfl) (by kernel_rfl) (fun _ _ _ h => hQ _ _ _ _ _ h) rfl (fun W => by go_simp) ?_
          go_simp
          refine wpAnyL_one (i := 9) (by kernel_rfl) ?_
          refine wpOp_do rfl rfl ?_
          have Tw38' := hide (show World.there _ x13 0 7 from there_heap (cs := zFi.cs) N1.out)
          refine wp_store_as 31 (.tmp 13) (.tmp 79) rfl x13 0 y.cs (by rfl) (by rfl) (by exact Tw38'.out) (by kernel_rfl) (by simp [Value.oneCell', Fi.cs]) ?_
          intro w38' ew38'
          replace B := hide (show w38'.heap[b]? = some (.cells x.cs.toArray 31 (0, 0)) by rw [ew38']; exact other_heap (by omega) _ _ _ B.out)
          replace N2 := hide (show w38'.heap[x14]? = some (.cells zCl.cs.toArray 40 (0, 0)) by rw [ew38']; exact other_heap (by omega) _ _ _ N2.out)
          replace RY := hide (show Rd w38' w38'.heap.size y.A 7 (y.m.map bxc) by rw [ew38']; exact off_set RY.out O_RY_N1.out _ _)
          replace Q := hide (show Below wr.heap.size wr w38' by rw [ew38']; exact Q.out.trans (below_setCells _ _ _ (by have := Q.out.size; omega)))
          replace N1 := hide (show w38'.heap[x13]? = some (.cells y.cs.toArray 31 (0, 0)) by rw [ew38']; exact whole_heap y.cs (xs := zFi.cs) N1.out rfl)
          clear ew38' Tw38'
          refine ⟨keepsL_all (by kernel_rfl) (by kernel_rfl), ?_⟩
          go_simp
          refine wpAnyL_one (i := 10) (by kernel_rfl) ?_
          refine wpOp_do rfl rfl ?_
          have Tw39' := hide (show World.there _ x14 0 23 from there_heap (cs := zCl.cs) N2.out)
          refine wp_store_as 40 (.tmp 14) (.tmp 80) rfl x14 0 d.cs (by rfl) (by rfl) (by exact Tw39'.out) (by kernel_rfl) (by simp [Value.oneCell', Cl.cs]) ?_
          intro w39' ew39'
          replace B := hide (show w39'.heap[b]? = some (.cells x.cs.toArray 31 (0, 0)) by rw [ew39']; exact other_heap (by omega) _ _ _ B.out)
          replace N1 := hide (show w39'.heap[x13]? = some (.cells y.cs.toArray 31 (0, 0)) by rw [ew39']; exact other_heap (by omega) _ _ _ N1.out)
          replace RY := hide (show Rd w39' w39'.heap.size y.A 7 (y.m.map bxc) by rw [ew39']; exact off_set RY.out O_RY_N2.out _ _)
          replace Q := hide (show Below wr.heap.size wr w39' by rw [ew39']; exact Q.out.trans (below_setCells _ _ _ (by have := Q.out.size; omega)))
          replace N2 := hide (show w39'.heap[x14]? = some (.cells d.cs.toArray 40 (0, 0)) by rw [ew39']; exact whole_heap d.cs (xs := zCl.cs) N2.out rfl)
          clear ew39' Tw39'
          refine ⟨keepsL_all (by kernel_rfl) (by kernel_rfl), ?_⟩
          go_simp
          refine wpAnyL_one (i := 11) (by kernel_rfl) ?_
          refine wpOp_do rfl rfl ?_
          go_simp
          refine ⟨keepsL_all (by kernel_rfl) (by kernel_rfl), ?_⟩
          go_simp
          refine wpAnyL_done (by kernel_rfl) ?_ _
          go_wp2_with fail
          go_meet
          exact ⟨x13, x14, y, d, rfl, rfl, rfl, N1, N2, RY, FY, HY, by omega, by omega, by omega, Q⟩
    · refine wpOp_do rfl rfl ?_
      go_simp
      have N1 := hide (World.alloc_heap_new w1' (.cells zFi.cs.toArray 31))
      have zBx13 : b < w1'.heap.size := heap_lt B.out
      have zQx13 : wr.heap.size ≤ w1'.heap.size := Q.out.size
      have q41' : Below w1'.heap.size w1' (w1'.alloc (.cells zFi.cs.toArray 31)) := (Below.refl _ _).alloc (Nat.le_refl _) _
      replace B := hide (heap_below B.out q41')
      replace Q := hide (below_next Q.out Q.out.size q41')
      clear q41'
      refine ⟨keepsL_mk (by kernel_rfl) (.cons B.out .nil), ?_⟩
      change wpAnyL _ _ _ _ _ _ _ _ _ (w1'.alloc (.cells zFi.cs.toArray 31))
      generalize w1'.alloc (.cells zFi.cs.toArray 31) = w40' at *
      generalize w1'.heap.size = x13 at *
      go_simp
      refine wpAnyL_two (i := 1) (k := 8) (by kernel_rfl) ?_ ?_
      · refine wpOp_do rfl rfl ?_
        go_simp
        (with_reducible refine (NC.out _).mono ?_)
        rintro ew42' w42' ⟨rfl, qw42'⟩
        replace B := hide (heap_below B.out qw42')
        replace N1 := hide (heap_below N1.out qw42')
        replace Q := hide (below_next Q.out Q.out.size qw42')
        clear qw42'
        go_simp
        refine ⟨keepsL_mk (by kernel_rfl) (.cons B.out .nil), ?_⟩
        go_simp
        refine wpAnyL_two (i := 2) (k := 8) (by kernel_rfl) ?_ ?_
        · refine wpOp_do rfl rfl ?_
          go_simp
          have R1 := hide (CALL.out w42' Q.out)
          have zq := Q.out.size
          (with_reducible refine (R1.out).mono ?_)
          rintro ew43' w43' ⟨y, d, rfl, RY, FRY, HY, qw43'⟩
          have O_RY_B := hide (show Off y.A (y.m.map bxc).length b from off_fresh FRY (heap_lt B.out))
          have O_RY_N1 := hide (show Off y.A (y.m.map bxc).length x13 from off_fresh FRY (heap_lt N1.out))
          replace B := hide (heap_below B.out qw43')
          replace N1 := hide (heap_below N1.out qw43')
          replace Q := hide (below_next Q.out Q.out.size qw43')
          clear qw43'
          replace RY := hide (show Rd w43' w43'.heap.size y.A 7 (y.m.map bxc) from RY)
          replace FRY := hide FRY
          clear R1 CALL
          have FY := hide (show Fresh wr.heap.size y.A from FRY.out.mono zq)
          clear FRY zq
          go_simp
          refine ⟨keepsL_mk (by kernel_rfl) (.cons B.out .nil), ?_⟩
          go_simp
          refine wpAnyL_pure (i := 3) (v := .tuple #[.agg y.cs.toArray, .agg d.cs.toArray, .int .i64 0]) rfl rfl (by kernel_rfl) (by kernel_rfl) (by kernel_rfl) (by kernel_rfl) (by kernel_rfl) (fun _ _ _ h => hQ _ _ _ _ _ h) rfl (fun W => by go_simp) ?_
          go_simp
          refine wpAnyL_pure (i := 4) (v := .agg y.cs.toArray) rfl rfl (by kernel_rfl) (by kernel_rfl) (by kernel_rfl) (by kernel_rfl) (by kernel_rfl) (fun _ _ _ h => hQ _ _ _ _ _ h) rfl (fun W => by go_simp) ?_
          go_simp
          refine wpAnyL_pure (i := 5) (v := .agg d.cs.toArray) rfl rfl (by kernel_rfl) (by kernel_rfl) (by kernel_rfl) (by kernel_rfl) (by kernel_rfl) (fun _ _ _ h => hQ _ _ _ _ _ h) rfl (fun W => by go_simp) ?_
          go_simp
          refine wpAnyL_pure (i := 6) (v := .int .i64 0) rfl rfl (by kernel_rfl) (by kernel_rfl) (by kernel_rfl) (by kernel_rfl) (by kernel_rfl) (fun _ _ _ h => hQ _ _ _ _ _ h) rfl (fun W => by go_simp) ?_
          go_simp
          refine wpAnyL_one (i := 8) (by kernel_rfl) ?_
          refine wpOp_do rfl rfl ?_
          go_simp
          have N2 := hide (World.alloc_heap_new w43' (.cells zCl.cs.toArray 40))
          have zBx14 : b < w43'.heap.size := heap_lt B.out
          have zN1x14 : x13 < w43'.heap.size := heap_lt N1.out
          have O_RY_N2 := hide (off_new (x := w43'.heap.size) RY.out (by omega))
          have zQx14 : wr.heap.size ≤ w43'.heap.size := Q.out.size
          have q45' : Below w43'.heap.size w43' (w43'.alloc (.cells zCl.cs.toArray 40)) := (Below.refl _ _).alloc (Nat.le_refl _) _
          replace B := hide (heap_below B.out q45')
          replace N1 := hide (heap_below N1.out q45')
          replace RY := hide (Rd.next RY.out q45' q45'.size)
          replace Q := hide (below_next Q.out Q.out.size q45')
          clear q45'
          refine ⟨keepsL_mk (by kernel_rfl) (.cons B.out .nil), ?_⟩
          change wpAnyL _ _ _ _ _ _ _ _ _ (w43'.alloc (.cells zCl.cs.toArray 40))
          generalize w43'.alloc (.cells zCl.cs.toArray 40) = w44' at *
          generalize w43'.heap.size = x14 at *
          go_simp
          refine wpAnyL_one (i := 9) (by kernel_rfl) ?_
          refine wpOp_do rfl rfl ?_
          have Tw46' := hide (show World.there _ x13 0 7 from there_heap (cs := zFi.cs) N1.out)
          refine wp_store_as 31 (.tmp 13) (.tmp 79) rfl x13 0 y.cs (by rfl) (by rfl) (by exact Tw46'.out) (by kernel_rfl) (by simp [Value.oneCell', Fi.cs]) ?_
          intro w46' ew46'
          replace B := hide (show w46'.heap[b]? = some (.cells x.cs.toArray 31 (0, 0)) by rw [ew46']; exact other_heap (by omega) _ _ _ B.out)
          replace N2 := hide (show w46'.heap[x14]? = some (.cells zCl.cs.toArray 40 (0, 0)) by rw [ew46']; exact other_heap (by omega) _ _ _ N2.out)
          replace RY := hide (show Rd w46' w46'.heap.size y.A 7 (y.m.map bxc) by rw [ew46']; exact off_set RY.out O_RY_N1.out _ _)
          replace Q := hide (show Below wr.heap.size wr w46' by rw [ew46']; exact Q.out.trans (below_setCells _ _ _ (by have := Q.out.size; omega)))
          replace N1 := hide (show w46'.heap[x13]? = some (.cells y.cs.toArray 31 (0, 0)) by rw [ew46']; exact whole_heap y.cs (xs := zFi.cs) N1.out rfl)
          clear ew46' Tw46'
          refine ⟨keepsL_all (by kernel_rfl) (by kernel_rfl), ?_⟩
          go_simp
          refine wpAnyL_one (i := 10) (by kernel_rfl) ?_
          refine wpOp_do rfl rfl ?_
          have Tw47' := hide (show World.there _ x14 0 23 from there_heap (cs := zCl.cs) N2.out)
          refine wp_store_as 40 (.tmp 14) (.tmp 80) rfl x14 0 d.cs (by rfl) (by rfl) (by exact Tw47'.out) (by kernel_rfl) (by simp [Value.oneCell', Cl.cs]) ?_
          intro w47' ew47'
          replace B := hide (show w47'.heap[b]? = some (.cells x.cs.toArray 31 (0, 0)) by rw [ew47']; exact other_heap (by omega) _ _ _ B.out)
          replace N1 := hide (show w47'.heap[x13]? = some (.cells y.cs.toArray 31 (0, 0)) by rw [ew47']; exact other_heap (by omega) _ _ _ N1.out)
          replace RY := hide (show Rd w47' w47'.heap.size y.A 7 (y.m.map bxc) by rw [ew47']; exact off_set RY.out O_RY_N2.out _ _)
          replace Q := hide (show Below wr.heap.size wr w47' by rw [ew47']; exact Q.out.trans (below_setCells _ _ _ (by have := Q.out.size; omega)))
          replace N2 := hide (show w47'.heap[x14]? = some (.cells d.cs.toArray 40 (0, 0)) by rw [ew47']; exact whole_heap d.cs (xs := zCl.cs) N2.out rfl)
          clear ew47' Tw47'
          refine ⟨keepsL_all (by kernel_rfl) (by kernel_rfl), ?_⟩
          go_simp
          refine wpAnyL_one (i := 11) (by kernel_rfl) ?_
          refine wpOp_do rfl rfl ?_
          go_simp
          refine ⟨keepsL_all (by kernel_rfl) (by kernel_rfl), ?_⟩
          go_simp
          refine wpAnyL_done (by kernel_rfl) ?_ _
          go_wp2_with fail
          go_meet
          exact ⟨x13, x14, y, d, rfl, rfl, rfl, N1, N2, RY, FY, HY, by omega, by omega, by omega, Q⟩
        · refine wpOp_do rfl rfl ?_
          go_simp
          have N2 := hide (World.alloc_heap_new w42' (.cells zCl.cs.toArray 40))
          have zBx14 : b < w42'.heap.size := heap_lt B.out
          have zN1x14 : x13 < w42'.heap.size := heap_lt N1.out
          have zQx14 : wr.heap.size ≤ w42'.heap.size := Q.out.size
          have q49' : Below w42'.heap.size w42' (w42'.alloc (.cells zCl.cs.toArray 40)) := (Below.refl _ _).alloc (Nat.le_refl _) _
          replace B := hide (heap_below B.out q49')
          replace N1 := hide (heap_below N1.out q49')
          replace Q := hide (below_next Q.out Q.out.size q49')
          clear q49'
          refine ⟨keepsL_mk (by kernel_rfl) (.cons B.out .nil), ?_⟩
          change wpAnyL _ _ _ _ _ _ _ _ _ (w42'.alloc (.cells zCl.cs.toArray 40))
          generalize w42'.alloc (.cells zCl.cs.toArray 40) = w48' at *
          generalize w42'.heap.size = x14 at *
          go_simp
          refine wpAnyL_one (i := 2) (by kernel_rfl) ?_
          refine wpOp_do rfl rfl ?_
          go_simp
          have R1 := hide (CALL.out w48' Q.out)
          have zq := Q.out.size
          (with_reducible refine (R1.out).mono ?_)
          rintro ew50' w50' ⟨y, d, rfl, RY, FRY, HY, qw50'⟩
          have O_RY_B := hide (show Off y.A (y.m.map bxc).length b from off_fresh FRY (heap_lt B.out))
          have O_RY_N1 := hide (show Off y.A (y.m.map bxc).length x13 from off_fresh FRY (heap_lt N1.out))
          have O_RY_N2 := hide (show Off y.A (y.m.map bxc).length x14 from off_fresh FRY (heap_lt N2.out))
          replace B := hide (heap_below B.out qw50')
          replace N1 := hide (heap_below N1.out qw50')
          replace N2 := hide (heap_below N2.out qw50')
          replace Q := hide (below_next Q.out Q.out.size qw50')
          clear qw50'
          replace RY := hide (show Rd w50' w50'.heap.size y.A 7 (y.m.map bxc) from RY)
          replace FRY := hide FRY
          clear R1 CALL
          have FY := hide (show Fresh wr.heap.size y.A from FRY.out.mono zq)
          clear FRY zq
          go_simp
          refine ⟨keepsL_mk (by kernel_rfl) (.cons B.out .nil), ?_⟩
          go_simp
          refine wpAnyL_pure (i := 3) (v := .tuple #[.agg y.cs.toArray, .agg d.cs.toArray, .int .i64 0]) rfl rfl (by kernel_rfl) (by kernel_rfl) (by kernel_rfl) (by kernel_rfl) (by kernel_rfl) (fun _ _ _ h => hQ _ _ _ _ _ h) rfl (fun W => by go_simp) ?_
          go_simp
          refine wpAnyL_pure (i := 4) (v := .agg y.cs.toArray) rfl rfl (by kernel_rfl) (by kernel_rfl) (by kernel_rfl) (by kernel_rfl) (by kernel_rfl) (fun _ _ _ h => hQ _ _ _ _ _ h) rfl (fun W => by go_simp) ?_
          go_simp
          refine wpAnyL_pure (i := 5) (v := .agg d.cs.toArray) rfl rfl (by kernel_rfl) (by kernel_rfl) (by kernel_rfl) (by kernel_rfl) (by kernel_rfl) (fun _ _ _ h => hQ _ _ _ _ _ h) rfl (fun W => by go_simp) ?_
          go_simp
          refine wpAnyL_pure (i := 6) (v := .int .i64 0) rfl rfl (by kernel_rfl) (by kernel_rfl) (by kernel_rfl) (by kernel_rfl) (by kernel_rfl) (fun _ _ _ h => hQ _ _ _ _ _ h) rfl (fun W => by go_simp) ?_
          go_simp
          refine wpAnyL_one (i := 9) (by kernel_rfl) ?_
          refine wpOp_do rfl rfl ?_
          have Tw51' := hide (show World.there _ x13 0 7 from there_heap (cs := zFi.cs) N1.out)
          refine wp_store_as 31 (.tmp 13) (.tmp 79) rfl x13 0 y.cs (by rfl) (by rfl) (by exact Tw51'.out) (by kernel_rfl) (by simp [Value.oneCell', Fi.cs]) ?_
          intro w51' ew51'
          replace B := hide (show w51'.heap[b]? = some (.cells x.cs.toArray 31 (0, 0)) by rw [ew51']; exact other_heap (by omega) _ _ _ B.out)
          replace N2 := hide (show w51'.heap[x14]? = some (.cells zCl.cs.toArray 40 (0, 0)) by rw [ew51']; exact other_heap (by omega) _ _ _ N2.out)
          replace RY := hide (show Rd w51' w51'.heap.size y.A 7 (y.m.map bxc) by rw [ew51']; exact off_set RY.out O_RY_N1.out _ _)
          replace Q := hide (show Below wr.heap.size wr w51' by rw [ew51']; exact Q.out.trans (below_setCells _ _ _ (by have := Q.out.size; omega)))
          replace N1 := hide (show w51'.heap[x13]? = some (.cells y.cs.toArray 31 (0, 0)) by rw [ew51']; exact whole_heap y.cs (xs := zFi.cs) N1.out rfl)
          clear ew51' Tw51'
          refine ⟨keepsL_all (by kernel_rfl) (by kernel_rfl), ?_⟩
          go_simp
          refine wpAnyL_one (i := 10) (by kernel_rfl) ?_
          refine wpOp_do rfl rfl ?_
          have Tw52' := hide (show World.there _ x14 0 23 from there_heap (cs := zCl.cs) N2.out)
          refine wp_store_as 40 (.tmp 14) (.tmp 80) rfl x14 0 d.cs (by rfl) (by rfl) (by exact Tw52'.out) (by kernel_rfl) (by simp [Value.oneCell', Cl.cs]) ?_
          intro w52' ew52'
          replace B := hide (show w52'.heap[b]? = some (.cells x.cs.toArray 31 (0, 0)) by rw [ew52']; exact other_heap (by omega) _ _ _ B.out)
          replace N1 := hide (show w52'.heap[x13]? = some (.cells y.cs.toArray 31 (0, 0)) by rw [ew52']; exact other_heap (by omega) _ _ _ N1.out)
          replace RY := hide (show Rd w52' w52'.heap.size y.A 7 (y.m.map bxc) by rw [ew52']; exact off_set RY.out O_RY_N2.out _ _)
          replace Q := hide (show Below wr.heap.size wr w52' by rw [ew52']; exact Q.out.trans (below_setCells _ _ _ (by have := Q.out.size; omega)))
          replace N2 := hide (show w52'.heap[x14]? = some (.cells d.cs.toArray 40 (0, 0)) by rw [ew52']; exact whole_heap d.cs (xs := zCl.cs) N2.out rfl)
          clear ew52' Tw52'
          refine ⟨keepsL_all (by kernel_rfl) (by kernel_rfl), ?_⟩
          go_simp
          refine wpAnyL_one (i := 11) (by kernel_rfl) ?_
          refine wpOp_do rfl rfl ?_
          go_simp
          refine ⟨keepsL_all (by kernel_rfl) (by kernel_rfl), ?_⟩
          go_simp
          refine wpAnyL_done (by kernel_rfl) ?_ _
          go_wp2_with fail
          go_meet
          exact ⟨x13, x14, y, d, rfl, rfl, rfl, N1, N2, RY, FY, HY, by omega, by omega, by omega, Q⟩
      · refine wpOp_do rfl rfl ?_
        go_simp
        have N2 := hide (World.alloc_heap_new w40' (.cells zCl.cs.toArray 40))
        have zBx14 : b < w40'.heap.size := heap_lt B.out
        have zN1x14 : x13 < w40'.heap.size := heap_lt N1.out
        have zQx14 : wr.heap.size ≤ w40'.heap.size := Q.out.size
        have q54' : Below w40'.heap.size w40' (w40'.alloc (.cells zCl.cs.toArray 40)) := (Below.refl _ _).alloc (Nat.le_refl _) _
        replace B := hide (heap_below B.out q54')
        replace N1 := hide (heap_below N1.out q54')
        replace Q := hide (below_next Q.out Q.out.size q54')
        clear q54'
        refine ⟨keepsL_mk (by kernel_rfl) (.cons B.out .nil), ?_⟩
        change wpAnyL _ _ _ _ _ _ _ _ _ (w40'.alloc (.cells zCl.cs.toArray 40))
        generalize w40'.alloc (.cells zCl.cs.toArray 40) = w53' at *
        generalize w40'.heap.size = x14 at *
        go_simp
        refine wpAnyL_one (i := 1) (by kernel_rfl) ?_
        refine wpOp_do rfl rfl ?_
        go_simp
        (with_reducible refine (NC.out _).mono ?_)
        rintro ew55' w55' ⟨rfl, qw55'⟩
        replace B := hide (heap_below B.out qw55')
        replace N1 := hide (heap_below N1.out qw55')
        replace N2 := hide (heap_below N2.out qw55')
        replace Q := hide (below_next Q.out Q.out.size qw55')
        clear qw55'
        go_simp
        refine ⟨keepsL_mk (by kernel_rfl) (.cons B.out .nil), ?_⟩
        go_simp
        refine wpAnyL_one (i := 2) (by kernel_rfl) ?_
        refine wpOp_do rfl rfl ?_
        go_simp
        have R1 := hide (CALL.out w55' Q.out)
        have zq := Q.out.size
        (with_reducible refine (R1.out).mono ?_)
        rintro ew56' w56' ⟨y, d, rfl, RY, FRY, HY, qw56'⟩
        have O_RY_B := hide (show Off y.A (y.m.map bxc).length b from off_fresh FRY (heap_lt B.out))
        have O_RY_N1 := hide (show Off y.A (y.m.map bxc).length x13 from off_fresh FRY (heap_lt N1.out))
        have O_RY_N2 := hide (show Off y.A (y.m.map bxc).length x14 from off_fresh FRY (heap_lt N2.out))
        replace B := hide (heap_below B.out qw56')
        replace N1 := hide (heap_below N1.out qw56')
        replace N2 := hide (heap_below N2.out qw56')
        replace Q := hide (below_next Q.out Q.out.size qw56')
        clear qw56'
        replace RY := hide (show Rd w56' w56'.heap.size y.A 7 (y.m.map bxc) from RY)
        replace FRY := hide FRY
        clear R1 CALL
        have FY := hide (show Fresh wr.heap.size y.A from FRY.out.mono zq)
        clear FRY zq
        go_simp
        refine ⟨keepsL_mk (by kernel_rfl) (.cons B.out .nil), ?_⟩
        go_simp
        refine wpAnyL_pure (i := 3) (v := .tuple #[.agg y.cs.toArray, .agg d.cs.toArray, .int .i64 0]) rfl rfl (by kernel_rfl) (by kernel_rfl) (by kernel_rfl) (by kernel_rfl) (by kernel_rfl) (fun _ _ _ h => hQ _ _ _ _ _ h) rfl (fun W => by go_simp) ?_
        go_simp
        refine wpAnyL_pure (i := 4) (v := .agg y.cs.toArray) rfl rfl (by kernel_rfl) (by kernel_rfl) (by kernel_rfl) (by kernel_rfl) (by kernel_rfl) (fun _ _ _ h => hQ _ _ _ _ _ h) rfl (fun W => by go_simp) ?_
        go_simp
        refine wpAnyL_pure (i := 5) (v := .agg d.cs.toArray) rfl rfl (by kernel_rfl) (by kernel_rfl) (by kernel_rfl) (by kernel_rfl) (by kernel_rfl) (fun _ _ _ h => hQ _ _ _ _ _ h) rfl (fun W => by go_simp) ?_
        go_simp
        refine wpAnyL_pure (i := 6) (v := .int .i64 0) rfl rfl (by kernel_rfl) (by kernel_rfl) (by kernel_rfl) (by kernel_rfl) (by kernel_rfl) (fun _ _ _ h => hQ _ _ _ _ _ h) rfl (fun W => by go_simp) ?_
        go_simp
        refine wpAnyL_one (i := 9) (by kernel_rfl) ?_
        refine wpOp_do rfl rfl ?_
        have Tw57' := hide (show World.there _ x13 0 7 from there_heap (cs := zFi.cs) N1.out)
        refine wp_store_as 31 (.tmp 13) (.tmp 79) rfl x13 0 y.cs (by rfl) (by rfl) (by exact Tw57'.out) (by kernel_rfl) (by simp [Value.oneCell', Fi.cs]) ?_
        intro w57' ew57'
        replace B := hide (show w57'.heap[b]? = some (.cells x.cs.toArray 31 (0, 0)) by rw [ew57']; exact other_heap (by omega) _ _ _ B.out)
        replace N2 := hide (show w57'.heap[x14]? = some (.cells zCl.cs.toArray 40 (0, 0)) by rw [ew57']; exact other_heap (by omega) _ _ _ N2.out)
        replace RY := hide (show Rd w57' w57'.heap.size y.A 7 (y.m.map bxc) by rw [ew57']; exact off_set RY.out O_RY_N1.out _ _)
        replace Q := hide (show Below wr.heap.size wr w57' by rw [ew57']; exact Q.out.trans (below_setCells _ _ _ (by have := Q.out.size; omega)))
        replace N1 := hide (show w57'.heap[x13]? = some (.cells y.cs.toArray 31 (0, 0)) by rw [ew57']; exact whole_heap y.cs (xs := zFi.cs) N1.out rfl)
        clear ew57' Tw57'
        refine ⟨keepsL_all (by kernel_rfl) (by kernel_rfl), ?_⟩
        go_simp
        refine wpAnyL_one (i := 10) (by kernel_rfl) ?_
        refine wpOp_do rfl rfl ?_
        have Tw58' := hide (show World.there _ x14 0 23 from there_heap (cs := zCl.cs) N2.out)
        refine wp_store_as 40 (.tmp 14) (.tmp 80) rfl x14 0 d.cs (by rfl) (by rfl) (by exact Tw58'.out) (by kernel_rfl) (by simp [Value.oneCell', Cl.cs]) ?_
        intro w58' ew58'
        replace B := hide (show w58'.heap[b]? = some (.cells x.cs.toArray 31 (0, 0)) by rw [ew58']; exact other_heap (by omega) _ _ _ B.out)
        replace N1 := hide (show w58'.heap[x13]? = some (.cells y.cs.toArray 31 (0, 0)) by rw [ew58']; exact other_heap (by omega) _ _ _ N1.out)
        replace RY := hide (show Rd w58' w58'.heap.size y.A 7 (y.m.map bxc) by rw [ew58']; exact off_set RY.out O_RY_N2.out _ _)
        replace Q := hide (show Below wr.heap.size wr w58' by rw [ew58']; exact Q.out.trans (below_setCells _ _ _ (by have := Q.out.size; omega)))
        replace N2 := hide (show w58'.heap[x14]? = some (.cells d.cs.toArray 40 (0, 0)) by rw [ew58']; exact whole_heap d.cs (xs := zCl.cs) N2.out rfl)
        clear ew58' Tw58'
        refine ⟨keepsL_all (by kernel_rfl) (by kernel_rfl), ?_⟩
        go_simp
        refine wpAnyL_one (i := 11) (by kernel_rfl) ?_
        refine wpOp_do rfl rfl ?_
        go_simp
        refine ⟨keepsL_all (by kernel_rfl) (by kernel_rfl), ?_⟩
        go_simp
        refine wpAnyL_done (by kernel_rfl) ?_ _
        go_wp2_with fail
        go_meet
        exact ⟨x13, x14, y, d, rfl, rfl, rfl, N1, N2, RY, FY, HY, by omega, by omega, by omega, Q⟩
    · refine wpOp_do rfl rfl ?_
      go_simp
      have N2 := hide (World.alloc_heap_new w1' (.cells zCl.cs.toArray 40))
      have zBx14 : b < w1'.heap.size := heap_lt B.out
      have zQx14 : wr.heap.size ≤ w1'.heap.size := Q.out.size
      have q60' : Below w1'.heap.size w1' (w1'.alloc (.cells zCl.cs.toArray 40)) := (Below.refl _ _).alloc (Nat.le_refl _) _
      replace B := hide (heap_below B.out q60')
      replace Q := hide (below_next Q.out Q.out.size q60')
      clear q60'
      refine ⟨keepsL_mk (by kernel_rfl) (.cons B.out .nil), ?_⟩
      change wpAnyL _ _ _ _ _ _ _ _ _ (w1'.alloc (.cells zCl.cs.toArray 40))
      generalize w1'.alloc (.cells zCl.cs.toArray 40) = w59' at *
      generalize w1'.heap.size = x14 at *
      go_simp
      refine wpAnyL_two (i := 1) (k := 7) (by kernel_rfl) ?_ ?_
      · refine wpOp_do rfl rfl ?_
        go_simp
        (with_reducible refine (NC.out _).mono ?_)
        rintro ew61' w61' ⟨rfl, qw61'⟩
        replace B := hide (heap_below B.out qw61')
        replace N2 := hide (heap_below N2.out qw61')
        replace Q := hide (below_next Q.out Q.out.size qw61')
        clear qw61'
        go_simp
        refine ⟨keepsL_mk (by kernel_rfl) (.cons B.out .nil), ?_⟩
        go_simp
        refine wpAnyL_two (i := 2) (k := 7) (by kernel_rfl) ?_ ?_
        · refine wpOp_do rfl rfl ?_
          go_simp
          have R1 := hide (CALL.out w61' Q.out)
          have zq := Q.out.size
          (with_reducible refine (R1.out).mono ?_)
          rintro ew62' w62' ⟨y, d, rfl, RY, FRY, HY, qw62'⟩
          have O_RY_B := hide (show Off y.A (y.m.map bxc).length b from off_fresh FRY (heap_lt B.out))
          have O_RY_N2 := hide (show Off y.A (y.m.map bxc).length x14 from off_fresh FRY (heap_lt N2.out))
          replace B := hide (heap_below B.out qw62')
          replace N2 := hide (heap_below N2.out qw62')
          replace Q := hide (below_next Q.out Q.out.size qw62')
          clear qw62'
          replace RY := hide (show Rd w62' w62'.heap.size y.A 7 (y.m.map bxc) from RY)
          replace FRY := hide FRY
          clear R1 CALL
          have FY := hide (show Fresh wr.heap.size y.A from FRY.out.mono zq)
          clear FRY zq
          go_simp
          refine ⟨keepsL_mk (by kernel_rfl) (.cons B.out .nil), ?_⟩
          go_simp
          refine wpAnyL_pure (i := 3) (v := .tuple #[.agg y.cs.toArray, .agg d.cs.toArray, .int .i64 0]) rfl rfl (by kernel_rfl) (by kernel_rfl) (by kernel_rfl) (by kernel_rfl) (by kernel_rfl) (fun _ _ _ h => hQ _ _ _ _ _ h) rfl (fun W => by go_simp) ?_
          go_simp
          refine wpAnyL_pure (i := 4) (v := .agg y.cs.toArray) rfl rfl (by kernel_rfl) (by kernel_rfl) (by kernel_rfl) (by kernel_rfl) (by kernel_rfl) (fun _ _ _ h => hQ _ _ _ _ _ h) rfl (fun W => by go_simp) ?_
          go_simp
          refine wpAnyL_pure (i := 5) (v := .agg d.cs.toArray) rfl rfl (by kernel_rfl) (by kernel_rfl) (by kernel_rfl) (by kernel_rfl) (by kernel_rfl) (fun _ _ _ h => hQ _ _ _ _ _ h) rfl (fun W => by go_simp) ?_
          go_simp
          refine wpAnyL_pure (i := 6) (v := .int .i64 0) rfl rfl (by kernel_rfl) (by kernel_rfl) (by kernel_rfl) (by kernel_rfl) (by kernel_rfl) (fun _ _ _ h => hQ _ _ _ _ _ h) rfl (fun W => by go_simp) ?_
          go_simp
          refine wpAnyL_one (i := 7) (by kernel_rfl) ?_
          refine wpOp_do rfl rfl ?_
          go_simp
          have N1 := hide (World.alloc_heap_new w62' (.cells zFi.cs.toArray 31))
          have zBx13 : b < w62'.heap.size := heap_lt B.out
          have zN2x13 : x14 < w62'.heap.size := heap_lt N2.out
          have O_RY_N1 := hide (off_new (x := w62'.heap.size) RY.out (by omega))
          have zQx13 : wr.heap.size ≤ w62'.heap.size := Q.out.size
          have q64' : Below w62'.heap.size w62' (w62'.alloc (.cells zFi.cs.toArray 31)) := (Below.refl _ _).alloc (Nat.le_refl _) _
          replace B := hide (heap_below B.out q64')
          replace N2 := hide (heap_below N2.out q64')
          replace RY := hide (Rd.next RY.out q64' q64'.size)
          replace Q := hide (below_next Q.out Q.out.size q64')
          clear q64'
          refine ⟨keepsL_mk (by kernel_rfl) (.cons B.out .nil), ?_⟩
          change wpAnyL _ _ _ _ _ _ _ _ _ (w62'.alloc (.cells zFi.cs.toArray 31))
          generalize w62'.alloc (.cells zFi.cs.toArray 31) = w63' at *
          generalize w62'.heap.size = x13 at *
          go_simp
          refine wpAnyL_one (i := 9) (by kernel_rfl) ?_
          refine wpOp_do rfl rfl ?_
          have Tw65' := hide (show World.there _ x13 0 7 from there_heap (cs := zFi.cs) N1.out)
          refine wp_store_as 31 (.tmp 13) (.tmp 79) rfl x13 0 y.cs (by rfl) (by rfl) (by exact Tw65'.out) (by kernel_rfl) (by simp [Value.oneCell', Fi.cs]) ?_
          intro w65' ew65'
          replace B := hide (show w65'.heap[b]? = some (.cells x.cs.toArray 31 (0, 0)) by rw [ew65']; exact other_heap (by omega) _ _ _ B.out)
          replace N2 := hide (show w65'.heap[x14]? = some (.cells zCl.cs.toArray 40 (0, 0)) by rw [ew65']; exact other_heap (by omega) _ _ _ N2.out)
          replace RY := hide (show Rd w65' w65'.heap.size y.A 7 (y.m.map bxc) by rw [ew65']; exact off_set RY.out O_RY_N1.out _ _)
          replace Q := hide (show Below wr.heap.size wr w65' by rw [ew65']; exact Q.out.trans (below_setCells _ _ _ (by have := Q.out.size; omega)))
          replace N1 := hide (show w65'.heap[x13]? = some (.cells y.cs.toArray 31 (0, 0)) by rw [ew65']; exact whole_heap y.cs (xs := zFi.cs) N1.out rfl)
          clear ew65' Tw65'
          refine ⟨keepsL_all (by kernel_rfl) (by kernel_rfl), ?_⟩
          go_simp
          refine wpAnyL_one (i := 10) (by kernel_rfl) ?_
          refine wpOp_do rfl rfl ?_
          have Tw66' := hide (show World.there _ x14 0 23 from there_heap (cs := zCl.cs) N2.out)
          refine wp_store_as 40 (.tmp 14) (.tmp 80) rfl x14 0 d.cs (by rfl) (by rfl) (by exact Tw66'.out) (by kernel_rfl) (by simp [Value.oneCell', Cl.cs]) ?_
          intro w66' ew66'
          replace B := hide (show w66'.heap[b]? = some (.cells x.cs.toArray 31 (0, 0)) by rw [ew66']; exact other_heap (by omega) _ _ _ B.out)
          replace N1 := hide (show w66'.heap[x13]? = some (.cells y.cs.toArray 31 (0, 0)) by rw [ew66']; exact other_heap (by omega) _ _ _ N1.out)
          replace RY := hide (show Rd w66' w66'.heap.size y.A 7 (y.m.map bxc) by rw [ew66']; exact off_set RY.out O_RY_N2.out _ _)
          replace Q := hide (show Below wr.heap.size wr w66' by rw [ew66']; exact Q.out.trans (below_setCells _ _ _ (by have := Q.out.size; omega)))
          replace N2 := hide (show w66'.heap[x14]? = some (.cells d.cs.toArray 40 (0, 0)) by rw [ew66']; exact whole_heap d.cs (xs := zCl.cs) N2.out rfl)
          clear ew66' Tw66'
          refine ⟨keepsL_all (by kernel_rfl) (by kernel_rfl), ?_⟩
          go_simp
          refine wpAnyL_one (i := 11) (by kernel_rfl) ?_
          refine wpOp_do rfl rfl ?_
          go_simp
          refine ⟨keepsL_all (by kernel_rfl) (by kernel_rfl), ?_⟩
          go_simp
          refine wpAnyL_done (by kernel_rfl) ?_ _
          go_wp2_with fail
          go_meet
          exact ⟨x13, x14, y, d, rfl, rfl, rfl, N1, N2, RY, FY, HY, by omega, by omega, by omega, Q⟩
        · refine wpOp_do rfl rfl ?_
          go_simp
          have N1 := hide (World.alloc_heap_new w61' (.cells zFi.cs.toArray 31))
          have zBx13 : b < w61'.heap.size := heap_lt B.out
          have zN2x13 : x14 < w61'.heap.size := heap_lt N2.out
          have zQx13 : wr.heap.size ≤ w61'.heap.size := Q.out.size
          have q68' : Below w61'.heap.size w61' (w61'.alloc (.cells zFi.cs.toArray 31)) := (Below.refl _ _).alloc (Nat.le_refl _) _
          replace B := hide (heap_below B.out q68')
          replace N2 := hide (heap_below N2.out q68')
          replace Q := hide (below_next Q.out Q.out.size q68')
          clear q68'
          refine ⟨keepsL_mk (by kernel_rfl) (.cons B.out .nil), ?_⟩
          change wpAnyL _ _ _ _ _ _ _ _ _ (w61'.alloc (.cells zFi.cs.toArray 31))
          generalize w61'.alloc (.cells zFi.cs.toArray 31) = w67' at *
          generalize w61'.heap.size = x13 at *
          go_simp
          refine wpAnyL_one (i := 2) (by kernel_rfl) ?_
          refine wpOp_do rfl rfl ?_
          go_simp
          have R1 := hide (CALL.out w67' Q.out)
          have zq := Q.out.size
          (with_reducible refine (R1.out).mono ?_)
          rintro ew69' w69' ⟨y, d, rfl, RY, FRY, HY, qw69'⟩
          have O_RY_B := hide (show Off y.A (y.m.map bxc).length b from off_fresh FRY (heap_lt B.out))
          have O_RY_N2 := hide (show Off y.A (y.m.map bxc).length x14 from off_fresh FRY (heap_lt N2.out))
          have O_RY_N1 := hide (show Off y.A (y.m.map bxc).length x13 from off_fresh FRY (heap_lt N1.out))
          replace B := hide (heap_below B.out qw69')
          replace N2 := hide (heap_below N2.out qw69')
          replace N1 := hide (heap_below N1.out qw69')
          replace Q := hide (below_next Q.out Q.out.size qw69')
          clear qw69'
          replace RY := hide (show Rd w69' w69'.heap.size y.A 7 (y.m.map bxc) from RY)
          replace FRY := hide FRY
          clear R1 CALL
          have FY := hide (show Fresh wr.heap.size y.A from FRY.out.mono zq)
          clear FRY zq
          go_simp
          refine ⟨keepsL_mk (by kernel_rfl) (.cons B.out .nil), ?_⟩
          go_simp
          refine wpAnyL_pure (i := 3) (v := .tuple #[.agg y.cs.toArray, .agg d.cs.toArray, .int .i64 0]) rfl rfl (by kernel_rfl) (by kernel_rfl) (by kernel_rfl) (by kernel_rfl) (by kernel_rfl) (fun _ _ _ h => hQ _ _ _ _ _ h) rfl (fun W => by go_simp) ?_
          go_simp
          refine wpAnyL_pure (i := 4) (v := .agg y.cs.toArray) rfl rfl (by kernel_rfl) (by kernel_rfl) (by kernel_rfl) (by kernel_rfl) (by kernel_rfl) (fun _ _ _ h => hQ _ _ _ _ _ h) rfl (fun W => by go_simp) ?_
          go_simp
          refine wpAnyL_pure (i := 5) (v := .agg d.cs.toArray) rfl rfl (by kernel_rfl) (by kernel_rfl) (by kernel_rfl) (by kernel_rfl) (by kernel_rfl) (fun _ _ _ h => hQ _ _ _ _ _ h) rfl (fun W => by go_simp) ?_
          go_simp
          refine wpAnyL_pure (i := 6) (v := .int .i64 0) rfl rfl (by kernel_rfl) (by kernel_rfl) (by kernel_rfl) (by kernel_rfl) (by kernel_rfl) (fun _ _ _ h => hQ _ _ _ _ _ h) rfl (fun W => by go_simp) ?_
          go_simp
          refine wpAnyL_one (i := 9) (by kernel_rfl) ?_
          refine wpOp_do rfl rfl ?_
          have Tw70' := hide (show World.there _ x13 0 7 from there_heap (cs := zFi.cs) N1.out)
          refine wp_store_as 31 (.tmp 13) (.tmp 79) rfl x13 0 y.cs (by rfl) (by rfl) (by exact Tw70'.out) (by kernel_rfl) (by simp [Value.oneCell', Fi.cs]) ?_
          intro w70' ew70'
          replace B := hide (show w70'.heap[b]? = some (.cells x.cs.toArray 31 (0, 0)) by rw [ew70']; exact other_heap (by omega) _ _ _ B.out)
          replace N2 := hide (show w70'.heap[x14]? = some (.cells zCl.cs.toArray 40 (0, 0)) by rw [ew70']; exact other_heap (by omega) _ _ _ N2.out)
          replace RY := hide (show Rd w70' w70'.heap.size y.A 7 (y.m.map bxc) by rw [ew70']; exact off_set RY.out O_RY_N1.out _ _)
          replace Q := hide (show Below wr.heap.size wr w70' by rw [ew70']; exact Q.out.trans (below_setCells _ _ _ (by have := Q.out.size; omega)))
          replace N1 := hide (show w70'.heap[x13]? = some (.cells y.cs.toArray 31 (0, 0)) by rw [ew70']; exact whole_heap y.cs (xs := zFi.cs) N1.out rfl)
          clear ew70' Tw70'
          refine ⟨keepsL_all (by kernel_rfl) (by kernel_rfl), ?_⟩
          go_simp
          refine wpAnyL_one (i := 10) (by kernel_rfl) ?_
          refine wpOp_do rfl rfl ?_
          have Tw71' := hide (show World.there _ x14 0 23 from there_heap (cs := zCl.cs) N2.out)
          refine wp_store_as 40 (.tmp 14) (.tmp 80) rfl x14 0 d.cs (by rfl) (by rfl) (by exact Tw71'.out) (by kernel_rfl) (by simp [Value.oneCell', Cl.cs]) ?_
          intro w71' ew71'
          replace B := hide (show w71'.heap[b]? = some (.cells x.cs.toArray 31 (0, 0)) by rw [ew71']; exact other_heap (by omega) _ _ _ B.out)
          replace N1 := hide (show w71'.heap[x13]? = some (.cells y.cs.toArray 31 (0, 0)) by rw [ew71']; exact other_heap (by omega) _ _ _ N1.out)
          replace RY := hide (show Rd w71' w71'.heap.size y.A 7 (y.m.map bxc) by rw [ew71']; exact off_set RY.out O_RY_N2.out _ _)
          replace Q := hide (show Below wr.heap.size wr w71' by rw [ew71']; exact Q.out.trans (below_setCells _ _ _ (by have := Q.out.size; omega)))
          replace N2 := hide (show w71'.heap[x14]? = some (.cells d.cs.toArray 40 (0, 0)) by rw [ew71']; exact whole_heap d.cs (xs := zCl.cs) N2.out rfl)
          clear ew71' Tw71'
          refine ⟨keepsL_all (by kernel_rfl) (by kernel_rfl), ?_⟩
          go_simp
          refine wpAnyL_one (i := 11) (by kernel_rfl) ?_
          refine wpOp_do rfl rfl ?_
          go_simp
          refine ⟨keepsL_all (by kernel_rfl) (by kernel_rfl), ?_⟩
          go_simp
          refine wpAnyL_done (by kernel_rfl) ?_ _
          go_wp2_with fail
          go_meet
          exact ⟨x13, x14, y, d, rfl, rfl, rfl, N1, N2, RY, FY, HY, by omega, by omega, by omega, Q⟩
      · refine wpOp_do rfl rfl ?_
        go_simp
        have N1 := hide (World.alloc_heap_new w59' (.cells zFi.cs.toArray 31))
        have zBx13 : b < w59'.heap.size := heap_lt B.out
        have zN2x13 : x14 < w59'.heap.size := heap_lt N2.out
        have zQx13 : wr.heap.size ≤ w59'.heap.size := Q.out.size
        have q73' : Below w59'.heap.size w59' (w59'.alloc (.cells zFi.cs.toArray 31)) := (Below.refl _ _).alloc (Nat.le_refl _) _
        replace B := hide (heap_below B.out q73')
        replace N2 := hide (heap_below N2.out q73')
        replace Q := hide (below_next Q.out Q.out.size q73')
        clear q73'
        refine ⟨keepsL_mk (by kernel_rfl) (.cons B.out .nil), ?_⟩
        change wpAnyL _ _ _ _ _ _ _ _ _ (w59'.alloc (.cells zFi.cs.toArray 31))
        generalize w59'.alloc (.cells zFi.cs.toArray 31) = w72' at *
        generalize w59'.heap.size = x13 at *
        go_simp
        refine wpAnyL_one (i := 1) (by kernel_rfl) ?_
        refine wpOp_do rfl rfl ?_
        go_simp
        (with_reducible refine (NC.out _).mono ?_)
        rintro ew74' w74' ⟨rfl, qw74'⟩
        replace B := hide (heap_below B.out qw74')
        replace N2 := hide (heap_below N2.out qw74')
        replace N1 := hide (heap_below N1.out qw74')
        replace Q := hide (below_next Q.out Q.out.size qw74')
        clear qw74'
        go_simp
        refine ⟨keepsL_mk (by kernel_rfl) (.cons B.out .nil), ?_⟩
        go_simp
        refine wpAnyL_one (i := 2) (by kernel_rfl) ?_
        refine wpOp_do rfl rfl ?_
        go_simp
        have R1 := hide (CALL.out w74' Q.out)
        have zq := Q.out.size
        (with_reducible refine (R1.out).mono ?_)
        rintro ew75' w75' ⟨y, d, rfl, RY, FRY, HY, qw75'⟩
        have O_RY_B := hide (show Off y.A (y.m.map bxc).length b from off_fresh FRY (heap_lt B.out))
        have O_RY_N2 := hide (show Off y.A (y.m.map bxc).length x14 from off_fresh FRY (heap_lt N2.out))
        have O_RY_N1 := hide (show Off y.A (y.m.map bxc).length x13 from off_fresh FRY (heap_lt N1.out))
        replace B := hide (heap_below B.out qw75')
        replace N2 := hide (heap_below N2.out qw75')
        replace N1 := hide (heap_below N1.out qw75')
        replace Q := hide (below_next Q.out Q.out.size qw75')
        clear qw75'
        replace RY := hide (show Rd w75' w75'.heap.size y.A 7 (y.m.map bxc) from RY)
        replace FRY := hide FRY
        clear R1 CALL
        have FY := hide (show Fresh wr.heap.size y.A from FRY.out.mono zq)
        clear FRY zq
        go_simp
        refine ⟨keepsL_mk (by kernel_rfl) (.cons B.out .nil), ?_⟩
        go_simp
        refine wpAnyL_pure (i := 3) (v := .tuple #[.agg y.cs.toArray, .agg d.cs.toArray, .int .i64 0]) rfl rfl (by kernel_rfl) (by kernel_rfl) (by kernel_rfl) (by kernel_rfl) (by kernel_rfl) (fun _ _ _ h => hQ _ _ _ _ _ h) rfl (fun W => by go_simp) ?_
        go_simp
        refine wpAnyL_pure (i := 4) (v := .agg y.cs.toArray) rfl rfl (by kernel_rfl) (by kernel_rfl) (by kernel_rfl) (by kernel_rfl) (by kernel_rfl) (fun _ _ _ h => hQ _ _ _ _ _ h) rfl (fun W => by go_simp) ?_
        go_simp
        refine wpAnyL_pure (i := 5) (v := .agg d.cs.toArray) rfl rfl (by kernel_rfl) (by kernel_rfl) (by kernel_rfl) (by kernel_rfl) (by kernel_rfl) (fun _ _ _ h => hQ _ _ _ _ _ h) rfl (fun W => by go_simp) ?_
        go_simp
        refine wpAnyL_pure (i := 6) (v := .int .i64 0) rfl rfl (by kernel_rfl) (by kernel_rfl) (by kernel_rfl) (by kernel_rfl) (by kernel_rfl) (fun _ _ _ h => hQ _ _ _ _ _ h) rfl (fun W => by go_simp) ?_
        go_simp
        refine wpAnyL_one (i := 9) (by kernel_rfl) ?_
        refine wpOp_do rfl rfl ?_
        have Tw76' := hide (show World.there _ x13 0 7 from there_heap (cs := zFi.cs) N1.out)
        refine wp_store_as 31 (.tmp 13) (.tmp 79) rfl x13 0 y.cs (by rfl) (by rfl) (by exact Tw76'.out) (by kernel_rfl) (by simp [Value.oneCell', Fi.cs]) ?_
        intro w76' ew76'
        replace B := hide (show w76'.heap[b]? = some (.cells x.cs.toArray 31 (0, 0)) by rw [ew76']; exact other_heap (by omega) _ _ _ B.out)
        replace N2 := hide (show w76'.heap[x14]? = some (.cells zCl.cs.toArray 40 (0, 0)) by rw [ew76']; exact other_heap (by omega) _ _ _ N2.out)
        replace RY := hide (show Rd w76' w76'.heap.size y.A 7 (y.m.map bxc) by rw [ew76']; exact off_set RY.out O_RY_N1.out _ _)
        replace Q := hide (show Below wr.heap.size wr w76' by rw [ew76']; exact Q.out.trans (below_setCells _ _ _ (by have := Q.out.size; omega)))
        replace N1 := hide (show w76'.heap[x13]? = some (.cells y.cs.toArray 31 (0, 0)) by rw [ew76']; exact whole_heap y.cs (xs := zFi.cs) N1.out rfl)
        clear ew76' Tw76'
        refine ⟨keepsL_all (by kernel_rfl) (by kernel_rfl), ?_⟩
        go_simp
        refine wpAnyL_one (i := 10) (by kernel_rfl) ?_
        refine wpOp_do rfl rfl ?_
        have Tw77' := hide (show World.there _ x14 0 23 from there_heap (cs := zCl.cs) N2.out)
        refine wp_store_as 40 (.tmp 14) (.tmp 80) rfl x14 0 d.cs (by rfl) (by rfl) (by exact Tw77'.out) (by kernel_rfl) (by simp [Value.oneCell', Cl.cs]) ?_
        intro w77' ew77'
        replace B := hide (show w77'.heap[b]? = some (.cells x.cs.toArray 31 (0, 0)) by rw [ew77']; exact other_heap (by omega) _ _ _ B.out)
        replace N1 := hide (show w77'.heap[x13]? = some (.cells y.cs.toArray 31 (0, 0)) by rw [ew77']; exact other_heap (by omega) _ _ _ N1.out)
        replace RY := hide (show Rd w77' w77'.heap.size y.A 7 (y.m.map bxc) by rw [ew77']; exact off_set RY.out O_RY_N2.out _ _)
        replace Q := hide (show Below wr.heap.size wr w77' by rw [ew77']; exact Q.out.trans (below_setCells _ _ _ (by have := Q.out.size; omega)))
        replace N2 := hide (show w77'.heap[x14]? = some (.cells d.cs.toArray 40 (0, 0)) by rw [ew77']; exact whole_heap d.cs (xs := zCl.cs) N2.out rfl)
        clear ew77' Tw77'
        refine ⟨keepsL_all (by kernel_rfl) (by kernel_rfl), ?_⟩
        go_simp
        refine wpAnyL_one (i := 11) (by kernel_rfl) ?_
        refine wpOp_do rfl rfl ?_
        go_simp
        refine ⟨keepsL_all (by kernel_rfl) (by kernel_rfl), ?_⟩
        go_simp
        refine wpAnyL_done (by kernel_rfl) ?_ _
        go_wp2_with fail
        go_meet
        exact ⟨x13, x14, y, d, rfl, rfl, rfl, N1, N2, RY, FY, HY, by omega, by omega, by omega, Q⟩

set_option maxRecDepth 100000 in
set_option maxHeartbeats 32000000 in
theorem canifOne_r11 (wr : World) (b : Nat) (x : Fi) {sl0 sl1 sl2 sl3 sl4 sl5 sl6 sl7 sl8 sl9 sl10 sl11 sl12 sl14 sl15 sl16 sl17 sl18 sl19 sl20 sl21 sl22 sl23 sl24 sl25 sl26 sl27 sl28 sl29 sl30 sl31 sl32 sl33 sl34 sl35 sl36 sl37 sl38 sl39 sl40 sl41 sl42 sl43 sl44 sl45 sl46 sl47 sl48 sl49 sl50 sl51 sl52 sl53 sl54 sl55 sl56 sl57 sl58 sl59 sl60 sl61 sl62 sl63 sl64 sl65 sl66 sl67 sl68 sl69 sl70 sl71 sl72 sl73 sl74 sl75 sl76 sl77 sl78 sl79 sl80 sl81 sl82 sl83 sl84 sl85 sl86 sl87 sl88 sl89 sl90 sl91 sl92 sl93 sl94 sl95 sl96 sl97 sl98 sl99 sl100 sl101 sl102 sl103 sl104 sl105 sl106 sl107 sl108 sl109 sl110 sl111 sl112 sl113 sl114 sl115 sl116 sl117 sl118 sl119 sl120 sl121 sl122 sl123 sl124 sl125 sl126 sl127 sl128 sl129 sl130 sl131 sl132 sl133 sl134 sl135 sl136 sl137 sl138 sl139 sl140 sl141 sl142 sl143 sl144 sl145 sl146 sl147 sl148 sl149 sl150 sl151 sl152 sl153 sl154 sl155 sl156 sl157 sl158 sl159 sl160 sl161 sl162 sl163 sl164 sl165 sl166 sl167 sl168 sl169 : Value} {K' : Act → World → Prop} {Q' : Exit → Act → World → Prop} {Cd : Code} (hC : Cd = partC Tryd.f3.body (isRegion 11))
    (CALL : Hid (∀ W, Below wr.heap.size wr W → Calls Tryd.prog 8 #[.agg x.cs.toArray, .agg zCl.cs.toArray] W fun e w' => e = .returned (.tuple #[.agg x.cs.toArray, .agg zCl.cs.toArray, .int .i64 0]) ∧ Below W.heap.size W w'))
    (B : Hid (wr.heap[b]? = some (.cells x.cs.toArray 31 (0, 0))))
    (hQ : ∀ c (a : Act) d v w, Q' (.panic c) (a.put d v) w → Q' (.panic c) a w)
    (hK : ∀ (v19 v20 v21 v89 v90 v91 v92 v93 v94 v95 : Value) (W' : World), (fun vx vc ve W => ∃ (k1 k2 : Nat), vx = .pointer (some ⟨k1, 0, none⟩) ∧ vc = .pointer (some ⟨k2, 0, none⟩) ∧ ve = .int .i64 0 ∧ Hid (W.heap[k1]? = some (.cells x.cs.toArray 31 (0, 0))) ∧ Hid (W.heap[k2]? = some (.cells zCl.cs.toArray 40 (0, 0))) ∧ wr.heap.size ≤ k1 ∧ wr.heap.size ≤ k2 ∧ k1 ≠ k2 ∧ Hid (Below wr.heap.size wr W)) v19 v20 v21 W' → K' ⟨List.toArray (sl0 :: sl1 :: sl2 :: sl3 :: sl4 :: sl5 :: sl6 :: sl7 :: sl8 :: sl9 :: sl10 :: sl11 :: sl12 :: (.pointer (some ⟨b, 0, none⟩)) :: sl14 :: sl15 :: sl16 :: sl17 :: sl18 :: v19 :: v20 :: v21 :: sl22 :: sl23 :: sl24 :: sl25 :: sl26 :: sl27 :: sl28 :: sl29 :: sl30 :: sl31 :: sl32 :: sl33 :: sl34 :: sl35 :: sl36 :: sl37 :: sl38 :: sl39 :: sl40 :: sl41 :: sl42 :: sl43 :: sl44 :: sl45 :: sl46 :: sl47 :: sl48 :: sl49 :: sl50 :: sl51 :: sl52 :: sl53 :: sl54 :: sl55 :: sl56 :: sl57 :: sl58 :: sl59 :: sl60 :: sl61 :: sl62 :: sl63 :: sl64 :: sl65 :: sl66 :: sl67 :: sl68 :: sl69 :: sl70 :: sl71 :: sl72 :: sl73 :: sl74 :: sl75 :: sl76 :: sl77 :: sl78 :: sl79 :: sl80 :: sl81 :: sl82 :: sl83 :: sl84 :: sl85 :: sl86 :: sl87 :: sl88 :: v89 :: v90 :: v91 :: v92 :: v93 :: v94 :: v95 :: sl96 :: sl97 :: sl98 :: sl99 :: sl100 :: sl101 :: sl102 :: sl103 :: sl104 :: sl105 :: sl106 :: sl107 :: sl108 :: sl109 :: sl110 :: sl111 :: sl112 :: sl113 :: sl114 :: sl115 :: sl116 :: sl117 :: sl118 :: sl119 :: sl120 :: sl121 :: sl122 :: sl123 :: sl124 :: sl125 :: sl126 :: sl127 :: sl128 :: sl129 :: sl130 :: sl131 :: sl132 :: sl133 :: sl134 :: sl135 :: sl136 :: sl137 :: sl138 :: sl139 :: sl140 :: sl141 :: sl142 :: sl143 :: sl144 :: sl145 :: sl146 :: sl147 :: sl148 :: sl149 :: sl150 :: sl151 :: sl152 :: sl153 :: sl154 :: sl155 :: sl156 :: sl157 :: sl158 :: sl159 :: sl160 :: sl161 :: sl162 :: sl163 :: sl164 :: sl165 :: sl166 :: sl167 :: sl168 :: sl169 :: []), []⟩ W') :
    Cd.wp Tryd.prog (Exit.then K' Q') ⟨List.toArray (sl0 :: sl1 :: sl2 :: sl3 :: sl4 :: sl5 :: sl6 :: sl7 :: sl8 :: sl9 :: sl10 :: sl11 :: sl12 :: (.pointer (some ⟨b, 0, none⟩)) :: sl14 :: sl15 :: sl16 :: sl17 :: sl18 :: sl19 :: sl20 :: sl21 :: sl22 :: sl23 :: sl24 :: sl25 :: sl26 :: sl27 :: sl28 :: sl29 :: sl30 :: sl31 :: sl32 :: sl33 :: sl34 :: sl35 :: sl36 :: sl37 :: sl38 :: sl39 :: sl40 :: sl41 :: sl42 :: sl43 :: sl44 :: sl45 :: sl46 :: sl47 :: sl48 :: sl49 :: sl50 :: sl51 :: sl52 :: sl53 :: sl54 :: sl55 :: sl56 :: sl57 :: sl58 :: sl59 :: sl60 :: sl61 :: sl62 :: sl63 :: sl64 :: sl65 :: sl66 :: sl67 :: sl68 :: sl69 :: sl70 :: sl71 :: sl72 :: sl73 :: sl74 :: sl75 :: sl76 :: sl77 :: sl78 :: sl79 :: sl80 :: sl81 :: sl82 :: sl83 :: sl84 :: sl85 :: sl86 :: sl87 :: sl88 :: sl89 :: sl90 :: sl91 :: sl92 :: sl93 :: sl94 :: sl95 :: sl96 :: sl97 :: sl98 :: sl99 :: sl100 :: sl101 :: sl102 :: sl103 :: sl104 :: sl105 :: sl106 :: sl107 :: sl108 :: sl109 :: sl110 :: sl111 :: sl112 :: sl113 :: sl114 :: sl115 :: sl116 :: sl117 :: sl118 :: sl119 :: sl120 :: sl121 :: sl122 :: sl123 :: sl124 :: sl125 :: sl126 :: sl127 :: sl128 :: sl129 :: sl130 :: sl131 :: sl132 :: sl133 :: sl134 :: sl135 :: sl136 :: sl137 :: sl138 :: sl139 :: sl140 :: sl141 :: sl142 :: sl143 :: sl144 :: sl145 :: sl146 :: sl147 :: sl148 :: sl149 :: sl150 :: sl151 :: sl152 :: sl153 :: sl154 :: sl155 :: sl156 :: sl157 :: sl158 :: sl159 :: sl160 :: sl161 :: sl162 :: sl163 :: sl164 :: sl165 :: sl166 :: sl167 :: sl168 :: sl169 :: []), []⟩ wr := by
  subst hC
  conv => arg 2; whnf
  go_cut [19, 20, 21] from 99999 (fun vx vc ve W => ∃ (k1 k2 : Nat), vx = .pointer (some ⟨k1, 0, none⟩) ∧ vc = .pointer (some ⟨k2, 0, none⟩) ∧ ve = .int .i64 0 ∧ Hid (W.heap[k1]? = some (.cells x.cs.toArray 31 (0, 0))) ∧ Hid (W.heap[k2]? = some (.cells zCl.cs.toArray 40 (0, 0))) ∧ wr.heap.size ≤ k1 ∧ wr.heap.size ≤ k2 ∧ k1 ≠ k2 ∧ Hid (Below wr.heap.size wr W))
  case rest => exact hK _ _ _ _ _ _ _ _ _ _ _ hcut
  case first =>
    clear hK
    have NC := hide (fun W => ctlNew_any W)
    have Q := hide (Below.refl wr.heap.size wr)
    refine wp_region_L [0, 3, 4, 5, 6] [(0, fun W => W.heap[b]? = some (.cells x.cs.toArray 31 (0, 0)))] (by kernel_rfl) ?_
    replace B := hide (show wr.drew.heap[b]? = some (.cells x.cs.toArray 31 (0, 0)) from B.out)
    replace Q := hide (show Below wr.heap.size wr wr.drew from Q.out.drew)
    generalize wr.drew = w1' at *
    refine wpAnyL_load (i := 0) (v := .agg x.cs.toArray) rfl rfl (by kernel_rfl) (by kernel_rfl) (by kernel_rfl) (by kernel_rfl) (by kernel_rfl) (fun _ _ _ h => hQ _ _ _ _ _ h) rfl (fun W h => exec_heap W b 31 x.cs _ h Tryd.underlying31 rfl (by kernel_rfl) _ _ (.tmp 13) (by rfl) (by rfl)) (B.out) ?_
    go_simp
    refine wpAnyL_three (i := 1) (k := 7) (m := 8) (by kernel_rfl) ?_ ?_ ?_
    · refine wpOp_do rfl rfl ?_
      go_simp
      (with_reducible refine (NC.out _).mono ?_)
      rintro ew2' w2' ⟨rfl, qw2'⟩
      replace B := hide (heap_below B.out qw2')
      replace Q := hide (below_next Q.out Q.out.size qw2')
      clear qw2'
      go_simp
      refine ⟨keepsL_mk (by kernel_rfl) (.cons B.out .nil), ?_⟩
      go_simp
      refine wpAnyL_three (i := 2) (k := 7) (m := 8) (by kernel_rfl) ?_ ?_ ?_
      · refine wpOp_do rfl rfl ?_
        go_simp
        have R1 := hide (CALL.out w2' Q.out)
        (with_reducible refine (R1.out).mono ?_)
        rintro ew3' w3' ⟨rfl, qw3'⟩
        replace B := hide (heap_below B.out qw3')
        replace Q := hide (below_next Q.out Q.out.size qw3')
        clear qw3'
        clear R1
        clear CALL
        go_simp
        refine ⟨keepsL_mk (by kernel_rfl) (.cons B.out .nil), ?_⟩
        go_simp
        refine wpAnyL_pure (i := 3) (v := .tuple #[.agg x.cs.toArray, .agg zCl.cs.toArray, .int .i64 0]) rfl rfl (by kernel_rfl) (by kernel_rfl) (by kernel_rfl) (by kernel_rfl) (by kernel_rfl) (fun _ _ _ h => hQ _ _ _ _ _ h) rfl (fun W => by go_simp) ?_
        go_simp
        refine wpAnyL_pure (i := 4) (v := .agg x.cs.toArray) rfl rfl (by kernel_rfl) (by kernel_rfl) (by kernel_rfl) (by kernel_rfl) (by kernel_rfl) (fun _ _ _ h => hQ _ _ _ _ _ h) rfl (fun W => by go_simp) ?_
        go_simp
        refine wpAnyL_pure (i := 5) (v := .agg zCl.cs.toArray) rfl rfl (by kernel_rfl) (by kernel_rfl) (by kernel_rfl) (by kernel_rfl) (by kernel_rfl) (fun _ _ _ h => hQ _ _ _ _ _ h) rfl (fun W => by go_simp) ?_
        go_simp
        refine wpAnyL_pure (i := 6) (v := .int .i64 0) rfl rfl (by kernel_rfl) (by kernel_rfl) (by kernel_rfl) (by kernel_rfl) (by kernel_rfl) (fun _ _ _ h => hQ _ _ _ _ _ h) rfl (fun W => by go_simp) ?_
        go_simp
        refine wpAnyL_two (i := 7) (k := 8) (by kernel_rfl) ?_ ?_
        · refine wpOp_do rfl rfl ?_
          go_simp
          have N1 := hide (World.alloc_heap_new w3' (.cells zFi.cs.toArray 31))
          have zBx19 : b < w3'.heap.size := heap_lt B.out
          have zQx19 : wr.heap.size ≤ w3'.heap.size := Q.out.size
          have q5' : Below w3'.heap.size w3' (w3'.alloc (.cells zFi.cs.toArray 31)) := (Below.refl _ _).alloc (Nat.le_refl _) _
          replace B := hide (heap_below B.out q5')
          replace Q := hide (below_next Q.out Q.out.size q5')
          clear q5'
          refine ⟨keepsL_mk (by kernel_rfl) (.cons B.out .nil), ?_⟩
          change wpAnyL _ _ _ _ _ _ _ _ _ (w3'.alloc (.cells zFi.cs.toArray 31))
          generalize w3'.alloc (.cells zFi.cs.toArray 31) = w4' at *
          generalize w3'.heap.size = x19 at *
          go_simp
          refine wpAnyL_one (i := 8) (by kernel_rfl) ?_
          refine wpOp_do rfl rfl ?_
          go_simp
          have N2 := hide (World.alloc_heap_new w4' (.cells zCl.cs.toArray 40))
          have zBx20 : b < w4'.heap.size := heap_lt B.out
          have zN1x20 : x19 < w4'.heap.size := heap_lt N1.out
          have zQx20 : wr.heap.size ≤ w4'.heap.size := Q.out.size
          have q7' : Below w4'.heap.size w4' (w4'.alloc (.cells zCl.cs.toArray 40)) := (Below.refl _ _).alloc (Nat.le_refl _) _
          replace B := hide (heap_below B.out q7')
          replace N1 := hide (heap_below N1.out q7')
          replace Q := hide (below_next Q.out Q.out.size q7')
          clear q7'
          refine ⟨keepsL_mk (by kernel_rfl) (.cons B.out .nil), ?_⟩
          change wpAnyL _ _ _ _ _ _ _ _ _ (w4'.alloc (.cells zCl.cs.toArray 40))
          generalize w4'.alloc (.cells zCl.cs.toArray 40) = w6' at *
          generalize w4'.heap.size = x20 at *
          go_simp
          refine wpAnyL_one (i := 9) (by kernel_rfl) ?_
          refine wpOp_do rfl rfl ?_
          have Tw8' := hide (show World.there _ x19 0 7 from there_heap (cs := zFi.cs) N1.out)
          refine wp_store_as 31 (.tmp 19) (.tmp 93) rfl x19 0 x.cs (by rfl) (by rfl) (by exact Tw8'.out) (by kernel_rfl) (by simp [Value.oneCell', Fi.cs]) ?_
          intro w8' ew8'
          replace B := hide (show w8'.heap[b]? = some (.cells x.cs.toArray 31 (0, 0)) by rw [ew8']; exact other_heap (by omega) _ _ _ B.out)
          replace N2 := hide (show w8'.heap[x20]? = some (.cells zCl.cs.toArray 40 (0, 0)) by rw [ew8']; exact other_heap (by omega) _ _ _ N2.out)
          replace Q := hide (show Below wr.heap.size wr w8' by rw [ew8']; exact Q.out.trans (below_setCells _ _ _ (by have := Q.out.size; omega)))
          replace N1 := hide (show w8'.heap[x19]? = some (.cells x.cs.toArray 31 (0, 0)) by rw [ew8']; exact whole_heap x.cs (xs := zFi.cs) N1.out rfl)
          clear ew8' Tw8'
          refine ⟨keepsL_all (by kernel_rfl) (by kernel_rfl), ?_⟩
          go_simp
          refine wpAnyL_one (i := 10) (by kernel_rfl) ?_
          refine wpOp_do rfl rfl ?_
          have Tw9' := hide (show World.there _ x20 0 23 from there_heap (cs := zCl.cs) N2.out)
          refine wp_store_as 40 (.tmp 20) (.tmp 94) rfl x20 0 zCl.cs (by rfl) (by rfl) (by exact Tw9'.out) (by kernel_rfl) (by simp [Value.oneCell', Cl.cs]) ?_
          intro w9' ew9'
          replace B := hide (show w9'.heap[b]? = some (.cells x.cs.toArray 31 (0, 0)) by rw [ew9']; exact other_heap (by omega) _ _ _ B.out)
          replace N1 := hide (show w9'.heap[x19]? = some (.cells x.cs.toArray 31 (0, 0)) by rw [ew9']; exact other_heap (by omega) _ _ _ N1.out)
          replace Q := hide (show Below wr.heap.size wr w9' by rw [ew9']; exact Q.out.trans (below_setCells _ _ _ (by have := Q.out.size; omega)))
          replace N2 := hide (show w9'.heap[x20]? = some (.cells zCl.cs.toArray 40 (0, 0)) by rw [ew9']; exact whole_heap zCl.cs (xs := zCl.cs) N2.out rfl)
          clear ew9' Tw9'
          refine ⟨keepsL_all (by kernel_rfl) (by kernel_rfl), ?_⟩
          go_simp
          refine wpAnyL_one (i := 11) (by kernel_rfl) ?_
          refine wpOp_do rfl rfl ?_
          go_simp
          refine ⟨keepsL_all (by kernel_rfl) (by kernel_rfl), ?_⟩
          go_simp
          refine wpAnyL_done (by kernel_rfl) ?_ _
          go_wp2_with fail
          go_meet
          exact ⟨x19, x20, rfl, rfl, rfl, N1, N2, by omega, by omega, by omega, Q⟩
        · refine wpOp_do rfl rfl ?_
          go_simp
          have N2 := hide (World.alloc_heap_new w3' (.cells zCl.cs.toArray 40))
          have zBx20 : b < w3'.heap.size := heap_lt B.out
          have zQx20 : wr.heap.size ≤ w3'.heap.size := Q.out.size
          have q11' : Below w3'.heap.size w3' (w3'.alloc (.cells zCl.cs.toArray 40)) := (Below.refl _ _).alloc (Nat.le_refl _) _
          replace B := hide (heap_below B.out q11')
          replace Q := hide (below_next Q.out Q.out.size q11')
          clear q11'
          refine ⟨keepsL_mk (by kernel_rfl) (.cons B.out .nil), ?_⟩
          change wpAnyL _ _ _ _ _ _ _ _ _ (w3'.alloc (.cells zCl.cs.toArray 40))
          generalize w3'.alloc (.cells zCl.cs.toArray 40) = w10' at *
          generalize w3'.heap.size = x20 at *
          go_simp
          refine wpAnyL_one (i := 7) (by kernel_rfl) ?_
          refine wpOp_do rfl rfl ?_
          go_simp
          have N1 := hide (World.alloc_heap_new w10' (.cells zFi.cs.toArray 31))
          have zBx19 : b < w10'.heap.size := heap_lt B.out
          have zN2x19 : x20 < w10'.heap.size := heap_lt N2.out
          have zQx19 : wr.heap.size ≤ w10'.heap.size := Q.out.size
          have q13' : Below w10'.heap.size w10' (w10'.alloc (.cells zFi.cs.toArray 31)) := (Below.refl _ _).alloc (Nat.le_refl _) _
          replace B := hide (heap_below B.out q13')
          replace N2 := hide (heap_below N2.out q13')
          replace Q := hide (below_next Q.out Q.out.size q13')
          clear q13'
          refine ⟨keepsL_mk (by kernel_rfl) (.cons B.out .nil), ?_⟩
          change wpAnyL _ _ _ _ _ _ _ _ _ (w10'.alloc (.cells zFi.cs.toArray 31))
          generalize w10'.alloc (.cells zFi.cs.toArray 31) = w12' at *
          generalize w10'.heap.size = x19 at *
          go_simp
          refine wpAnyL_one (i := 9) (by kernel_rfl) ?_
          refine wpOp_do rfl rfl ?_
          have Tw14' := hide (show World.there _ x19 0 7 from there_heap (cs := zFi.cs) N1.out)
          refine wp_store_as 31 (.tmp 19) (.tmp 93) rfl x19 0 x.cs (by rfl) (by rfl) (by exact Tw14'.out) (by kernel_rfl) (by simp [Value.oneCell', Fi.cs]) ?_
          intro w14' ew14'
          replace B := hide (show w14'.heap[b]? = some (.cells x.cs.toArray 31 (0, 0)) by rw [ew14']; exact other_heap (by omega) _ _ _ B.out)
          replace N2 := hide (show w14'.heap[x20]? = some (.cells zCl.cs.toArray 40 (0, 0)) by rw [ew14']; exact other_heap (by omega) _ _ _ N2.out)
          replace Q := hide (show Below wr.heap.size wr w14' by rw [ew14']; exact Q.out.trans (below_setCells _ _ _ (by have := Q.out.size; omega)))
          replace N1 := hide (show w14'.heap[x19]? = some (.cells x.cs.toArray 31 (0, 0)) by rw [ew14']; exact whole_heap x.cs (xs := zFi.cs) N1.out rfl)
          clear ew14' Tw14'
          refine ⟨keepsL_all (by kernel_rfl) (by kernel_rfl), ?_⟩
          go_simp
          refine wpAnyL_one (i := 10) (by kernel_rfl) ?_
          refine wpOp_do rfl rfl ?_
          have Tw15' := hide (show World.there _ x20 0 23 from there_heap (cs := zCl.cs) N2.out)
          refine wp_store_as 40 (.tmp 20) (.tmp 94) rfl x20 0 zCl.cs (by rfl) (by rfl) (by exact Tw15'.out) (by kernel_rfl) (by simp [Value.oneCell', Cl.cs]) ?_
          intro w15' ew15'
          replace B := hide (show w15'.heap[b]? = some (.cells x.cs.toArray 31 (0, 0)) by rw [ew15']; exact other_heap (by omega) _ _ _ B.out)
          replace N1 := hide (show w15'.heap[x19]? = some (.cells x.cs.toArray 31 (0, 0)) by rw [ew15']; exact other_heap (by omega) _ _ _ N1.out)
          replace Q := hide (show Below wr.heap.size wr w15' by rw [ew15']; exact Q.out.trans (below_setCells _ _ _ (by have := Q.out.size; omega)))
          replace N2 := hide (show w15'.heap[x20]? = some (.cells zCl.cs.toArray 40 (0, 0)) by rw [ew15']; exact whole_heap zCl.cs (xs := zCl.cs) N2.out rfl)
          clear ew15' Tw15'
          refine ⟨keepsL_all (by kernel_rfl) (by kernel_rfl), ?_⟩
          go_simp
          refine wpAnyL_one (i := 11) (by kernel_rfl) ?_
          refine wpOp_do rfl rfl ?_
          go_simp
          refine ⟨keepsL_all (by kernel_rfl) (by kernel_rfl), ?_⟩
          go_simp
          refine wpAnyL_done (by kernel_rfl) ?_ _
          go_wp2_with fail
          go_meet
          exact ⟨x19, x20, rfl, rfl, rfl, N1, N2, by omega, by omega, by omega, Q⟩
      · refine wpOp_do rfl rfl ?_
        go_simp
        have N1 := hide (World.alloc_heap_new w2' (.cells zFi.cs.toArray 31))
        have zBx19 : b < w2'.heap.size := heap_lt B.out
        have zQx19 : wr.heap.size ≤ w2'.heap.size := Q.out.size
        have q17' : Below w2'.heap.size w2' (w2'.alloc (.cells zFi.cs.toArray 31)) := (Below.refl _ _).alloc (Nat.le_refl _) _
        replace B := hide (heap_below B.out q17')
        replace Q := hide (below_next Q.out Q.out.size q17')
        clear q17'
        refine ⟨keepsL_mk (by kernel_rfl) (.cons B.out .nil), ?_⟩
        change wpAnyL _ _ _ _ _ _ _ _ _ (w2'.alloc (.cells zFi.cs.toArray 31))
        generalize w2'.alloc (.cells zFi.cs.toArray 31) = w16' at *
        generalize w2'.heap.size = x19 at *
        go_simp
        refine wpAnyL_two (i := 2) (k := 8) (by kernel_rfl) ?_ ?_
        · refine wpOp_do rfl rfl ?_
          go_simp
          have R1 := hide (CALL.out w16' Q.out)
          (with_reducible refine (R1.out).mono ?_)
          rintro ew18' w18' ⟨rfl, qw18'⟩
          replace B := hide (heap_below B.out qw18')
          replace N1 := hide (heap_below N1.out qw18')
          replace Q := hide (below_next Q.out Q.out.size qw18')
          clear qw18'
          clear R1
          clear CALL
          go_simp
          refine ⟨keepsL_mk (by kernel_rfl) (.cons B.out .nil), ?_⟩
          go_simp
          refine wpAnyL_pure (i := 3) (v := .tuple #[.agg x.cs.toArray, .agg zCl.cs.toArray, .int .i64 0]) rfl rfl (by kernel_rfl) (by kernel_rfl) (by kernel_rfl) (by kernel_rfl) (by kernel_rfl) (fun _ _ _ h => hQ _ _ _ _ _ h) rfl (fun W => by go_simp) ?_
          go_simp
          refine wpAnyL_pure (i := 4) (v := .agg x.cs.toArray) rfl rfl (by kernel_rfl) (by kernel_rfl) (by kernel_rfl) (by kernel_rfl) (by kernel_rfl) (fun _ _ _ h => hQ _ _ _ _ _ h) rfl (fun W => by go_simp) ?_
          go_simp
          refine wpAnyL_pure (i := 5) (v := .agg zCl.cs.toArray) rfl rfl (by kernel_rfl) (by kernel_rfl) (by kernel_rfl) (by kernel_rfl) (by kernel_rfl) (fun _ _ _ h => hQ _ _ _ _ _ h) rfl (fun W => by go_simp) ?_
          go_simp
          refine wpAnyL_pure (i := 6) (v := .int .i64 0) rfl rfl (by kernel_rfl) (by kernel_rfl) (by kernel_rfl) (by kernel_rfl) (by kernel_rfl) (fun _ _ _ h => hQ _ _ _ _ _ h) rfl (fun W => by go_simp) ?_
          go_simp
          refine wpAnyL_one (i := 8) (by kernel_rfl) ?_
          refine wpOp_do rfl rfl ?_
          go_simp
          have N2 := hide (World.alloc_heap_new w18' (.cells zCl.cs.toArray 40))
          have zBx20 : b < w18'.heap.size := heap_lt B.out
          have zN1x20 : x19 < w18'.heap.size := heap_lt N1.out
          have zQx20 : wr.heap.size ≤ w18'.heap.size := Q.out.size
          have q20' : Below w18'.heap.size w18' (w18'.alloc (.cells zCl.cs.toArray 40)) := (Below.refl _ _).alloc (Nat.le_refl _) _
          replace B := hide (heap_below B.out q20')
          replace N1 := hide (heap_below N1.out q20')
          replace Q := hide (below_next Q.out Q.out.size q20')
          clear q20'
          refine ⟨keepsL_mk (by kernel_rfl) (.cons B.out .nil), ?_⟩
          change wpAnyL _ _ _ _ _ _ _ _ _ (w18'.alloc (.cells zCl.cs.toArray 40))
          generalize w18'.alloc (.cells zCl.cs.toArray 40) = w19' at *
          generalize w18'.heap.size = x20 at *
          go_simp
          refine wpAnyL_one (i := 9) (by kernel_rfl) ?_
          refine wpOp_do rfl rfl ?_
          have Tw21' := hide (show World.there _ x19 0 7 from there_heap (cs := zFi.cs) N1.out)
          refine wp_store_as 31 (.tmp 19) (.tmp 93) rfl x19 0 x.cs (by rfl) (by rfl) (by exact Tw21'.out) (by kernel_rfl) (by simp [Value.oneCell', Fi.cs]) ?_
          intro w21' ew21'
          replace B := hide (show w21'.heap[b]? = some (.cells x.cs.toArray 31 (0, 0)) by rw [ew21']; exact other_heap (by omega) _ _ _ B.out)
          replace N2 := hide (show w21'.heap[x20]? = some (.cells zCl.cs.toArray 40 (0, 0)) by rw [ew21']; exact other_heap (by omega) _ _ _ N2.out)
          replace Q := hide (show Below wr.heap.size wr w21' by rw [ew21']; exact Q.out.trans (below_setCells _ _ _ (by have := Q.out.size; omega)))
          replace N1 := hide (show w21'.heap[x19]? = some (.cells x.cs.toArray 31 (0, 0)) by rw [ew21']; exact whole_heap x.cs (xs := zFi.cs) N1.out rfl)
          clear ew21' Tw21'
          refine ⟨keepsL_all (by kernel_rfl) (by kernel_rfl), ?_⟩
          go_simp
          refine wpAnyL_one (i := 10) (by kernel_rfl) ?_
          refine wpOp_do rfl rfl ?_
          have Tw22' := hide (show World.there _ x20 0 23 from there_heap (cs := zCl.cs) N2.out)
          refine wp_store_as 40 (.tmp 20) (.tmp 94) rfl x20 0 zCl.cs (by rfl) (by rfl) (by exact Tw22'.out) (by kernel_rfl) (by simp [Value.oneCell', Cl.cs]) ?_
          intro w22' ew22'
          replace B := hide (show w22'.heap[b]? = some (.cells x.cs.toArray 31 (0, 0)) by rw [ew22']; exact other_heap (by omega) _ _ _ B.out)
          replace N1 := hide (show w22'.heap[x19]? = some (.cells x.cs.toArray 31 (0, 0)) by rw [ew22']; exact other_heap (by omega) _ _ _ N1.out)
          replace Q := hide (show Below wr.heap.size wr w22' by rw [ew22']; exact Q.out.trans (below_setCells _ _ _ (by have := Q.out.size; omega)))
          replace N2 := hide (show w22'.heap[x20]? = some (.cells zCl.cs.toArray 40 (0, 0)) by rw [ew22']; exact whole_heap zCl.cs (xs := zCl.cs) N2.out rfl)
          clear ew22' Tw22'
          refine ⟨keepsL_all (by kernel_rfl) (by kernel_rfl), ?_⟩
          go_simp
          refine wpAnyL_one (i := 11) (by kernel_rfl) ?_
          refine wpOp_do rfl rfl ?_
          go_simp
          refine ⟨keepsL_all (by kernel_rfl) (by kernel_rfl), ?_⟩
          go_simp
          refine wpAnyL_done (by kernel_rfl) ?_ _
          go_wp2_with fail
          go_meet
          exact ⟨x19, x20, rfl, rfl, rfl, N1, N2, by omega, by omega, by omega, Q⟩
        · refine wpOp_do rfl rfl ?_
          go_simp
          have N2 := hide (World.alloc_heap_new w16' (.cells zCl.cs.toArray 40))
          have zBx20 : b < w16'.heap.size := heap_lt B.out
          have zN1x20 : x19 < w16'.heap.size := heap_lt N1.out
          have zQx20 : wr.heap.size ≤ w16'.heap.size := Q.out.size
          have q24' : Below w16'.heap.size w16' (w16'.alloc (.cells zCl.cs.toArray 40)) := (Below.refl _ _).alloc (Nat.le_refl _) _
          replace B := hide (heap_below B.out q24')
          replace N1 := hide (heap_below N1.out q24')
          replace Q := hide (below_next Q.out Q.out.size q24')
          clear q24'
          refine ⟨keepsL_mk (by kernel_rfl) (.cons B.out .nil), ?_⟩
          change wpAnyL _ _ _ _ _ _ _ _ _ (w16'.alloc (.cells zCl.cs.toArray 40))
          generalize w16'.alloc (.cells zCl.cs.toArray 40) = w23' at *
          generalize w16'.heap.size = x20 at *
          go_simp
          refine wpAnyL_one (i := 2) (by kernel_rfl) ?_
          refine wpOp_do rfl rfl ?_
          go_simp
          have R1 := hide (CALL.out w23' Q.out)
          (with_reducible refine (R1.out).mono ?_)
          rintro ew25' w25' ⟨rfl, qw25'⟩
          replace B := hide (heap_below B.out qw25')
          replace N1 := hide (heap_below N1.out qw25')
          replace N2 := hide (heap_below N2.out qw25')
          replace Q := hide (below_next Q.out Q.out.size qw25')
          clear qw25'
          clear R1
          clear CALL
          go_simp
          refine ⟨keepsL_mk (by kernel_rfl) (.cons B.out .nil), ?_⟩
          go_simp
          refine wpAnyL_pure (i := 3) (v := .tuple #[.agg x.cs.toArray, .agg zCl.cs.toArray, .int .i64 0]) rfl rfl (by kernel_rfl) (by kernel_rfl) (by kernel_rfl) (by kernel_rfl) (by kernel_rfl) (fun _ _ _ h => hQ _ _ _ _ _ h) rfl (fun W => by go_simp) ?_
          go_simp
          refine wpAnyL_pure (i := 4) (v := .agg x.cs.toArray) rfl rfl (by kernel_rfl) (by kernel_rfl) (by kernel_rfl) (by kernel_rfl) (by kernel_rfl) (fun _ _ _ h => hQ _ _ _ _ _ h) rfl (fun W => by go_simp) ?_
          go_simp
          refine wpAnyL_pure (i := 5) (v := .agg zCl.cs.toArray) rfl rfl (by kernel_rfl) (by kernel_rfl) (by kernel_rfl) (by kernel_rfl) (by kernel_rfl) (fun _ _ _ h => hQ _ _ _ _ _ h) rfl (fun W => by go_simp) ?_
          go_simp
          refine wpAnyL_pure (i := 6) (v := .int .i64 0) rfl rfl (by kernel_rfl) (by kernel_rfl) (by kernel_rfl) (by kernel_rfl) (by kernel_rfl) (fun _ _ _ h => hQ _ _ _ _ _ h) rfl (fun W => by go_simp) ?_
          go_simp
          refine wpAnyL_one (i := 9) (by kernel_rfl) ?_
          refine wpOp_do rfl rfl ?_
          have Tw26' := hide (show World.there _ x19 0 7 from there_heap (cs := zFi.cs) N1.out)
          refine wp_store_as 31 (.tmp 19) (.tmp 93) rfl x19 0 x.cs (by rfl) (by rfl) (by exact Tw26'.out) (by kernel_rfl) (by simp [Value.oneCell', Fi.cs]) ?_
          intro w26' ew26'
          replace B := hide (show w26'.heap[b]? = some (.cells x.cs.toArray 31 (0, 0)) by rw [ew26']; exact other_heap (by omega) _ _ _ B.out)
          replace N2 := hide (show w26'.heap[x20]? = some (.cells zCl.cs.toArray 40 (0, 0)) by rw [ew26']; exact other_heap (by omega) _ _ _ N2.out)
          replace Q := hide (show Below wr.heap.size wr w26' by rw [ew26']; exact Q.out.trans (below_setCells _ _ _ (by have := Q.out.size; omega)))
          replace N1 := hide (show w26'.heap[x19]? = some (.cells x.cs.toArray 31 (0, 0)) by rw [ew26']; exact whole_heap x.cs (xs := zFi.cs) N1.out rfl)
          clear ew26' Tw26'
          refine ⟨keepsL_all (by kernel_rfl) (by kernel_rfl), ?_⟩
          go_simp
          refine wpAnyL_one (i := 10) (by kernel_rfl) ?_
          refine wpOp_do rfl rfl ?_
          have Tw27' := hide (show World.there _ x20 0 23 from there_heap (cs := zCl.cs) N2.out)
          refine wp_store_as 40 (.tmp 20) (.tmp 94) rfl x20 0 zCl.cs (by rfl) (by rfl) (by exact Tw27'.out) (by kernel_rfl) (by simp [Value.oneCell', Cl.cs]) ?_
          intro w27' ew27'
          replace B := hide (show w27'.heap[b]? = some (.cells x.cs.toArray 31 (0, 0)) by rw [ew27']; exact other_heap (by omega) _ _ _ B.out)
          replace N1 := hide (show w27'.heap[x19]? = some (.cells x.cs.toArray 31 (0, 0)) by rw [ew27']; exact other_heap (by omega) _ _ _ N1.out)
          replace Q := hide (show Below wr.heap.size wr w27' by rw [ew27']; exact Q.out.trans (below_setCells _ _ _ (by have := Q.out.size; omega)))
          replace N2 := hide (show w27'.heap[x20]? = some (.cells zCl.cs.toArray 40 (0, 0)) by rw [ew27']; exact whole_heap zCl.cs (xs := zCl.cs) N2.out rfl)
          clear ew27' Tw27'
          refine ⟨keepsL_all (by kernel_rfl) (by kernel_rfl), ?_⟩
          go_simp
          refine wpAnyL_one (i := 11) (by kernel_rfl) ?_
          refine wpOp_do rfl rfl ?_
          go_simp
          refine ⟨keepsL_all (by kernel_rfl) (by kernel_rfl), ?_⟩
          go_simp
          refine wpAnyL_done (by kernel_rfl) ?_ _
          go_wp2_with fail
          go_meet
          exact ⟨x19, x20, rfl, rfl, rfl, N1, N2, by omega, by omega, by omega, Q⟩
      · refine wpOp_do rfl rfl ?_
        go_simp
        have N2 := hide (World.alloc_heap_new w2' (.cells zCl.cs.toArray 40))
        have zBx20 : b < w2'.heap.size := heap_lt B.out
        have zQx20 : wr.heap.size ≤ w2'.heap.size := Q.out.size
        have q29' : Below w2'.heap.size w2' (w2'.alloc (.cells zCl.cs.toArray 40)) := (Below.refl _ _).alloc (Nat.le_refl _) _
        replace B := hide (heap_below B.out q29')
        replace Q := hide (below_next Q.out Q.out.size q29')
        clear q29'
        refine ⟨keepsL_mk (by kernel_rfl) (.cons B.out .nil), ?_⟩
        change wpAnyL _ _ _ _ _ _ _ _ _ (w2'.alloc (.cells zCl.cs.toArray 40))
        generalize w2'.alloc (.cells zCl.cs.toArray 40) = w28' at *
        generalize w2'.heap.size = x20 at *
        go_simp
        refine wpAnyL_two (i := 2) (k := 7) (by kernel_rfl) ?_ ?_
        · refine wpOp_do rfl rfl ?_
          go_simp
          have R1 := hide (CALL.out w28' Q.out)
          (with_reducible refine (R1.out).mono ?_)
          rintro ew30' w30' ⟨rfl, qw30'⟩
          replace B := hide (heap_below B.out qw30')
          replace N2 := hide (heap_below N2.out qw30')
          replace Q := hide (below_next Q.out Q.out.size qw30')
          clear qw30'
          clear R1
          clear CALL
          go_simp
          refine ⟨keepsL_mk (by kernel_rfl) (.cons B.out .nil), ?_⟩
          go_simp
          refine wpAnyL_pure (i := 3) (v := .tuple #[.agg x.cs.toArray, .agg zCl.cs.toArray, .int .i64 0]) rfl rfl (by kernel_rfl) (by kernel_rfl) (by kernel_rfl) (by kernel_rfl) (by kernel_rfl) (fun _ _ _ h => hQ _ _ _ _ _ h) rfl (fun W => by go_simp) ?_
          go_simp
          refine wpAnyL_pure (i := 4) (v := .agg x.cs.toArray) rfl rfl (by kernel_rfl) (by kernel_rfl) (by kernel_rfl) (by kernel_rfl) (by kernel_rfl) (fun _ _ _ h => hQ _ _ _ _ _ h) rfl (fun W => by go_simp) ?_
          go_simp
          refine wpAnyL_pure (i := 5) (v := .agg zCl.cs.toArray) rfl rfl (by kernel_rfl) (by kernel_rfl) (by kernel_rfl) (by kernel_rfl) (by kernel_rfl) (fun _ _ _ h => hQ _ _ _ _ _ h) rfl (fun W => by go_simp) ?_
          go_simp
          refine wpAnyL_pure (i := 6) (v := .int .i64 0) rfl rfl (by kernel_rfl) (by kernel_rfl) (by kernel_rfl) (by kernel_rfl) (by kernel_rfl) (fun _ _ _ h => hQ _ _ _ _ _ h) rfl (fun W => by go_simp) ?_
          go_simp
          refine wpAnyL_one (i := 7) (by kernel_rfl) ?_
          refine wpOp_do rfl rfl ?_
          go_simp
          have N1 := hide (World.alloc_heap_new w30' (.cells zFi.cs.toArray 31))
          have zBx19 : b < w30'.heap.size := heap_lt B.out
          have zN2x19 : x20 < w30'.heap.size := heap_lt N2.out
          have zQx19 : wr.heap.size ≤ w30'.heap.size := Q.out.size
          have q32' : Below w30'.heap.size w30' (w30'.alloc (.cells zFi.cs.toArray 31)) := (Below.refl _ _).alloc (Nat.le_refl _) _
          replace B := hide (heap_below B.out q32')
          replace N2 := hide (heap_below N2.out q32')
          replace Q := hide (below_next Q.out Q.out.size q32')
          clear q32'
          refine ⟨keepsL_mk (by kernel_rfl) (.cons B.out .nil), ?_⟩
          change wpAnyL _ _ _ _ _ _ _ _ _ (w30'.alloc (.cells zFi.cs.toArray 31))
          generalize w30'.alloc (.cells zFi.cs.toArray 31) = w31' at *
          generalize w30'.heap.size = x19 at *
          go_simp
          refine wpAnyL_one (i := 9) (by kernel_rfl) ?_
          refine wpOp_do rfl rfl ?_
          have Tw33' := hide (show World.there _ x19 0 7 from there_heap (cs := zFi.cs) N1.out)
          refine wp_store_as 31 (.tmp 19) (.tmp 93) rfl x19 0 x.cs (by rfl) (by rfl) (by exact Tw33'.out) (by kernel_rfl) (by simp [Value.oneCell', Fi.cs]) ?_
          intro w33' ew33'
          replace B := hide (show w33'.heap[b]? = some (.cells x.cs.toArray 31 (0, 0)) by rw [ew33']; exact other_heap (by omega) _ _ _ B.out)
          replace N2 := hide (show w33'.heap[x20]? = some (.cells zCl.cs.toArray 40 (0, 0)) by rw [ew33']; exact other_heap (by omega) _ _ _ N2.out)
          replace Q := hide (show Below wr.heap.size wr w33' by rw [ew33']; exact Q.out.trans (below_setCells _ _ _ (by have := Q.out.size; omega)))
          replace N1 := hide (show w33'.heap[x19]? = some (.cells x.cs.toArray 31 (0, 0)) by rw [ew33']; exact whole_heap x.cs (xs := zFi.cs) N1.out rfl)
          clear ew33' Tw33'
          refine ⟨keepsL_all (by kernel_rfl) (by kernel_rfl), ?_⟩
          go_simp
          refine wpAnyL_one (i := 10) (by kernel_rfl) ?_
          refine wpOp_do rfl rfl ?_
          have Tw34' := hide (show World.there _ x20 0 23 from there_heap (cs := zCl.cs) N2.out)
          refine wp_store_as 40 (.tmp 20) (.tmp 94) rfl x20 0 zCl.cs (by rfl) (by rfl) (by exact Tw34'.out) (by kernel_rfl) (by simp [Value.oneCell', Cl.cs]) ?_
          intro w34' ew34'
          replace B := hide (show w34'.heap[b]? = some (.cells x.cs.toArray 31 (0, 0)) by rw [ew34']; exact other_heap (by omega) _ _ _ B.out)
          replace N1 := hide (show w34'.heap[x19]? = some (.cells x.cs.toArray 31 (0, 0)) by rw [ew34']; exact other_heap (by omega) _ _ _ N1.out)
          replace Q := hide (show Below wr.heap.size wr w34' by rw [ew34']; exact Q.out.trans (below_setCells _ _ _ (by have := Q.out.size; omega)))
          replace N2 := hide (show w34'.heap[x20]? = some (.cells zCl.cs.toArray 40 (0, 0)) by rw [ew34']; exact whole_heap zCl.cs (xs := zCl.cs) N2.out rfl)
          clear ew34' Tw34'
          refine ⟨keepsL_all (by kernel_rfl) (by kernel_rfl), ?_⟩
          go_simp
          refine wpAnyL_one (i := 11) (by kernel_rfl) ?_
          refine wpOp_do rfl rfl ?_
          go_simp
          refine ⟨keepsL_all (by kernel_rfl) (by kernel_rfl), ?_⟩
          go_simp
          refine wpAnyL_done (by kernel_rfl) ?_ _
          go_wp2_with fail
          go_meet
          exact ⟨x19, x20, rfl, rfl, rfl, N1, N2, by omega, by omega, by omega, Q⟩
        · refine wpOp_do rfl rfl ?_
          go_simp
          have N1 := hide (World.alloc_heap_new w28' (.cells zFi.cs.toArray 31))
          have zBx19 : b < w28'.heap.size := heap_lt B.out
          have zN2x19 : x20 < w28'.heap.size := heap_lt N2.out
          have zQx19 : wr.heap.size ≤ w28'.heap.size := Q.out.size
          have q36' : Below w28'.heap.size w28' (w28'.alloc (.cells zFi.cs.toArray 31)) := (Below.refl _ _).alloc (Nat.le_refl _) _
          replace B := hide (heap_below B.out q36')
          replace N2 := hide (heap_below N2.out q36')
          replace Q := hide (below_next Q.out Q.out.size q36')
          clear q36'
          refine ⟨keepsL_mk (by kernel_rfl) (.cons B.out .nil), ?_⟩
          change wpAnyL _ _ _ _ _ _ _ _ _ (w28'.alloc (.cells zFi.cs.toArray 31))
          generalize w28'.alloc (.cells zFi.cs.toArray 31) = w35' at *
          generalize w28'.heap.size = x19 at *
          go_simp
          refine wpAnyL_one (i := 2) (by kernel_rfl) ?_
          refine wpOp_do rfl rfl ?_
          go_simp
          have R1 := hide (CALL.out w35' Q.out)
          (with_reducible refine (R1.out).mono ?_)
          rintro ew37' w37' ⟨rfl, qw37'⟩
          replace B := hide (heap_below B.out qw37')
          replace N2 := hide (heap_below N2.out qw37')
          replace N1 := hide (heap_below N1.out qw37')
          replace Q := hide (below_next Q.out Q.out.size qw37')
          clear qw37'
          clear R1
          clear CALL
          go_simp
          refine ⟨keepsL_mk (by kernel_rfl) (.cons B.out .nil), ?_⟩
          go_simp
          refine wpAnyL_pure (i := 3) (v := .tuple #[.agg x.cs.toArray, .agg zCl.cs.toArray, .int .i64 0]) rfl rfl (by kernel_rfl) (by kernel_rfl) (by kernel_rfl) (by kernel_rfl) (by kernel_rfl) (fun _ _ _ h => hQ _ _ _ _ _ h) rfl (fun W => by go_simp) ?_
          go_simp
          refine wpAnyL_pure (i := 4) (v := .agg x.cs.toArray) rfl rfl (by kernel_rfl) (by kernel_rfl) (by kernel_rfl) (by kernel_rfl) (by kernel_rfl) (fun _ _ _ h => hQ _ _ _ _ _ h) rfl (fun W => by go_simp) ?_
          go_simp
          refine wpAnyL_pure (i := 5) (v := .agg zCl.cs.toArray) rfl rfl (by kernel_rfl) (by kernel_rfl) (by kernel_rfl) (by kernel_rfl) (by kernel_rfl) (fun _ _ _ h => hQ _ _ _ _ _ h) rfl (fun W => by go_simp) ?_
          go_simp
          refine wpAnyL_pure (i := 6) (v := .int .i64 0) rfl rfl (by kernel_rfl) (by kernel_rfl) (by kernel_rfl) (by kernel_rfl) (by kernel_rfl) (fun _ _ _ h => hQ _ _ _ _ _ h) rfl (fun W => by go_simp) ?_
          go_simp
          refine wpAnyL_one (i := 9) (by kernel_rfl) ?_
          refine wpOp_do rfl rfl ?_
          have Tw38' := hide (show World.there _ x19 0 7 from there_heap (cs := zFi.cs) N1.out)
          refine wp_store_as 31 (.tmp 19) (.tmp 93) rfl x19 0 x.cs (by rfl) (by rfl) (by exact Tw38'.out) (by kernel_rfl) (by simp [Value.oneCell', Fi.cs]) ?_
          intro w38' ew38'
          replace B := hide (show w38'.heap[b]? = some (.cells x.cs.toArray 31 (0, 0)) by rw [ew38']; exact other_heap (by omega) _ _ _ B.out)
          replace N2 := hide (show w38'.heap[x20]? = some (.cells zCl.cs.toArray 40 (0, 0)) by rw [ew38']; exact other_heap (by omega) _ _ _ N2.out)
          replace Q := hide (show Below wr.heap.size wr w38' by rw [ew38']; exact Q.out.trans (below_setCells _ _ _ (by have := Q.out.size; omega)))
          replace N1 := hide (show w38'.heap[x19]? = some (.cells x.cs.toArray 31 (0, 0)) by rw [ew38']; exact whole_heap x.cs (xs := zFi.cs) N1.out rfl)
          clear ew38' Tw38'
          refine ⟨keepsL_all (by kernel_rfl) (by kernel_rfl), ?_⟩
          go_simp
          refine wpAnyL_one (i := 10) (by kernel_rfl) ?_
          refine wpOp_do rfl rfl ?_
          have Tw39' := hide (show World.there _ x20 0 23 from there_heap (cs := zCl.cs) N2.out)
          refine wp_store_as 40 (.tmp 20) (.tmp 94) rfl x20 0 zCl.cs (by rfl) (by rfl) (by exact Tw39'.out) (by kernel_rfl) (by simp [Value.oneCell', Cl.cs]) ?_
          intro w39' ew39'
          replace B := hide (show w39'.heap[b]? = some (.cells x.cs.toArray 31 (0, 0)) by rw [ew39']; exact other_heap (by omega) _ _ _ B.out)
          replace N1 := hide (show w39'.heap[x19]? = some (.cells x.cs.toArray 31 (0, 0)) by rw [ew39']; exact other_heap (by omega) _ _ _ N1.out)
          replace Q := hide (show Below wr.heap.size wr w39' by rw [ew39']; exact Q.out.trans (below_setCells _ _ _ (by have := Q.out.size; omega)))
          replace N2 := hide (show w39'.heap[x20]? = some (.cells zCl.cs.toArray 40 (0, 0)) by rw [ew39']; exact whole_heap zCl.cs (xs := zCl.cs) N2.out rfl)
          clear ew39' Tw39'
          refine ⟨keepsL_all (by kernel_rfl) (by kernel_rfl), ?_⟩
          go_simp
          refine wpAnyL_one (i := 11) (by kernel_rfl) ?_
          refine wpOp_do rfl rfl ?_
          go_simp
          refine ⟨keepsL_all (by kernel_rfl) (by kernel_rfl), ?_⟩
          go_simp
          refine wpAnyL_done (by kernel_rfl) ?_ _
          go_wp2_with fail
          go_meet
          exact ⟨x19, x20, rfl, rfl, rfl, N1, N2, by omega, by omega, by omega, Q⟩
    · refine wpOp_do rfl rfl ?_
      go_simp
      have N1 := hide (World.alloc_heap_new w1' (.cells zFi.cs.toArray 31))
      have zBx19 : b < w1'.heap.size := heap_lt B.out
      have zQx19 : wr.heap.size ≤ w1'.heap.size := Q.out.size
      have q41' : Below w1'.heap.size w1' (w1'.alloc (.cells zFi.cs.toArray 31)) := (Below.refl _ _).alloc (Nat.le_refl _) _
      replace B := hide (heap_below B.out q41')
      replace Q := hide (below_next Q.out Q.out.size q41')
      clear q41'
      refine ⟨keepsL_mk (by kernel_rfl) (.cons B.out .nil), ?_⟩
      change wpAnyL _ _ _ _ _ _ _ _ _ (w1'.alloc (.cells zFi.cs.toArray 31))
      generalize w1'.alloc (.cells zFi.cs.toArray 31) = w40' at *
      generalize w1'.heap.size = x19 at *
      go_simp
      refine wpAnyL_two (i := 1) (k := 8) (by kernel_rfl) ?_ ?_
      · refine wpOp_do rfl rfl ?_
        go_simp
        (with_reducible refine (NC.out _).mono ?_)
        rintro ew42' w42' ⟨rfl, qw42'⟩
        replace B := hide (heap_below B.out qw42')
        replace N1 := hide (heap_below N1.out qw42')
        replace Q := hide (below_next Q.out Q.out.size qw42')
        clear qw42'
        go_simp
        refine ⟨keepsL_mk (by kernel_rfl) (.cons B.out .nil), ?_⟩
        go_simp
        refine wpAnyL_two (i := 2) (k := 8) (by kernel_rfl) ?_ ?_
        · refine wpOp_do rfl rfl ?_
          go_simp
          have R1 := hide (CALL.out w42' Q.out)
          (with_reducible refine (R1.out).mono ?_)
          rintro ew43' w43' ⟨rfl, qw43'⟩
          replace B := hide (heap_below B.out qw43')
          replace N1 := hide (heap_below N1.out qw43')
          replace Q := hide (below_next Q.out Q.out.size qw43')
          clear qw43'
          clear R1
          clear CALL
          go_simp
          refine ⟨keepsL_mk (by kernel_rfl) (.cons B.out .nil), ?_⟩
          go_simp
          refine wpAnyL_pure (i := 3) (v := .tuple #[.agg x.cs.toArray, .agg zCl.cs.toArray, .int .i64 0]) rfl rfl (by kernel_rfl) (by kernel_rfl) (by kernel_rfl) (by kernel_rfl) (by kernel_rfl) (fun _ _ _ h => hQ _ _ _ _ _ h) rfl (fun W => by go_simp) ?_
          go_simp
          refine wpAnyL_pure (i := 4) (v := .agg x.cs.toArray) rfl rfl (by kernel_rfl) (by kernel_rfl) (by kernel_rfl) (by kernel_rfl) (by kernel_rfl) (fun _ _ _ h => hQ _ _ _ _ _ h) rfl (fun W => by go_simp) ?_
          go_simp
          refine wpAnyL_pure (i := 5) (v := .agg zCl.cs.toArray) rfl rfl (by kernel_rfl) (by kernel_rfl) (by kernel_rfl) (by kernel_rfl) (by kernel_rfl) (fun _ _ _ h => hQ _ _ _ _ _ h) rfl (fun W => by go_simp) ?_
          go_simp
          refine wpAnyL_pure (i := 6) (v := .int .i64 0) rfl rfl (by kernel_rfl) (by kernel_rfl) (by kernel_rfl) (by kernel_rfl) (by kernel_rfl) (fun _ _ _ h => hQ _ _ _ _ _ h) rfl (fun W => by go_simp) ?_
          go_simp
          refine wpAnyL_one (i := 8) (by kernel_rfl) ?_
          refine wpOp_do rfl rfl ?_
          go_simp
          have N2 := hide (World.alloc_heap_new w43' (.cells zCl.cs.toArray 40))
          have zBx20 : b < w43'.heap.size := heap_lt B.out
          have zN1x20 : x19 < w43'.heap.size := heap_lt N1.out
          have zQx20 : wr.heap.size ≤ w43'.heap.size := Q.out.size
          have q45' : Below w43'.heap.size w43' (w43'.alloc (.cells zCl.cs.toArray 40)) := (Below.refl _ _).alloc (Nat.le_refl _) _
          replace B := hide (heap_below B.out q45')
          replace N1 := hide (heap_below N1.out q45')
          replace Q := hide (below_next Q.out Q.out.size q45')
          clear q45'
          refine ⟨keepsL_mk (by kernel_rfl) (.cons B.out .nil), ?_⟩
          change wpAnyL _ _ _ _ _ _ _ _ _ (w43'.alloc (.cells zCl.cs.toArray 40))
          generalize w43'.alloc (.cells zCl.cs.toArray 40) = w44' at *
          generalize w43'.heap.size = x20 at *
          go_simp
          refine wpAnyL_one (i := 9) (by kernel_rfl) ?_
          refine wpOp_do rfl rfl ?_
          have Tw46' := hide (show World.there _ x19 0 7 from there_heap (cs := zFi.cs) N1.out)
          refine wp_store_as 31 (.tmp 19) (.tmp 93) rfl x19 0 x.cs (by rfl) (by rfl) (by exact Tw46'.out) (by kernel_rfl) (by simp [Value.oneCell', Fi.cs]) ?_
          intro w46' ew46'
          replace B := hide (show w46'.heap[b]? = some (.cells x.cs.toArray 31 (0, 0)) by rw [ew46']; exact other_heap (by omega) _ _ _ B.out)
          replace N2 := hide (show w46'.heap[x20]? = some (.cells zCl.cs.toArray 40 (0, 0)) by rw [ew46']; exact other_heap (by omega) _ _ _ N2.out)
          replace Q := hide (show Below wr.heap.size wr w46' by rw [ew46']; exact Q.out.trans (below_setCells _ _ _ (by have := Q.out.size; omega)))
          replace N1 := hide (show w46'.heap[x19]? = some (.cells x.cs.toArray 31 (0, 0)) by rw [ew46']; exact whole_heap x.cs (xs := zFi.cs) N1.out rfl)
          clear ew46' Tw46'
          refine ⟨keepsL_all (by kernel_rfl) (by kernel_rfl), ?_⟩
          go_simp
          refine wpAnyL_one (i := 10) (by kernel_rfl) ?_
          refine wpOp_do rfl rfl ?_
          have Tw47' := hide (show World.there _ x20 0 23 from there_heap (cs := zCl.cs) N2.out)
          refine wp_store_as 40 (.tmp 20) (.tmp 94) rfl x20 0 zCl.cs (by rfl) (by rfl) (by exact Tw47'.out) (by kernel_rfl) (by simp [Value.oneCell', Cl.cs]) ?_
          intro w47' ew47'
          replace B := hide (show w47'.heap[b]? = some (.cells x.cs.toArray 31 (0, 0)) by rw [ew47']; exact other_heap (by omega) _ _ _ B.out)
          replace N1 := hide (show w47'.heap[x19]? = some (.cells x.cs.toArray 31 (0, 0)) by rw [ew47']; exact other_heap (by omega) _ _ _ N1.out)
          replace Q := hide (show Below wr.heap.size wr w47' by rw [ew47']; exact Q.out.trans (below_setCells _ _ _ (by have := Q.out.size; omega)))
          replace N2 := hide (show w47'.heap[x20]? = some (.cells zCl.cs.toArray 40 (0, 0)) by rw [ew47']; exact whole_heap zCl.cs (xs := zCl.cs) N2.out rfl)
          clear ew47' Tw47'
          refine ⟨keepsL_all (by kernel_rfl) (by kernel_rfl), ?_⟩
          go_simp
          refine wpAnyL_one (i := 11) (by kernel_rfl) ?_
          refine wpOp_do rfl rfl ?_
          go_simp
          refine ⟨keepsL_all (by kernel_rfl) (by kernel_rfl), ?_⟩
          go_simp
          refine wpAnyL_done (by kernel_rfl) ?_ _
          go_wp2_with fail
          go_meet
          exact ⟨x19, x20, rfl, rfl, rfl, N1, N2, by omega, by omega, by omega, Q⟩
        · refine wpOp_do rfl rfl ?_
          go_simp
          have N2 := hide (World.alloc_heap_new w42' (.cells zCl.cs.toArray 40))
          have zBx20 : b < w42'.heap.size := heap_lt B.out
          have zN1x20 : x19 < w42'.heap.size := heap_lt N1.out
          have zQx20 : wr.heap.size ≤ w42'.heap.size := Q.out.size
          have q49' : Below w42'.heap.size w42' (w42'.alloc (.cells zCl.cs.toArray 40)) := (Below.refl _ _).alloc (Nat.le_refl _) _
          replace B := hide (heap_below B.out q49')
          replace N1 := hide (heap_below N1.out q49')
          replace Q := hide (below_next Q.out Q.out.size q49')
          clear q49'
          refine ⟨keepsL_mk (by kernel_rfl) (.cons B.out .nil), ?_⟩
          change wpAnyL _ _ _ _ _ _ _ _ _ (w42'.alloc (.cells zCl.cs.toArray 40))
          generalize w42'.alloc (.cells zCl.cs.toArray 40) = w48' at *
          generalize w42'.heap.size = x20 at *
          go_simp
          refine wpAnyL_one (i := 2) (by kernel_rfl) ?_
          refine wpOp_do rfl rfl ?_
          go_simp
          have R1 := hide (CALL.out w48' Q.out)
          (with_reducible refine (R1.out).mono ?_)
          rintro ew50' w50' ⟨rfl, qw50'⟩
          replace B := hide (heap_below B.out qw50')
          replace N1 := hide (heap_below N1.out qw50')
          replace N2 := hide (heap_below N2.out qw50')
          replace Q := hide (below_next Q.out Q.out.size qw50')
          clear qw50'
          clear R1
          clear CALL
          go_simp
          refine ⟨keepsL_mk (by kernel_rfl) (.cons B.out .nil), ?_⟩
          go_simp
          refine wpAnyL_pure (i := 3) (v := .tuple #[.agg x.cs.toArray, .agg zCl.cs.toArray, .int .i64 0]) rfl rfl (by kernel_rfl) (by kernel_rfl) (by kernel_rfl) (by kernel_rfl) (by kernel_rfl) (fun _ _ _ h => hQ _ _ _ _ _ h) rfl (fun W => by go_simp) ?_
          go_simp
          refine wpAnyL_pure (i := 4) (v := .agg x.cs.toArray) rfl rfl (by kernel_rfl) (by kernel_rfl) (by kernel_rfl) (by kernel_rfl) (by kernel_rfl) (fun _ _ _ h => hQ _ _ _ _ _ h) rfl (fun W => by go_simp) ?_
          go_simp
          refine wpAnyL_pure (i := 5) (v := .agg zCl.cs.toArray) rfl rfl (by kernel_rfl) (by kernel_rfl) (by kernel_rfl) (by kernel_rfl) (by kernel_rfl) (fun _ _ _ h => hQ _ _ _ _ _ h) rfl (fun W => by go_simp) ?_
          go_simp
          refine wpAnyL_pure (i := 6) (v := .int .i64 0) rfl rfl (by kernel_rfl) (by kernel_rfl) (by kernel_rfl) (by kernel_rfl) (by kernel_rfl) (fun _ _ _ h => hQ _ _ _ _ _ h) rfl (fun W => by go_simp) ?_
          go_simp
          refine wpAnyL_one (i := 9) (by kernel_rfl) ?_
          refine wpOp_do rfl rfl ?_
          have Tw51' := hide (show World.there _ x19 0 7 from there_heap (cs := zFi.cs) N1.out)
          refine wp_store_as 31 (.tmp 19) (.tmp 93) rfl x19 0 x.cs (by rfl) (by rfl) (by exact Tw51'.out) (by kernel_rfl) (by simp [Value.oneCell', Fi.cs]) ?_
          intro w51' ew51'
          replace B := hide (show w51'.heap[b]? = some (.cells x.cs.toArray 31 (0, 0)) by rw [ew51']; exact other_heap (by omega) _ _ _ B.out)
          replace N2 := hide (show w51'.heap[x20]? = some (.cells zCl.cs.toArray 40 (0, 0)) by rw [ew51']; exact other_heap (by omega) _ _ _ N2.out)
          replace Q := hide (show Below wr.heap.size wr w51' by rw [ew51']; exact Q.out.trans (below_setCells _ _ _ (by have := Q.out.size; omega)))
          replace N1 := hide (show w51'.heap[x19]? = some (.cells x.cs.toArray 31 (0, 0)) by rw [ew51']; exact whole_heap x.cs (xs := zFi.cs) N1.out rfl)
          clear ew51' Tw51'
          refine ⟨keepsL_all (by kernel_rfl) (by kernel_rfl), ?_⟩
          go_simp
          refine wpAnyL_one (i := 10) (by kernel_rfl) ?_
          refine wpOp_do rfl rfl ?_
          have Tw52' := hide (show World.there _ x20 0 23 from there_heap (cs := zCl.cs) N2.out)
          refine wp_store_as 40 (.tmp 20) (.tmp 94) rfl x20 0 zCl.cs (by rfl) (by rfl) (by exact Tw52'.out) (by kernel_rfl) (by simp [Value.oneCell', Cl.cs]) ?_
          intro w52' ew52'
          replace B := hide (show w52'.heap[b]? = some (.cells x.cs.toArray 31 (0, 0)) by rw [ew52']; exact other_heap (by omega) _ _ _ B.out)
          replace N1 := hide (show w52'.heap[x19]? = some (.cells x.cs.toArray 31 (0, 0)) by rw [ew52']; exact other_heap (by omega) _ _ _ N1.out)
          replace Q := hide (show Below wr.heap.size wr w52' by rw [ew52']; exact Q.out.trans (below_setCells _ _ _ (by have := Q.out.size; omega)))
          replace N2 := hide (show w52'.heap[x20]? = some (.cells zCl.cs.toArray 40 (0, 0)) by rw [ew52']; exact whole_heap zCl.cs (xs := zCl.cs) N2.out rfl)
          clear ew52' Tw52'
          refine ⟨keepsL_all (by kernel_rfl) (by kernel_rfl), ?_⟩
          go_simp
          refine wpAnyL_one (i := 11) (by kernel_rfl) ?_
          refine wpOp_do rfl rfl ?_
          go_simp
          refine ⟨keepsL_all (by kernel_rfl) (by kernel_rfl), ?_⟩
          go_simp
          refine wpAnyL_done (by kernel_rfl) ?_ _
          go_wp2_with fail
          go_meet
          exact ⟨x19, x20, rfl, rfl, rfl, N1, N2, by omega, by omega, by omega, Q⟩
      · refine wpOp_do rfl rfl ?_
        go_simp
        have N2 := hide (World.alloc_heap_new w40' (.cells zCl.cs.toArray 40))
        have zBx20 : b < w40'.heap.size := heap_lt B.out
        have zN1x20 : x19 < w40'.heap.size := heap_lt N1.out
        have zQx20 : wr.heap.size ≤ w40'.heap.size := Q.out.size
        have q54' : Below w40'.heap.size w40' (w40'.alloc (.cells zCl.cs.toArray 40)) := (Below.refl _ _).alloc (Nat.le_refl _) _
        replace B := hide (heap_below B.out q54')
        replace N1 := hide (heap_below N1.out q54')
        replace Q := hide (below_next Q.out Q.out.size q54')
        clear q54'
        refine ⟨keepsL_mk (by kernel_rfl) (.cons B.out .nil), ?_⟩
        change wpAnyL _ _ _ _ _ _ _ _ _ (w40'.alloc (.cells zCl.cs.toArray 40))
        generalize w40'.alloc (.cells zCl.cs.toArray 40) = w53' at *
        generalize w40'.heap.size = x20 at *
        go_simp
        refine wpAnyL_one (i := 1) (by kernel_rfl) ?_
        refine wpOp_do rfl rfl ?_
        go_simp
        (with_reducible refine (NC.out _).mono ?_)
        rintro ew55' w55' ⟨rfl, qw55'⟩
        replace B := hide (heap_below B.out qw55')
        replace N1 := hide (heap_below N1.out qw55')
        replace N2 := hide (heap_below N2.out qw55')
        replace Q := hide (below_next Q.out Q.out.size qw55')
        clear qw55'
        go_simp
        refine ⟨keepsL_mk (by kernel_rfl) (.cons B.out .nil), ?_⟩
        go_simp
        refine wpAnyL_one (i := 2) (by kernel_rfl) ?_
        refine wpOp_do rfl rfl ?_
        go_simp
        have R1 := hide (CALL.out w55' Q.out)
        (with_reducible refine (R1.out).mono ?_)
        rintro ew56' w56' ⟨rfl, qw56'⟩
        replace B := hide (heap_below B.out qw56')
        replace N1 := hide (heap_below N1.out qw56')
        replace N2 := hide (heap_below N2.out qw56')
        replace Q := hide (below_next Q.out Q.out.size qw56')
        clear qw56'
        clear R1
        clear CALL
        go_simp
        refine ⟨keepsL_mk (by kernel_rfl) (.cons B.out .nil), ?_⟩
        go_simp
        refine wpAnyL_pure (i := 3) (v := .tuple #[.agg x.cs.toArray, .agg zCl.cs.toArray, .int .i64 0]) rfl rfl (by kernel_rfl) (by kernel_rfl) (by kernel_rfl) (by kernel_rfl) (by kernel_rfl) (fun _ _ _ h => hQ _ _ _ _ _ h) rfl (fun W => by go_simp) ?_
        go_simp
        refine wpAnyL_pure (i := 4) (v := .agg x.cs.toArray) rfl rfl (by kernel_rfl) (by kernel_rfl) (by kernel_rfl) (by kernel_rfl) (by kernel_rfl) (fun _ _ _ h => hQ _ _ _ _ _ h) rfl (fun W => by go_simp) ?_
        go_simp
        refine wpAnyL_pure (i := 5) (v := .agg zCl.cs.toArray) rfl rfl (by kernel_rfl) (by kernel_rfl) (by kernel_rfl) (by kernel_rfl) (by kernel_rfl) (fun _ _ _ h => hQ _ _ _ _ _ h) rfl (fun W => by go_simp) ?_
        go_simp
        refine wpAnyL_pure (i := 6) (v := .int .i64 0) rfl rfl (by kernel_rfl) (by kernel_rfl) (by kernel_rfl) (by kernel_rfl) (by kernel_rfl) (fun _ _ _ h => hQ _ _ _ _ _ h) rfl (fun W => by go_simp) ?_
        go_simp
        refine wpAnyL_one (i := 9) (by kernel_rfl) ?_
        refine wpOp_do rfl rfl ?_
        have Tw57' := hide (show World.there _ x19 0 7 from there_heap (cs := zFi.cs) N1.out)
        refine wp_store_as 31 (.tmp 19) (.tmp 93) rfl x19 0 x.cs (by rfl) (by rfl) (by exact Tw57'.out) (by kernel_rfl) (by simp [Value.oneCell', Fi.cs]) ?_
        intro w57' ew57'
        replace B := hide (show w57'.heap[b]? = some (.cells x.cs.toArray 31 (0, 0)) by rw [ew57']; exact other_heap (by omega) _ _ _ B.out)
        replace N2 := hide (show w57'.heap[x20]? = some (.cells zCl.cs.toArray 40 (0, 0)) by rw [ew57']; exact other_heap (by omega) _ _ _ N2.out)
        replace Q := hide (show Below wr.heap.size wr w57' by rw [ew57']; exact Q.out.trans (below_setCells _ _ _ (by have := Q.out.size; omega)))
        replace N1 := hide (show w57'.heap[x19]? = some (.cells x.cs.toArray 31 (0, 0)) by rw [ew57']; exact whole_heap x.cs (xs := zFi.cs) N1.out rfl)
        clear ew57' Tw57'
        refine ⟨keepsL_all (by kernel_rfl) (by kernel_rfl), ?_⟩
        go_simp
        refine wpAnyL_one (i := 10) (by kernel_rfl) ?_
        refine wpOp_do rfl rfl ?_
        have Tw58' := hide (show World.there _ x20 0 23 from there_heap (cs := zCl.cs) N2.out)
        refine wp_store_as 40 (.tmp 20) (.tmp 94) rfl x20 0 zCl.cs (by rfl) (by rfl) (by exact Tw58'.out) (by kernel_rfl) (by simp [Value.oneCell', Cl.cs]) ?_
        intro w58' ew58'
        replace B := hide (show w58'.heap[b]? = some (.cells x.cs.toArray 31 (0, 0)) by rw [ew58']; exact other_heap (by omega) _ _ _ B.out)
        replace N1 := hide (show w58'.heap[x19]? = some (.cells x.cs.toArray 31 (0, 0)) by rw [ew58']; exact other_heap (by omega) _ _ _ N1.out)
        replace Q := hide (show Below wr.heap.size wr w58' by rw [ew58']; exact Q.out.trans (below_setCells _ _ _ (by have := Q.out.size; omega)))
        replace N2 := hide (show w58'.heap[x20]? = some (.cells zCl.cs.toArray 40 (0, 0)) by rw [ew58']; exact whole_heap zCl.cs (xs := zCl.cs) N2.out rfl)
        clear ew58' Tw58'
        refine ⟨keepsL_all (by kernel_rfl) (by kernel_rfl), ?_⟩
        go_simp
        refine wpAnyL_one (i := 11) (by kernel_rfl) ?_
        refine wpOp_do rfl rfl ?_
        go_simp
        refine ⟨keepsL_all (by kernel_rfl) (by kernel_rfl), ?_⟩
        go_simp
        refine wpAnyL_done (by kernel_rfl) ?_ _
        go_wp2_with fail
        go_meet
        exact ⟨x19, x20, rfl, rfl, rfl, N1, N2, by omega, by omega, by omega, Q⟩
    · refine wpOp_do rfl rfl ?_
      go_simp
      have N2 := hide (World.alloc_heap_new w1' (.cells zCl.cs.toArray 40))
      have zBx20 : b < w1'.heap.size := heap_lt B.out
      have zQx20 : wr.heap.size ≤ w1'.heap.size := Q.out.size
      have q60' : Below w1'.heap.size w1' (w1'.alloc (.cells zCl.cs.toArray 40)) := (Below.refl _ _).alloc (Nat.le_refl _) _
      replace B := hide (heap_below B.out q60')
      replace Q := hide (below_next Q.out Q.out.size q60')
      clear q60'
      refine ⟨keepsL_mk (by kernel_rfl) (.cons B.out .nil), ?_⟩
      change wpAnyL _ _ _ _ _ _ _ _ _ (w1'.alloc (.cells zCl.cs.toArray 40))
      generalize w1'.alloc (.cells zCl.cs.toArray 40) = w59' at *
      generalize w1'.heap.size = x20 at *
      go_simp
      refine wpAnyL_two (i := 1) (k := 7) (by kernel_rfl) ?_ ?_
      · refine wpOp_do rfl rfl ?_
        go_simp
        (with_reducible refine (NC.out _).mono ?_)
        rintro ew61' w61' ⟨rfl, qw61'⟩
        replace B := hide (heap_below B.out qw61')
        replace N2 := hide (heap_below N2.out qw61')
        replace Q := hide (below_next Q.out Q.out.size qw61')
        clear qw61'
        go_simp
        refine ⟨keepsL_mk (by kernel_rfl) (.cons B.out .nil), ?_⟩
        go_simp
        refine wpAnyL_two (i := 2) (k := 7) (by kernel_rfl) ?_ ?_
        · refine wpOp_do rfl rfl ?_
          go_simp
          have R1 := hide (CALL.out w61' Q.out)
          (with_reducible refine (R1.out).mono ?_)
          rintro ew62' w62' ⟨rfl, qw62'⟩
          replace B := hide (heap_below B.out qw62')
          replace N2 := hide (heap_below N2.out qw62')
          replace Q := hide (below_next Q.out Q.out.size qw62')
          clear qw62'
          clear R1
          clear CALL
          go_simp
          refine ⟨keepsL_mk (by kernel_rfl) (.cons B.out .nil), ?_⟩
          go_simp
          refine wpAnyL_pure (i := 3) (v := .tuple #[.agg x.cs.toArray, .agg zCl.cs.toArray, .int .i64 0]) rfl rfl (by kernel_rfl) (by kernel_rfl) (by kernel_rfl) (by kernel_rfl) (by kernel_rfl) (fun _ _ _ h => hQ _ _ _ _ _ h) rfl (fun W => by go_simp) ?_
          go_simp
          refine wpAnyL_pure (i := 4) (v := .agg x.cs.toArray) rfl rfl (by kernel_rfl) (by kernel_rfl) (by kernel_rfl) (by kernel_rfl) (by kernel_rfl) (fun _ _ _ h => hQ _ _ _ _ _ h) rfl (fun W => by go_simp) ?_
          go_simp
          refine wpAnyL_pure (i := 5) (v := .agg zCl.cs.toArray) rfl rfl (by kernel_rfl) (by kernel_rfl) (by kernel_rfl) (by kernel_rfl) (by kernel_rfl) (fun _ _ _ h => hQ _ _ _ _ _ h) rfl (fun W => by go_simp) ?_
          go_simp
          refine wpAnyL_pure (i := 6) (v := .int .i64 0) rfl rfl (by kernel_rfl) (by kernel_rfl) (by kernel_rfl) (by kernel_rfl) (by kernel_rfl) (fun _ _ _ h => hQ _ _ _ _ _ h) rfl (fun W => by go_simp) ?_
          go_simp
          refine wpAnyL_one (i := 7) (by kernel_rfl) ?_
          refine wpOp_do rfl rfl ?_
          go_simp
          have N1 := hide (World.alloc_heap_new w62' (.cells zFi.cs.toArray 31))
          have zBx19 : b < w62'.heap.size := heap_lt B.out
          have zN2x19 : x20 < w62'.heap.size := heap_lt N2.out
          have zQx19 : wr.heap.size ≤ w62'.heap.size := Q.out.size
          have q64' : Below w62'.heap.size w62' (w62'.alloc (.cells zFi.cs.toArray 31)) := (Below.refl _ _).alloc (Nat.le_refl _) _
          replace B := hide (heap_below B.out q64')
          replace N2 := hide (heap_below N2.out q64')
          replace Q := hide (below_next Q.out Q.out.size q64')
          clear q64'
          refine ⟨keepsL_mk (by kernel_rfl) (.cons B.out .nil), ?_⟩
          change wpAnyL _ _ _ _ _ _ _ _ _ (w62'.alloc (.cells zFi.cs.toArray 31))
          generalize w62'.alloc (.cells zFi.cs.toArray 31) = w63' at *
          generalize w62'.heap.size = x19 at *
          go_simp
          refine wpAnyL_one (i := 9) (by kernel_rfl) ?_
          refine wpOp_do rfl rfl ?_
          have Tw65' := hide (show World.there _ x19 0 7 from there_heap (cs := zFi.cs) N1.out)
          refine wp_store_as 31 (.tmp 19) (.tmp 93) rfl x19 0 x.cs (by rfl) (by rfl) (by exact Tw65'.out) (by kernel_rfl) (by simp [Value.oneCell', Fi.cs]) ?_
          intro w65' ew65'
          replace B := hide (show w65'.heap[b]? = some (.cells x.cs.toArray 31 (0, 0)) by rw [ew65']; exact other_heap (by omega) _ _ _ B.out)
          replace N2 := hide (show w65'.heap[x20]? = some (.cells zCl.cs.toArray 40 (0, 0)) by rw [ew65']; exact other_heap (by omega) _ _ _ N2.out)
          replace Q := hide (show Below wr.heap.size wr w65' by rw [ew65']; exact Q.out.trans (below_setCells _ _ _ (by have := Q.out.size; omega)))
          replace N1 := hide (show w65'.heap[x19]? = some (.cells x.cs.toArray 31 (0, 0)) by rw [ew65']; exact whole_heap x.cs (xs := zFi.cs) N1.out rfl)
          clear ew65' Tw65'
          refine ⟨keepsL_all (by kernel_rfl) (by kernel_rfl), ?_⟩
          go_simp
          refine wpAnyL_one (i := 10) (by kernel_rfl) ?_
          refine wpOp_do rfl rfl ?_
          have Tw66' := hide (show World.there _ x20 0 23 from there_heap (cs := zCl.cs) N2.out)
          refine wp_store_as 40 (.tmp 20) (.tmp 94) rfl x20 0 zCl.cs (by rfl) (by rfl) (by exact Tw66'.out) (by kernel_rfl) (by simp [Value.oneCell', Cl.cs]) ?_
          intro w66' ew66'
          replace B := hide (show w66'.heap[b]? = some (.cells x.cs.toArray 31 (0, 0)) by rw [ew66']; exact other_heap (by omega) _ _ _ B.out)
          replace N1 := hide (show w66'.heap[x19]? = some (.cells x.cs.toArray 31 (0, 0)) by rw [ew66']; exact other_heap (by omega) _ _ _ N1.out)
          replace Q := hide (show Below wr.heap.size wr w66' by rw [ew66']; exact Q.out.trans (below_setCells _ _ _ (by have := Q.out.size; omega)))
          replace N2 := hide (show w66'.heap[x20]? = some (.cells zCl.cs.toArray 40 (0, 0)) by rw [ew66']; exact whole_heap zCl.cs (xs := zCl.cs) N2.out rfl)
          clear ew66' Tw66'
          refine ⟨keepsL_all (by kernel_rfl) (by kernel_rfl), ?_⟩
          go_simp
          refine wpAnyL_one (i := 11) (by kernel_rfl) ?_
          refine wpOp_do rfl rfl ?_
          go_simp
          refine ⟨keepsL_all (by kernel_rfl) (by kernel_rfl), ?_⟩
          go_simp
          refine wpAnyL_done (by kernel_rfl) ?_ _
          go_wp2_with fail
          go_meet
          exact ⟨x19, x20, rfl, rfl, rfl, N1, N2, by omega, by omega, by omega, Q⟩
        · refine wpOp_do rfl rfl ?_
          go_simp
          have N1 := hide (World.alloc_heap_new w61' (.cells zFi.cs.toArray 31))
          have zBx19 : b < w61'.heap.size := heap_lt B.out
          have zN2x19 : x20 < w61'.heap.size := heap_lt N2.out
          have zQx19 : wr.heap.size ≤ w61'.heap.size := Q.out.size
          have q68' : Below w61'.heap.size w61' (w61'.alloc (.cells zFi.cs.toArray 31)) := (Below.refl _ _).alloc (Nat.le_refl _) _
          replace B := hide (heap_below B.out q68')
          replace N2 := hide (heap_below N2.out q68')
          replace Q := hide (below_next Q.out Q.out.size q68')
          clear q68'
          refine ⟨keepsL_mk (by kernel_rfl) (.cons B.out .nil), ?_⟩
          change wpAnyL _ _ _ _ _ _ _ _ _ (w61'.alloc (.cells zFi.cs.toArray 31))
          generalize w61'.alloc (.cells zFi.cs.toArray 31) = w67' at *
          generalize w61'.heap.size = x19 at *
          go_simp
          refine wpAnyL_one (i := 2) (by kernel_rfl) ?_
          refine wpOp_do rfl rfl ?_
          go_simp
          have R1 := hide (CALL.out w67' Q.out)
          (with_reducible refine (R1.out).mono ?_)
          rintro ew69' w69' ⟨rfl, qw69'⟩
          replace B := hide (heap_below B.out qw69')
          replace N2 := hide (heap_below N2.out qw69')
          replace N1 := hide (heap_below N1.out qw69')
          replace Q := hide (below_next Q.out Q.out.size qw69')
          clear qw69'
          clear R1
          clear CALL
          go_simp
          refine ⟨keepsL_mk (by kernel_rfl) (.cons B.out .nil), ?_⟩
          go_simp
          refine wpAnyL_pure (i := 3) (v := .tuple #[.agg x.cs.toArray, .agg zCl.cs.toArray, .int .i64 0]) rfl rfl (by kernel_rfl) (by kernel_rfl) (by kernel_rfl) (by kernel_rfl) (by kernel_rfl) (fun _ _ _ h => hQ _ _ _ _ _ h) rfl (fun W => by go_simp) ?_
          go_simp
          refine wpAnyL_pure (i := 4) (v := .agg x.cs.toArray) rfl rfl (by kernel_rfl) (by kernel_rfl) (by kernel_rfl) (by kernel_rfl) (by kernel_rfl) (fun _ _ _ h => hQ _ _ _ _ _ h) rfl (fun W => by go_simp) ?_
          go_simp
          refine wpAnyL_pure (i := 5) (v := .agg zCl.cs.toArray) rfl rfl (by kernel_rfl) (by kernel_rfl) (by kernel_rfl) (by kernel_rfl) (by kernel_rfl) (fun _ _ _ h => hQ _ _ _ _ _ h) rfl (fun W => by go_simp) ?_
          go_simp
          refine wpAnyL_pure (i := 6) (v := .int .i64 0) rfl rfl (by kernel_rfl) (by kernel_rfl) (by kernel_rfl) (by kernel_rfl) (by kernel_rfl) (fun _ _ _ h => hQ _ _ _ _ _ h) rfl (fun W => by go_simp) ?_
          go_simp
          refine wpAnyL_one (i := 9) (by kernel_rfl) ?_
          refine wpOp_do rfl rfl ?_
          have Tw70' := hide (show World.there _ x19 0 7 from there_heap (cs := zFi.cs) N1.out)
          refine wp_store_as 31 (.tmp 19) (.tmp 93) rfl x19 0 x.cs (by rfl) (by rfl) (by exact Tw70'.out) (by kernel_rfl) (by simp [Value.oneCell', Fi.cs]) ?_
          intro w70' ew70'
          replace B := hide (show w70'.heap[b]? = some (.cells x.cs.toArray 31 (0, 0)) by rw [ew70']; exact other_heap (by omega) _ _ _ B.out)
          replace N2 := hide (show w70'.heap[x20]? = some (.cells zCl.cs.toArray 40 (0, 0)) by rw [ew70']; exact other_heap (by omega) _ _ _ N2.out)
          replace Q := hide (show Below wr.heap.size wr w70' by rw [ew70']; exact Q.out.trans (below_setCells _ _ _ (by have := Q.out.size; omega)))
          replace N1 := hide (show w70'.heap[x19]? = some (.cells x.cs.toArray 31 (0, 0)) by rw [ew70']; exact whole_heap x.cs (xs := zFi.cs) N1.out rfl)
          clear ew70' Tw70'
          refine ⟨keepsL_all (by kernel_rfl) (by kernel_rfl), ?_⟩
          go_simp
          refine wpAnyL_one (i := 10) (by kernel_rfl) ?_
          refine wpOp_do rfl rfl ?_
          have Tw71' := hide (show World.there _ x20 0 23 from there_heap (cs := zCl.cs) N2.out)
          refine wp_store_as 40 (.tmp 20) (.tmp 94) rfl x20 0 zCl.cs (by rfl) (by rfl) (by exact Tw71'.out) (by kernel_rfl) (by simp [Value.oneCell', Cl.cs]) ?_
          intro w71' ew71'
          replace B := hide (show w71'.heap[b]? = some (.cells x.cs.toArray 31 (0, 0)) by rw [ew71']; exact other_heap (by omega) _ _ _ B.out)
          replace N1 := hide (show w71'.heap[x19]? = some (.cells x.cs.toArray 31 (0, 0)) by rw [ew71']; exact other_heap (by omega) _ _ _ N1.out)
          replace Q := hide (show Below wr.heap.size wr w71' by rw [ew71']; exact Q.out.trans (below_setCells _ _ _ (by have := Q.out.size; omega)))
          replace N2 := hide (show w71'.heap[x20]? = some (.cells zCl.cs.toArray 40 (0, 0)) by rw [ew71']; exact whole_heap zCl.cs (xs := zCl.cs) N2.out rfl)
          clear ew71' Tw71'
          refine ⟨keepsL_all (by kernel_rfl) (by kernel_rfl), ?_⟩
          go_simp
          refine wpAnyL_one (i := 11) (by kernel_rfl) ?_
          refine wpOp_do rfl rfl ?_
          go_simp
          refine ⟨keepsL_all (by kernel_rfl) (by kernel_rfl), ?_⟩
          go_simp
          refine wpAnyL_done (by kernel_rfl) ?_ _
          go_wp2_with fail
          go_meet
          exact ⟨x19, x20, rfl, rfl, rfl, N1, N2, by omega, by omega, by omega, Q⟩
      · refine wpOp_do rfl rfl ?_
        go_simp
        have N1 := hide (World.alloc_heap_new w59' (.cells zFi.cs.toArray 31))
        have zBx19 : b < w59'.heap.size := heap_lt B.out
        have zN2x19 : x20 < w59'.heap.size := heap_lt N2.out
        have zQx19 : wr.heap.size ≤ w59'.heap.size := Q.out.size
        have q73' : Below w59'.heap.size w59' (w59'.alloc (.cells zFi.cs.toArray 31)) := (Below.refl _ _).alloc (Nat.le_refl _) _
        replace B := hide (heap_below B.out q73')
        replace N2 := hide (heap_below N2.out q73')
        replace Q := hide (below_next Q.out Q.out.size q73')
        clear q73'
        refine ⟨keepsL_mk (by kernel_rfl) (.cons B.out .nil), ?_⟩
        change wpAnyL _ _ _ _ _ _ _ _ _ (w59'.alloc (.cells zFi.cs.toArray 31))
        generalize w59'.alloc (.cells zFi.cs.toArray 31) = w72' at *
        generalize w59'.heap.size = x19 at *
        go_simp
        refine wpAnyL_one (i := 1) (by kernel_rfl) ?_
        refine wpOp_do rfl rfl ?_
        go_simp
        (with_reducible refine (NC.out _).mono ?_)
        rintro ew74' w74' ⟨rfl, qw74'⟩
        replace B := hide (heap_below B.out qw74')
        replace N2 := hide (heap_below N2.out qw74')
        replace N1 := hide (heap_below N1.out qw74')
        replace Q := hide (below_next Q.out Q.out.size qw74')
        clear qw74'
        go_simp
        refine ⟨keepsL_mk (by kernel_rfl) (.cons B.out .nil), ?_⟩
        go_simp
        refine wpAnyL_one (i := 2) (by kernel_rfl) ?_
        refine wpOp_do rfl rfl ?_
        go_simp
        have R1 := hide (CALL.out w74' Q.out)
        (with_reducible refine (R1.out).mono ?_)
        rintro ew75' w75' ⟨rfl, qw75'⟩
        replace B := hide (heap_below B.out qw75')
        replace N2 := hide (heap_below N2.out qw75')
        replace N1 := hide (heap_below N1.out qw75')
        replace Q := hide (below_next Q.out Q.out.size qw75')
        clear qw75'
        clear R1
        clear CALL
        go_simp
        refine ⟨keepsL_mk (by kernel_rfl) (.cons B.out .nil), ?_⟩
        go_simp
        refine wpAnyL_pure (i := 3) (v := .tuple #[.agg x.cs.toArray, .agg zCl.cs.toArray, .int .i64 0]) rfl rfl (by kernel_rfl) (by kernel_rfl) (by kernel_rfl) (by kernel_rfl) (by kernel_rfl) (fun _ _ _ h => hQ _ _ _ _ _ h) rfl (fun W => by go_simp) ?_
        go_simp
        refine wpAnyL_pure (i := 4) (v := .agg x.cs.toArray) rfl rfl (by kernel_rfl) (by kernel_rfl) (by kernel_rfl) (by kernel_rfl) (by kernel_rfl) (fun _ _ _ h => hQ _ _ _ _ _ h) rfl (fun W => by go_simp) ?_
        go_simp
        refine wpAnyL_pure (i := 5) (v := .agg zCl.cs.toArray) rfl rfl (by kernel_rfl) (by kernel_rfl) (by kernel_rfl) (by kernel_rfl) (by kernel_rfl) (fun _ _ _ h => hQ _ _ _ _ _ h) rfl (fun W => by go_simp) ?_
        go_simp
        refine wpAnyL_pure (i := 6) (v := .int .i64 0) rfl rfl (by kernel_rfl) (by kernel_rfl) (by kernel_rfl) (by kernel_rfl) (by kernel_rfl) (fun _ _ _ h => hQ _ _ _ _ _ h) rfl (fun W => by go_simp) ?_
        go_simp
        refine wpAnyL_one (i := 9) (by kernel_rfl) ?_
        refine wpOp_do rfl rfl ?_
        have Tw76' := hide (show World.there _ x19 0 7 from there_heap (cs := zFi.cs) N1.out)
        refine wp_store_as 31 (.tmp 19) (.tmp 93) rfl x19 0 x.cs (by rfl) (by rfl) (by exact Tw76'.out) (by kernel_rfl) (by simp [Value.oneCell', Fi.cs]) ?_
        intro w76' ew76'
        replace B := hide (show w76'.heap[b]? = some (.cells x.cs.toArray 31 (0, 0)) by rw [ew76']; exact other_heap (by omega) _ _ _ B.out)
        replace N2 := hide (show w76'.heap[x20]? = some (.cells zCl.cs.toArray 40 (0, 0)) by rw [ew76']; exact other_heap (by omega) _ _ _ N2.out)
        replace Q := hide (show Below wr.heap.size wr w76' by rw [ew76']; exact Q.out.trans (below_setCells _ _ _ (by have := Q.out.size; omega)))
        replace N1 := hide (show w76'.heap[x19]? = some (.cells x.cs.toArray 31 (0, 0)) by rw [ew76']; exact whole_heap x.cs (xs := zFi.cs) N1.out rfl)
        clear ew76' Tw76'
        refine ⟨keepsL_all (by kernel_rfl) (by kernel_rfl), ?_⟩
        go_simp
        refine wpAnyL_one (i := 10) (by kernel_rfl) ?_
        refine wpOp_do rfl rfl ?_
        have Tw77' := hide (show World.there _ x20 0 23 from there_heap (cs := zCl.cs) N2.out)
        refine wp_store_as 40 (.tmp 20) (.tmp 94) rfl x20 0 zCl.cs (by rfl) (by rfl) (by exact Tw77'.out) (by kernel_rfl) (by simp [Value.oneCell', Cl.cs]) ?_
        intro w77' ew77'
        replace B := hide (show w77'.heap[b]? = some (.cells x.cs.toArray 31 (0, 0)) by rw [ew77']; exact other_heap (by omega) _ _ _ B.out)
        replace N1 := hide (show w77'.heap[x19]? = some (.cells x.cs.toArray 31 (0, 0)) by rw [ew77']; exact other_heap (by omega) _ _ _ N1.out)
        replace Q := hide (show Below wr.heap.size wr w77' by rw [ew77']; exact Q.out.trans (below_setCells _ _ _ (by have := Q.out.size; omega)))
        replace N2 := hide (show w77'.heap[x20]? = some (.cells zCl.cs.toArray 40 (0, 0)) by rw [ew77']; exact whole_heap zCl.cs (xs := zCl.cs) N2.out rfl)
        clear ew77' Tw77'
        refine ⟨keepsL_all (by kernel_rfl) (by kernel_rfl), ?_⟩
        go_simp
        refine wpAnyL_one (i := 11) (by kernel_rfl) ?_
        refine wpOp_do rfl rfl ?_
        go_simp
        refine ⟨keepsL_all (by kernel_rfl) (by kernel_rfl), ?_⟩
        go_simp
        refine wpAnyL_done (by kernel_rfl) ?_ _
        go_wp2_with fail
        go_meet
        exact ⟨x19, x20, rfl, rfl, rfl, N1, N2, by omega, by omega, by omega, Q⟩

end Go.Proofs.YtkfedgjepiljiaaDoor
