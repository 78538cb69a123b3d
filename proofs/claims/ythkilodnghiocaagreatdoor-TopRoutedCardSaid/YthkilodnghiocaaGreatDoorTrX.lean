/- Parts of the walk of TopRouted: the texts that are put. -/
import Derived.Test.YthkilodnghiocaaGreatDoorMgTrG
namespace Go.Proofs.YthkilodnghiocaaGreatDoor
open Go.ChangeShapes Go.WideShapes Go.ChangeAt Go.RowKit
open FP (Fr bitsF bodyF)

set_option maxRecDepth 100000 in
set_option maxHeartbeats 64000000 in
theorem topRouted_puts (w1 ws : World) (b N lc pc oc : Nat) (LA PA OA : Option Addr) (l : List ByteArray) (zb : w1.heap.size ≤ b) (zbN : N = b + 1) {sl0 sl1 sl2 sl3 sl4 sl7 sl8 sl9 sl10 sl11 sl12 sl13 sl14 sl15 sl16 sl17 sl18 sl19 sl20 sl21 sl22 sl23 sl24 sl25 sl26 sl27 sl28 sl29 sl30 sl34 sl35 sl36 sl37 sl38 sl39 sl40 sl41 sl42 sl43 sl44 sl45 sl46 sl47 sl48 sl49 sl50 sl51 sl52 sl53 sl54 sl55 sl56 sl57 sl58 sl59 sl60 sl61 sl62 sl63 sl64 sl65 sl66 sl67 sl68 sl69 sl70 sl71 sl72 sl73 sl74 sl75 sl76 sl77 sl78 sl79 sl80 sl81 sl82 sl83 sl84 sl85 sl86 sl87 sl88 sl89 sl90 sl91 sl92 sl93 sl94 sl95 sl96 sl97 sl98 sl99 sl100 sl101 sl102 sl103 sl104 sl105 sl106 sl107 sl108 sl109 sl110 sl111 sl112 sl113 sl114 sl115 sl116 sl117 sl118 sl119 sl120 sl121 sl122 sl123 sl124 sl125 sl126 sl127 sl128 sl129 sl130 sl131 sl132 sl133 sl134 sl135 sl136 sl137 sl138 sl139 sl140 sl141 sl142 sl143 sl144 sl145 sl146 sl147 sl148 sl149 sl150 sl151 sl152 sl153 sl154 sl155 sl156 sl157 sl158 sl159 sl160 : Value} {K' : Act → World → Prop} {Q' : Exit → Act → World → Prop} {Cd : Code} (hC : Cd = partC Tryz.f3.body (isBlock 0))
    (B : Hid (ws.heap[b]? = some (.cells (rtL PA pc OA oc).toArray 31 (0, 0))))
    (H : Hid (Rt ws PA OA none 0 []))
    (AW : Hid (Rt.Away (ZS b b none) PA OA none 0))
    (HL : Hid (StR w1 w1.heap.size LA l))
    (HLs : Hid (∀ s ∈ l, s.size ≤ 9223372036854775807))
    (Q : Hid (Below w1.heap.size w1 ws))
    (hQ : ∀ c (a : Act) d v w, Q' (.panic c) (a.put d v) w → Q' (.panic c) a w)
    (hK : ∀ (v4 v6 v7 v8 v9 v10 v11 v12 v33 v34 v35 v36 v37 v38 v39 v40 v41 v42 v43 v44 v45 v46 v47 v48 v49 v50 v51 v52 v53 v54 v55 v56 v57 v58 v59 v60 v61 v62 v63 v64 v65 v66 v67 v68 v69 v70 v71 v72 v73 v74 v75 v76 : Value) (W' : World), (fun v6 W => ∃ (PA A SA : Option Addr) (pc c sc : Nat), v6 = .slice SA (wantK l l.length).length sc ∧ Hid (W.heap[b]? = some (.cells (rtL PA pc OA oc).toArray 31 (0, 0))) ∧ Hid (Rt W PA OA A c (wantK l l.length)) ∧ Hid (Rt.Away (ZS b b SA) PA OA A (wantK l l.length).length) ∧ Hid (Own W N 9 1 SA sc (stRow (wantK l l.length))) ∧ Hid (Below w1.heap.size w1 W)) v6 W' → K' ⟨List.toArray (sl0 :: sl1 :: sl2 :: sl3 :: v4 :: (.pointer (some ⟨b, 0, none⟩)) :: v6 :: v7 :: v8 :: v9 :: v10 :: v11 :: v12 :: sl13 :: sl14 :: sl15 :: sl16 :: sl17 :: sl18 :: sl19 :: sl20 :: sl21 :: sl22 :: sl23 :: sl24 :: sl25 :: sl26 :: sl27 :: sl28 :: sl29 :: sl30 :: (.slice LA l.length lc) :: (.int .i64 l.length) :: v33 :: v34 :: v35 :: v36 :: v37 :: v38 :: v39 :: v40 :: v41 :: v42 :: v43 :: v44 :: v45 :: v46 :: v47 :: v48 :: v49 :: v50 :: v51 :: v52 :: v53 :: v54 :: v55 :: v56 :: v57 :: v58 :: v59 :: v60 :: v61 :: v62 :: v63 :: v64 :: v65 :: v66 :: v67 :: v68 :: v69 :: v70 :: v71 :: v72 :: v73 :: v74 :: v75 :: v76 :: sl77 :: sl78 :: sl79 :: sl80 :: sl81 :: sl82 :: sl83 :: sl84 :: sl85 :: sl86 :: sl87 :: sl88 :: sl89 :: sl90 :: sl91 :: sl92 :: sl93 :: sl94 :: sl95 :: sl96 :: sl97 :: sl98 :: sl99 :: sl100 :: sl101 :: sl102 :: sl103 :: sl104 :: sl105 :: sl106 :: sl107 :: sl108 :: sl109 :: sl110 :: sl111 :: sl112 :: sl113 :: sl114 :: sl115 :: sl116 :: sl117 :: sl118 :: sl119 :: sl120 :: sl121 :: sl122 :: sl123 :: sl124 :: sl125 :: sl126 :: sl127 :: sl128 :: sl129 :: sl130 :: sl131 :: sl132 :: sl133 :: sl134 :: sl135 :: sl136 :: sl137 :: sl138 :: sl139 :: sl140 :: sl141 :: sl142 :: sl143 :: sl144 :: sl145 :: sl146 :: sl147 :: sl148 :: sl149 :: sl150 :: sl151 :: sl152 :: sl153 :: sl154 :: sl155 :: sl156 :: sl157 :: sl158 :: sl159 :: sl160 :: []), []⟩ W') :
    Cd.wp Tryz.prog (Exit.then K' Q') ⟨List.toArray (sl0 :: sl1 :: sl2 :: sl3 :: sl4 :: (.pointer (some ⟨b, 0, none⟩)) :: (.slice none 0 0) :: sl7 :: sl8 :: sl9 :: sl10 :: sl11 :: sl12 :: sl13 :: sl14 :: sl15 :: sl16 :: sl17 :: sl18 :: sl19 :: sl20 :: sl21 :: sl22 :: sl23 :: sl24 :: sl25 :: sl26 :: sl27 :: sl28 :: sl29 :: sl30 :: (.slice LA l.length lc) :: (.int .i64 l.length) :: (.int .i64 0) :: sl34 :: sl35 :: sl36 :: sl37 :: sl38 :: sl39 :: sl40 :: sl41 :: sl42 :: sl43 :: sl44 :: sl45 :: sl46 :: sl47 :: sl48 :: sl49 :: sl50 :: sl51 :: sl52 :: sl53 :: sl54 :: sl55 :: sl56 :: sl57 :: sl58 :: sl59 :: sl60 :: sl61 :: sl62 :: sl63 :: sl64 :: sl65 :: sl66 :: sl67 :: sl68 :: sl69 :: sl70 :: sl71 :: sl72 :: sl73 :: sl74 :: sl75 :: sl76 :: sl77 :: sl78 :: sl79 :: sl80 :: sl81 :: sl82 :: sl83 :: sl84 :: sl85 :: sl86 :: sl87 :: sl88 :: sl89 :: sl90 :: sl91 :: sl92 :: sl93 :: sl94 :: sl95 :: sl96 :: sl97 :: sl98 :: sl99 :: sl100 :: sl101 :: sl102 :: sl103 :: sl104 :: sl105 :: sl106 :: sl107 :: sl108 :: sl109 :: sl110 :: sl111 :: sl112 :: sl113 :: sl114 :: sl115 :: sl116 :: sl117 :: sl118 :: sl119 :: sl120 :: sl121 :: sl122 :: sl123 :: sl124 :: sl125 :: sl126 :: sl127 :: sl128 :: sl129 :: sl130 :: sl131 :: sl132 :: sl133 :: sl134 :: sl135 :: sl136 :: sl137 :: sl138 :: sl139 :: sl140 :: sl141 :: sl142 :: sl143 :: sl144 :: sl145 :: sl146 :: sl147 :: sl148 :: sl149 :: sl150 :: sl151 :: sl152 :: sl153 :: sl154 :: sl155 :: sl156 :: sl157 :: sl158 :: sl159 :: sl160 :: []), []⟩ ws := by
  subst hC
  conv => arg 2; whnf
  go_cut [6] from 99999 (fun v6 W => ∃ (PA A SA : Option Addr) (pc c sc : Nat), v6 = .slice SA (wantK l l.length).length sc ∧ Hid (W.heap[b]? = some (.cells (rtL PA pc OA oc).toArray 31 (0, 0))) ∧ Hid (Rt W PA OA A c (wantK l l.length)) ∧ Hid (Rt.Away (ZS b b SA) PA OA A (wantK l l.length).length) ∧ Hid (Own W N 9 1 SA sc (stRow (wantK l l.length))) ∧ Hid (Below w1.heap.size w1 W))
  case rest => exact hK _ _ _ _ _ _ _ _ _ _ _ _ _ _ _ _ _ _ _ _ _ _ _ _ _ _ _ _ _ _ _ _ _ _ _ _ _ _ _ _ _ _ _ _ _ _ _ _ _ _ _ _ _ hcut
  case first =>
    clear hK
    replace zbN := hide zbN
    go_wp2_with fail
    go_loopw [33, 6] (fun vi vs W => ∃ k : Nat, k ≤ l.length ∧ k ≤ 6 ∧ vi = .int .i64 k ∧ ∃ (PA A SA : Option Addr) (pc c sc : Nat), vs = .slice SA (wantK l k).length sc ∧ Hid (W.heap[b]? = some (.cells (rtL PA pc OA oc).toArray 31 (0, 0))) ∧ Hid (Rt W PA OA A c (wantK l k)) ∧ Hid (Rt.Away (ZS b b SA) PA OA A (wantK l k).length) ∧ Hid (Own W N 9 1 SA sc (stRow (wantK l k))) ∧ Hid (Below w1.heap.size w1 W)) (fun vi _ _ => l.length - (intOf vi).toNat)
    case atStart => exact ⟨0, Nat.zero_le _, by omega, rfl, PA, none, none, pc, 0, 0, rfl, B, H, AW, hide Own.nil, Q⟩
    case round =>
      clear B H AW Q
      obtain ⟨k, hk, hk6, rfl, PA, A, SA, pc, c, sc, rfl, B, H, AW, OW, Q⟩ := hrel
      by_cases hlt : k < l.length
      · have hki : (k : Int) < (l.length : Int) := by omega
        obtain ⟨lb, lo, rfl, hlb, c0⟩ := HL.out.at_ hlt
        replace c0 := cellBelow Q.out hlb c0
        have hm8 := HLs.out _ (List.getElem_mem hlt)
        have WS := hide (fun h4 : k < 4 => wantK_step hlt h4)
        have hcut : cutS l[k] = l[k].extract 0 (min l[k].size 8) := rfl
        have hxs := cutS_le l[k]
        obtain ⟨x, hx⟩ : ∃ x, x = cutS l[k] := ⟨_, rfl⟩
        rw [← hx] at hcut WS hxs
        clear hx
        generalize l[k] = s0 at *
        obtain ⟨m, em, hm⟩ := run_min (P := Tryz.prog) (s0.size : Int) 8
        obtain ⟨q, hq⟩ : ∃ q : Nat, q = min s0.size 8 := ⟨_, rfl⟩
        have hmq : m = q := by omega
        subst hmq
        have hql : q ≤ s0.size := by omega
        rw [← hq] at hcut
        clear hq em
        replace hcut := hide hcut
        have hwl := wantK_len l k hk
        replace hwl := hide hwl
        replace hxs := hide hxs
        go_upto_region 7 with fail
        clear c0 hm
        rw [show ByteArray.extract s0 0 q = x from hcut.out.symm]
        clear hcut hm8 hql
        have zbN8 : b < N ∧ N ≤ b + 1 := by have := zbN.out; omega
        have hzs : ∀ k9, ZS b b SA k9 → k9 < wr.heap.size := fun k9 h9 => by
          have := heap_lt B.out
          rcases h9 with h | h | ⟨a9, ha, hb⟩
          · omega
          · omega
          · have := (own_in OW.out a9 ha).2; omega
        replace hzs := hide hzs
        clear zbN8
        by_cases h4 : k < 4
        · have hk4 : (k : Int) < 4 := by omega
          have hk46 : ¬ (6 : Int) ≤ (k : Int) := by omega
          have hk44 : ¬ (4 : Int) ≤ (k : Int) := by omega
          have P1 := hide (rtPut_ok x (wantK l k) PA OA A pc oc c wr H.out hxs.out (by rw [hwl.out]; omega))
          go_wp2_with (refine wpList_load_row rfl 31 (.tmp 5) (by rfl) b (by rfl) 31 (rtL PA pc OA oc).toArray (0, 0) _ (by exact B.out) Tryz.underlying31 (by rfl) (by kernel_rfl) ?_)
          (with_reducible refine P1.out.mono ?_)
          rintro ew1' w1' ⟨PA2, pc2, A2, c2, rfl, hRt, hF1, hF2, qw1'⟩
          have AW2 := hide (show Rt.Away (ZS b b SA) PA2 OA A2 (wantK l k ++ [x]).length from ⟨offS_fresh hF1 hzs.out, AW.out.o, offS_fresh hF2 hzs.out⟩)
          have HR2 := hide hRt
          clear hRt hF1 P1 H AW hzs hF2
          replace B := hide (heap_below B.out qw1')
          replace OW := hide ((OW.out.grown qw1'))
          replace Q := hide (below_next Q.out Q.out.size qw1')
          clear qw1'
          have X := World.alloc_heap_new w1' (.cells ([.slice none 0 0, .slice none 0 0]).toArray 31)
          have zBxr : b < w1'.heap.size := heap_lt B.out
          have zQxr : w1.heap.size ≤ w1'.heap.size := Q.out.size
          obtain ⟨w3', hw3'⟩ : ∃ wx, wx = w1'.alloc (.cells ([.slice none 0 0, .slice none 0 0]).toArray 31) := ⟨_, rfl⟩
          have q2' := hide (show Below w1'.heap.size w1' w3' by rw [hw3']; exact (Below.refl _ _).alloc (Nat.le_refl _) _)
          rw [← hw3'] at X
          replace X := hide X
          have Tw4' := hide (show (w1'.alloc (.cells ([.slice none 0 0, .slice none 0 0]).toArray 31)).there w1'.heap.size 0 2 by rw [← hw3']; exact there_heap (cs := [.slice none 0 0, .slice none 0 0]) X.out)
          go_wp2_with (refine wpList_store_hid (by rfl) 31 (.tmp 9) (.tmp 47) (by rfl) w1'.heap.size 0 (rtL PA2 pc2 OA oc) (by rfl) (by rfl) (by exact Tw4'.out) (by kernel_rfl) (by simp [Value.oneCell', rtL]) ?_)
          intro w4' ew4'
          replace ew4' : Hid (w4' = w3'.setCells w1'.heap.size 0 (rtL PA2 pc2 OA oc)) := by rw [hw3']; exact ew4'
          replace X := hide (show w4'.heap[w1'.heap.size]? = some (.cells (rtL PA2 pc2 OA oc).toArray 31 (0, 0)) by rw [ew4'.out]; exact whole_heap (rtL PA2 pc2 OA oc) (xs := [.slice none 0 0, .slice none 0 0]) X.out rfl)
          replace q2' := hide (show Below w1'.heap.size w1' w4' by rw [ew4'.out]; exact q2'.out.trans (below_setCells _ _ _ (by omega)))
          clear ew4' Tw4' hw3'
          replace B := hide (heap_below B.out q2'.out)
          replace OW := hide ((OW.out.grown q2'.out))
          replace HR2 := hide ((HR2.out.next q2'.out))
          replace Q := hide (below_next Q.out Q.out.size q2'.out)
          clear q2'
          generalize w1'.heap.size = xr at *
          have Tw5' := hide (show World.there _ b 0 2 from there_heap (cs := rtL PA pc OA oc) B.out)
          go_wp2_with (first | (refine wpList_load_row rfl 31 (.tmp 9) (by rfl) xr (by rfl) 31 (rtL PA2 pc2 OA oc).toArray (0, 0) _ (by exact X.out) Tryz.underlying31 (by rfl) (by kernel_rfl) ?_) | (refine wpList_store_hid (by rfl) 31 (.tmp 5) (.tmp 67) (by rfl) b 0 (rtL PA2 pc2 OA oc) (by rfl) (by rfl) (by exact Tw5'.out) (by kernel_rfl) (by simp [Value.oneCell', rtL]) ?_))
          intro w5' ew5'
          replace X := hide (show w5'.heap[xr]? = some (.cells (rtL PA2 pc2 OA oc).toArray 31 (0, 0)) by rw [ew5'.out]; exact other_heap (by omega) _ _ _ X.out)
          replace OW := hide (show Own w5' N 9 1 SA sc (stRow (wantK l k)) by rw [ew5'.out]; exact own_setCells (by have := zbN.out; omega) _ _ _ OW.out)
          replace HR2 := hide (show Rt w5' PA2 OA A2 c2 (wantK l k ++ [x]) by rw [ew5'.out]; exact HR2.out.kp (Kp.set (S := ZS b b SA) _ b _ _ (.inl rfl)) AW2.out)
          replace Q := hide (show Below w1.heap.size w1 w5' by rw [ew5'.out]; exact Q.out.trans (below_setCells _ _ _ (by have := Q.out.size; omega)))
          replace B := hide (show w5'.heap[b]? = some (.cells (rtL PA2 pc2 OA oc).toArray 31 (0, 0)) by rw [ew5'.out]; exact whole_heap (rtL PA2 pc2 OA oc) (xs := rtL PA pc OA oc) B.out rfl)
          clear ew5' Tw5'
          clear X 
          have q9 : Below w5'.heap.size w5' (w5'.alloc (.cells #[.string x] 9)) := (Below.refl _ _).alloc (Nat.le_refl _) _
          have N2 := hide (World.alloc_heap_new w5' (.cells #[.string x] 9))
          replace B := hide (heap_below B.out q9)
          replace OW := hide ((OW.out.grown q9))
          replace HR2 := hide ((HR2.out.next q9))
          replace Q := hide (below_next Q.out Q.out.size q9)
          clear q9
          have hwk : (wantK l k).length ≤ 4 := by rw [hwl.out]; omega
          replace hwk := hide hwk
          have zB9 := heap_lt B.out
          have zbN9 : b < N := by have := zbN.out; omega
          have zbN7 : N ≤ b + 1 := by have := zbN.out; omega
          have zN9 : N ≤ (w5'.alloc (.cells #[.string x] 9)).heap.size := by omega
          go_wp2_with (at_builtin; refine wpList_append_lies1 _ rfl _ _ 22 rfl slStT N _ _ _ (stRow (wantK l k)) (by rfl) (by exact OW.out) _ 1 [.string x] (by rfl) (by exact rd_row (cs := [.string x]) N2.out) (by rfl) (by simp [Value.oneCell']) (by have := hwk.out; simp [stRow]; omega) (by have := hwk.out; simp [stRow, maxLen]; omega) (by exact zN9) (by simp [stRow]) ?_)
          intro SA3 sc3 w9 oN gN lN
          have kp := kp_appendG gN
          have zs := zs_after (W := (w5'.alloc (.cells #[.string x] 9))) (b := b) (d := b) oN (by simp) (fun g9 off9 h9 => by have := lN g9 off9 h9; simpa using this)
          replace B := hide (heap_grownB B.out gN (own_not OW.out (by omega)))
          have AW3 := hide (show Rt.Away (ZS b b SA3) PA2 OA A2 (wantK l k ++ [x]).length from (AW2.out.or HR2.out.away).mono zs)
          replace HR2 := hide (HR2.out.kp kp (AW2.out.mono (fun k9 h9 => .inr (.inr h9))))
          replace Q := hide (below_append Q.out gN OW.out (by omega) (by have := Q.out.size; omega))
          replace OW := hide (show Own w9 N 9 1 SA3 sc3 (stRow (wantK l (k + 1))) by rw [WS.out h4]; unfold stRow; rw [List.map_append]; exact oN)
          clear oN gN lN kp zs N2 zN9 zbN9 zbN7
          rw [← WS.out h4] at HR2 AW3
          go_wp2_with fail
          go_roundw
          case rel => exact ⟨k + 1, by omega, by omega, by go_num, PA2, A2, SA3, pc2, c2, sc3, by rw [WS.out h4, List.length_append]; rfl, B, HR2, AW3, OW, Q⟩
          case measure => simp [intOf]; omega
        · have hk4 : ¬ (k : Int) < 4 := by omega
          have hk44 : (4 : Int) ≤ (k : Int) := by omega
          have P1 := hide (rtPut_full x (wantK l k) PA OA A pc oc c wr H.out hxs.out (by rw [hwl.out]; omega))
          go_wp2_with (refine wpList_load_row rfl 31 (.tmp 5) (by rfl) b (by rfl) 31 (rtL PA pc OA oc).toArray (0, 0) _ (by exact B.out) Tryz.underlying31 (by rfl) (by kernel_rfl) ?_)
          (with_reducible refine P1.out.mono ?_)
          rintro ew6' w6' ⟨PA2, pc2, rfl, hRt, hF1, qw6'⟩
          have AW2 := hide (show Rt.Away (ZS b b SA) PA2 OA A (wantK l k).length from ⟨offS_fresh hF1 hzs.out, AW.out.o, AW.out.i⟩)
          have HR2 := hide hRt
          clear hRt hF1 P1 H AW hzs
          replace B := hide (heap_below B.out qw6')
          replace OW := hide ((OW.out.grown qw6'))
          replace Q := hide (below_next Q.out Q.out.size qw6')
          clear qw6'
          have X := World.alloc_heap_new w6' (.cells ([.slice none 0 0, .slice none 0 0]).toArray 31)
          have zBxr : b < w6'.heap.size := heap_lt B.out
          have zQxr : w1.heap.size ≤ w6'.heap.size := Q.out.size
          obtain ⟨w8', hw8'⟩ : ∃ wx, wx = w6'.alloc (.cells ([.slice none 0 0, .slice none 0 0]).toArray 31) := ⟨_, rfl⟩
          have q7' := hide (show Below w6'.heap.size w6' w8' by rw [hw8']; exact (Below.refl _ _).alloc (Nat.le_refl _) _)
          rw [← hw8'] at X
          replace X := hide X
          have Tw9' := hide (show (w6'.alloc (.cells ([.slice none 0 0, .slice none 0 0]).toArray 31)).there w6'.heap.size 0 2 by rw [← hw8']; exact there_heap (cs := [.slice none 0 0, .slice none 0 0]) X.out)
          go_wp2_with (refine wpList_store_hid (by rfl) 31 (.tmp 9) (.tmp 47) (by rfl) w6'.heap.size 0 (rtL PA2 pc2 OA oc) (by rfl) (by rfl) (by exact Tw9'.out) (by kernel_rfl) (by simp [Value.oneCell', rtL]) ?_)
          intro w9' ew9'
          replace ew9' : Hid (w9' = w8'.setCells w6'.heap.size 0 (rtL PA2 pc2 OA oc)) := by rw [hw8']; exact ew9'
          replace X := hide (show w9'.heap[w6'.heap.size]? = some (.cells (rtL PA2 pc2 OA oc).toArray 31 (0, 0)) by rw [ew9'.out]; exact whole_heap (rtL PA2 pc2 OA oc) (xs := [.slice none 0 0, .slice none 0 0]) X.out rfl)
          replace q7' := hide (show Below w6'.heap.size w6' w9' by rw [ew9'.out]; exact q7'.out.trans (below_setCells _ _ _ (by omega)))
          clear ew9' Tw9' hw8'
          replace B := hide (heap_below B.out q7'.out)
          replace OW := hide ((OW.out.grown q7'.out))
          replace HR2 := hide ((HR2.out.next q7'.out))
          replace Q := hide (below_next Q.out Q.out.size q7'.out)
          clear q7'
          generalize w6'.heap.size = xr at *
          have Tw10' := hide (show World.there _ b 0 2 from there_heap (cs := rtL PA pc OA oc) B.out)
          go_wp2_with (first | (refine wpList_load_row rfl 31 (.tmp 9) (by rfl) xr (by rfl) 31 (rtL PA2 pc2 OA oc).toArray (0, 0) _ (by exact X.out) Tryz.underlying31 (by rfl) (by kernel_rfl) ?_) | (refine wpList_store_hid (by rfl) 31 (.tmp 5) (.tmp 67) (by rfl) b 0 (rtL PA2 pc2 OA oc) (by rfl) (by rfl) (by exact Tw10'.out) (by kernel_rfl) (by simp [Value.oneCell', rtL]) ?_))
          intro w10' ew10'
          replace X := hide (show w10'.heap[xr]? = some (.cells (rtL PA2 pc2 OA oc).toArray 31 (0, 0)) by rw [ew10'.out]; exact other_heap (by omega) _ _ _ X.out)
          replace OW := hide (show Own w10' N 9 1 SA sc (stRow (wantK l k)) by rw [ew10'.out]; exact own_setCells (by have := zbN.out; omega) _ _ _ OW.out)
          replace HR2 := hide (show Rt w10' PA2 OA A c (wantK l k) by rw [ew10'.out]; exact HR2.out.kp (Kp.set (S := ZS b b SA) _ b _ _ (.inl rfl)) AW2.out)
          replace Q := hide (show Below w1.heap.size w1 w10' by rw [ew10'.out]; exact Q.out.trans (below_setCells _ _ _ (by have := Q.out.size; omega)))
          replace B := hide (show w10'.heap[b]? = some (.cells (rtL PA2 pc2 OA oc).toArray 31 (0, 0)) by rw [ew10'.out]; exact whole_heap (rtL PA2 pc2 OA oc) (xs := rtL PA pc OA oc) B.out rfl)
          clear ew10' Tw10'
          clear X 
          have WE := hide (wantK_same (l := l) (k := k) (j := k + 1) (by omega) (by omega))
          have WF := hide (wantK_same (l := l) (k := k) (j := l.length) (by omega) (by omega))
          by_cases h6 : (6 : Int) ≤ (k : Int)
          · skip
            rw [WF.out] at HR2 AW2 OW
            go_wp2_with fail
            go_meet
            exact ⟨PA2, A, SA, pc2, c, sc, by rw [← WF.out], B, HR2, AW2, OW, Q⟩
          · skip
            rw [WE.out] at HR2 AW2 OW
            go_wp2_with fail
            go_roundw
            case rel => exact ⟨k + 1, by omega, by omega, by go_num, PA2, A, SA, pc2, c, sc, by rw [WE.out], B, HR2, AW2, OW, Q⟩
            case measure => simp [intOf]; omega
      · obtain rfl : k = l.length := by omega
        have hki : ¬ (l.length : Int) < (l.length : Int) := by omega
        go_wp2_with fail
        go_meet
        exact ⟨PA, A, SA, pc, c, sc, rfl, B, H, AW, OW, Q⟩
end Go.Proofs.YthkilodnghiocaaGreatDoor
