/- Parts of the walk of campanilelaw07.CtlStays. -/
import Derived.Test.YtjfgapljfbkfiaaDoorMgCsYP
import Derived.Test.YtjfgapljfbkfiaaDoorCsCP
namespace Go.Proofs.YtjfgapljfbkfiaaDoor
open Go.ChangeShapes Go.WideShapes Go.ChangeAt Go.RowKit
open FP (Fr bitsF bodyF)

theorem bl_cell {w : World} {B : Nat} {A : Option Addr} {l : List Bool} (h : Rd w B A 1 (l.map fun b => [.bool b])) {k : Nat} (hk : k < l.length) : ∃ b off, A = some ⟨b, off, none⟩ ∧ w.cell? ⟨b, off + k, none⟩ = some (.bool l[k]) := by
  obtain ⟨b, off, e, hb, hc⟩ := h (by rw [List.length_map]; omega)
  have hx : (l.map fun b => [Value.bool b])[k]? = some [.bool l[k]] := by simp [hk]
  have := hc k _ 0 _ hx rfl
  rw [Nat.mul_one, Nat.add_zero] at this
  exact ⟨b, off, e, this⟩
theorem frb_box {W : World} {b : Nat} {f : Fr} {t : TypeId} {fz : Nat × Nat} (h : W.heap[b]? = some (.cells (frc f).toArray t fz)) : W.cell? ⟨b, 0, none⟩ = some (.int .u32 f.id) ∧ W.cell? ⟨b, 1, none⟩ = some (.bool f.ext) ∧ W.cell? ⟨b, 2, none⟩ = some (.bool f.rem) ∧ W.cell? ⟨b, 3, none⟩ = some (.int .i64 f.dlc) ∧ W.cell? ⟨b, 4, none⟩ = some (.string f.data) := by
  simp [World.cell?, h, frc]

set_option maxRecDepth 100000 in
set_option maxHeartbeats 32000000 in
theorem ctlStays_frames (w wr : World) (l : List Fr) (A1 : Option Addr) (n1 i y : Nat) (d : Cl) (tb : Bool) {sl0 sl2 sl3 sl4 sl5 sl6 sl9 sl10 sl11 sl12 sl13 sl14 sl15 sl16 sl17 sl18 sl19 sl20 sl21 sl22 sl23 sl24 sl25 sl26 sl27 sl28 sl29 sl30 sl31 sl32 sl33 sl34 sl35 sl36 sl38 sl39 sl40 sl41 sl42 sl43 sl44 sl45 sl46 sl47 sl48 sl49 sl50 sl51 sl52 sl53 sl54 sl55 sl56 sl57 sl58 sl59 sl60 sl61 sl62 sl63 sl64 sl65 sl66 sl67 sl68 sl69 sl70 sl71 sl72 sl73 sl74 sl75 sl76 sl77 sl78 sl79 sl80 sl81 sl82 sl83 sl84 sl85 sl86 sl87 sl88 sl89 sl90 sl91 sl92 sl93 sl94 sl95 sl96 sl97 sl98 sl99 sl100 sl101 sl102 sl103 sl104 sl105 sl106 sl107 sl108 sl109 sl110 sl111 sl112 sl113 sl114 sl115 sl116 sl117 sl118 sl119 sl120 sl121 sl122 sl123 sl124 sl125 sl126 sl127 sl128 sl129 sl130 sl131 sl132 sl133 sl134 sl135 sl136 sl137 sl138 sl139 sl140 sl141 sl142 sl143 sl144 sl145 sl146 sl147 sl148 sl149 sl150 sl151 sl152 sl153 sl154 sl155 sl156 sl157 sl158 sl159 sl160 sl161 sl162 sl163 sl164 sl165 sl166 sl167 sl168 sl169 sl170 sl171 sl172 sl173 sl174 sl175 sl176 sl177 sl178 sl179 sl180 sl181 sl182 sl183 sl184 sl185 sl186 sl187 sl188 sl189 sl190 sl191 sl192 sl193 sl194 sl195 sl196 sl197 sl198 sl199 sl200 sl201 sl202 : Value} {K' : Act → World → Prop} {Q' : Exit → Act → World → Prop} {Cd : Code} (hC : Cd = partC Tryd.f3.body (isCond 37))
    (htb : tb = true ↔ i < l.length)
    (hok : d.Ok)
    (C : Hid (wr.heap[y]? = some (.cells d.cs.toArray 34 (0, 0))))
    (Q : Hid (Below w.heap.size w wr))
    (HF : Hid (∀ f ∈ l, f.id < 4294967296 ∧ f.data.size ≤ maxLen))
    (HR1 : Hid (FrR w w.heap.size A1 l))
    (_hc1 : l.length ≤ n1)
    (_hm1 : n1 ≤ 9223372036854775807)
    (zQy : w.heap.size ≤ y)
    (_hQ : ∀ c (a : Act) d v w, Q' (.panic c) (a.put d v) w → Q' (.panic c) a w)
    (hK : ∀ (v6 v9 v10 v11 v38 v39 v40 v41 v42 v43 v44 v45 v46 v47 v48 v49 v50 v51 v52 v53 v54 v55 v56 v57 v58 v59 v60 v61 v62 v63 v64 v65 v66 v67 v68 v69 v70 v71 v72 v73 : Value) (W' : World), (fun W => ∃ d2 : Cl, d2.Ok ∧ Hid (W.heap[y]? = some (.cells d2.cs.toArray 34 (0, 0))) ∧ Hid (Below w.heap.size w W))  W' → K' ⟨List.toArray (sl0 :: (.slice A1 l.length n1) :: sl2 :: sl3 :: sl4 :: sl5 :: v6 :: (.pointer (some ⟨y, 0, none⟩)) :: (.int .i64 i) :: v9 :: v10 :: v11 :: sl12 :: sl13 :: sl14 :: sl15 :: sl16 :: sl17 :: sl18 :: sl19 :: sl20 :: sl21 :: sl22 :: sl23 :: sl24 :: sl25 :: sl26 :: sl27 :: sl28 :: sl29 :: sl30 :: sl31 :: sl32 :: sl33 :: sl34 :: sl35 :: sl36 :: (.bool tb) :: v38 :: v39 :: v40 :: v41 :: v42 :: v43 :: v44 :: v45 :: v46 :: v47 :: v48 :: v49 :: v50 :: v51 :: v52 :: v53 :: v54 :: v55 :: v56 :: v57 :: v58 :: v59 :: v60 :: v61 :: v62 :: v63 :: v64 :: v65 :: v66 :: v67 :: v68 :: v69 :: v70 :: v71 :: v72 :: v73 :: sl74 :: sl75 :: sl76 :: sl77 :: sl78 :: sl79 :: sl80 :: sl81 :: sl82 :: sl83 :: sl84 :: sl85 :: sl86 :: sl87 :: sl88 :: sl89 :: sl90 :: sl91 :: sl92 :: sl93 :: sl94 :: sl95 :: sl96 :: sl97 :: sl98 :: sl99 :: sl100 :: sl101 :: sl102 :: sl103 :: sl104 :: sl105 :: sl106 :: sl107 :: sl108 :: sl109 :: sl110 :: sl111 :: sl112 :: sl113 :: sl114 :: sl115 :: sl116 :: sl117 :: sl118 :: sl119 :: sl120 :: sl121 :: sl122 :: sl123 :: sl124 :: sl125 :: sl126 :: sl127 :: sl128 :: sl129 :: sl130 :: sl131 :: sl132 :: sl133 :: sl134 :: sl135 :: sl136 :: sl137 :: sl138 :: sl139 :: sl140 :: sl141 :: sl142 :: sl143 :: sl144 :: sl145 :: sl146 :: sl147 :: sl148 :: sl149 :: sl150 :: sl151 :: sl152 :: sl153 :: sl154 :: sl155 :: sl156 :: sl157 :: sl158 :: sl159 :: sl160 :: sl161 :: sl162 :: sl163 :: sl164 :: sl165 :: sl166 :: sl167 :: sl168 :: sl169 :: sl170 :: sl171 :: sl172 :: sl173 :: sl174 :: sl175 :: sl176 :: sl177 :: sl178 :: sl179 :: sl180 :: sl181 :: sl182 :: sl183 :: sl184 :: sl185 :: sl186 :: sl187 :: sl188 :: sl189 :: sl190 :: sl191 :: sl192 :: sl193 :: sl194 :: sl195 :: sl196 :: sl197 :: sl198 :: sl199 :: sl200 :: sl201 :: sl202 :: []), []⟩ W') :
    Cd.wp Tryd.prog (Exit.then K' Q') ⟨List.toArray (sl0 :: (.slice A1 l.length n1) :: sl2 :: sl3 :: sl4 :: sl5 :: sl6 :: (.pointer (some ⟨y, 0, none⟩)) :: (.int .i64 i) :: sl9 :: sl10 :: sl11 :: sl12 :: sl13 :: sl14 :: sl15 :: sl16 :: sl17 :: sl18 :: sl19 :: sl20 :: sl21 :: sl22 :: sl23 :: sl24 :: sl25 :: sl26 :: sl27 :: sl28 :: sl29 :: sl30 :: sl31 :: sl32 :: sl33 :: sl34 :: sl35 :: sl36 :: (.bool tb) :: sl38 :: sl39 :: sl40 :: sl41 :: sl42 :: sl43 :: sl44 :: sl45 :: sl46 :: sl47 :: sl48 :: sl49 :: sl50 :: sl51 :: sl52 :: sl53 :: sl54 :: sl55 :: sl56 :: sl57 :: sl58 :: sl59 :: sl60 :: sl61 :: sl62 :: sl63 :: sl64 :: sl65 :: sl66 :: sl67 :: sl68 :: sl69 :: sl70 :: sl71 :: sl72 :: sl73 :: sl74 :: sl75 :: sl76 :: sl77 :: sl78 :: sl79 :: sl80 :: sl81 :: sl82 :: sl83 :: sl84 :: sl85 :: sl86 :: sl87 :: sl88 :: sl89 :: sl90 :: sl91 :: sl92 :: sl93 :: sl94 :: sl95 :: sl96 :: sl97 :: sl98 :: sl99 :: sl100 :: sl101 :: sl102 :: sl103 :: sl104 :: sl105 :: sl106 :: sl107 :: sl108 :: sl109 :: sl110 :: sl111 :: sl112 :: sl113 :: sl114 :: sl115 :: sl116 :: sl117 :: sl118 :: sl119 :: sl120 :: sl121 :: sl122 :: sl123 :: sl124 :: sl125 :: sl126 :: sl127 :: sl128 :: sl129 :: sl130 :: sl131 :: sl132 :: sl133 :: sl134 :: sl135 :: sl136 :: sl137 :: sl138 :: sl139 :: sl140 :: sl141 :: sl142 :: sl143 :: sl144 :: sl145 :: sl146 :: sl147 :: sl148 :: sl149 :: sl150 :: sl151 :: sl152 :: sl153 :: sl154 :: sl155 :: sl156 :: sl157 :: sl158 :: sl159 :: sl160 :: sl161 :: sl162 :: sl163 :: sl164 :: sl165 :: sl166 :: sl167 :: sl168 :: sl169 :: sl170 :: sl171 :: sl172 :: sl173 :: sl174 :: sl175 :: sl176 :: sl177 :: sl178 :: sl179 :: sl180 :: sl181 :: sl182 :: sl183 :: sl184 :: sl185 :: sl186 :: sl187 :: sl188 :: sl189 :: sl190 :: sl191 :: sl192 :: sl193 :: sl194 :: sl195 :: sl196 :: sl197 :: sl198 :: sl199 :: sl200 :: sl201 :: sl202 :: []), []⟩ wr := by
  subst hC
  conv => arg 2; whnf
  go_cut [] from 99999 (fun W => ∃ d2 : Cl, d2.Ok ∧ Hid (W.heap[y]? = some (.cells d2.cs.toArray 34 (0, 0))) ∧ Hid (Below w.heap.size w W))
  case rest => exact hK _ _ _ _ _ _ _ _ _ _ _ _ _ _ _ _ _ _ _ _ _ _ _ _ _ _ _ _ _ _ _ _ _ _ _ _ _ _ _ _ _ hcut
  case first =>
    clear hK
    by_cases hfr : i < l.length
    · obtain rfl : tb = true := htb.2 hfr
      clear htb
      obtain ⟨b, off, rfl, hbs, f0', f1', f2', f3', f4'⟩ := (FrR.next HR1.out Q.out Q.out.size).at_ hfr
      have hfx := HF.out _ (List.getElem_mem hfr)
      have FW := hide (fun W => show Calls Tryd.prog 7 #[.agg #[.int .u32 l[i].id, .bool l[i].ext, .bool l[i].rem, .int .i64 l[i].dlc, .string l[i].data]] W fun e w' => e = .returned (.agg (frc (cut7 l[i])).toArray) ∧ Below W.heap.size W w' from few07_any l[i] W hfx.2)
      have hid : (cut7 l[i]).id < 4294967296 := hfx.1
      generalize cut7 l[i] = g at *
      have SU := hide (fun W => ctlSubmit_ok d g W hok hid)
      have RR := hide (fun W => show Calls Tryd.prog 9 #[.agg (frc g).toArray] W fun e w' => e = .returned (.bool (FP.rightB g)) ∧ Below W.heap.size W w' from refRight04_any g W hid)
      obtain ⟨x, hx⟩ : ∃ x, x = d.subC g := ⟨_, rfl⟩
      obtain ⟨xe, hxe⟩ : ∃ xe, xe = d.subE g := ⟨_, rfl⟩
      rw [← hx, ← hxe] at SU
      have HX := hide (show x = if FP.rightB g = false then zCl else if d.has = true then zCl else d.give g from hx)
      have HXE := hide (show xe = if FP.rightB g = false then 1 else if d.has = true then 20 else 0 from hxe)
      have HOK := hide hok
      clear hx hxe hok
      go_wp2_with fail
      (with_reducible refine (FW.out _).mono ?_)
      rintro ef1 wf1 ⟨rfl, qf1⟩
      clear FW f0' f1' f2' f3' f4' hfx
      replace C := hide (heap_below C.out qf1)
      replace Q := hide (below_next Q.out Q.out.size qf1)
      clear qf1
      have q1' : Below wf1.heap.size wf1 (wf1.alloc (.cells ((frc zFr)).toArray 30)) := (Below.refl _ _).alloc (Nat.le_refl _) _
      have G := World.alloc_heap_new wf1 (.cells ((frc zFr)).toArray 30)
      have zCz : y < wf1.heap.size := heap_lt C.out
      have zQz : w.heap.size ≤ wf1.heap.size := Q.out.size
      replace C := hide (heap_below C.out q1')
      replace Q := hide (below_next Q.out Q.out.size q1')
      clear q1'
      obtain ⟨w2', hw2'⟩ : ∃ wx, wx = wf1.alloc (.cells ((frc zFr)).toArray 30) := ⟨_, rfl⟩
      rw [← hw2'] at Q C G
      replace G := hide G
      have Tw3' := hide (show (wf1.alloc (.cells ((frc zFr)).toArray 30)).there wf1.heap.size 0 5 by rw [← hw2']; exact there_heap (cs := (frc zFr)) G.out)
      go_wp2_with (refine wpList_store_hid (by rfl) 30 (.tmp 9) (.tmp 42) (by rfl) wf1.heap.size 0 (frc g) (by rfl) (by rfl) (by exact Tw3'.out) (by kernel_rfl) (by simp [Value.oneCell', frc]) ?_)
      intro w3' ew3'
      replace ew3' : Hid (w3' = w2'.setCells wf1.heap.size 0 (frc g)) := by rw [hw2']; exact ew3'
      replace C := hide (show w3'.heap[y]? = some (.cells d.cs.toArray 34 (0, 0)) by rw [ew3'.out]; exact other_heap (by omega) _ _ _ C.out)
      replace Q := hide (show Below w.heap.size w w3' by rw [ew3'.out]; exact Q.out.trans (below_setCells _ _ _ (by have := Q.out.size; omega)))
      replace G := hide (show w3'.heap[wf1.heap.size]? = some (.cells (frc g).toArray 30 (0, 0)) by rw [ew3'.out]; exact whole_heap (frc g) (xs := (frc zFr)) G.out rfl)
      clear ew3' Tw3' hw2'
      generalize wf1.heap.size = z at *
      go_wp2_with (first | (refine wpList_load_row rfl 34 (.tmp 7) (by rfl) y (by rfl) 34 d.cs.toArray (0, 0) _ (by exact C.out) Tryd.underlying34 (by rfl) (by kernel_rfl) ?_) | (refine wpList_load_row rfl 30 (.tmp 9) (by rfl) z (by rfl) 30 (frc g).toArray (0, 0) _ (by exact G.out) Tryd.underlying30 (by rfl) (by kernel_rfl) ?_))
      (with_reducible refine (SU.out _).mono ?_)
      rintro ew4' w4' ⟨rfl, qw4'⟩
      replace C := hide (heap_below C.out qw4')
      replace G := hide (heap_below G.out qw4')
      replace Q := hide (below_next Q.out Q.out.size qw4')
      clear qw4'
      clear SU
      have q5' : Below w4'.heap.size w4' (w4'.alloc (.cells zCl.cs.toArray 34)) := (Below.refl _ _).alloc (Nat.le_refl _) _
      have X := World.alloc_heap_new w4' (.cells zCl.cs.toArray 34)
      have zCu : y < w4'.heap.size := heap_lt C.out
      have zGu : z < w4'.heap.size := heap_lt G.out
      have zQu : w.heap.size ≤ w4'.heap.size := Q.out.size
      replace C := hide (heap_below C.out q5')
      replace G := hide (heap_below G.out q5')
      replace Q := hide (below_next Q.out Q.out.size q5')
      clear q5'
      obtain ⟨w6', hw6'⟩ : ∃ wx, wx = w4'.alloc (.cells zCl.cs.toArray 34) := ⟨_, rfl⟩
      rw [← hw6'] at Q C G X
      replace X := hide X
      have Tw7' := hide (show (w4'.alloc (.cells zCl.cs.toArray 34)).there w4'.heap.size 0 23 by rw [← hw6']; exact there_heap (cs := zCl.cs) X.out)
      go_wp2_with (refine wpList_store_hid (by rfl) 34 (.tmp 10) (.tmp 47) (by rfl) w4'.heap.size 0 x.cs (by rfl) (by rfl) (by exact Tw7'.out) (by kernel_rfl) (by simp [Value.oneCell', Cl.cs]) ?_)
      intro w7' ew7'
      replace ew7' : Hid (w7' = w6'.setCells w4'.heap.size 0 x.cs) := by rw [hw6']; exact ew7'
      replace C := hide (show w7'.heap[y]? = some (.cells d.cs.toArray 34 (0, 0)) by rw [ew7'.out]; exact other_heap (by omega) _ _ _ C.out)
      replace G := hide (show w7'.heap[z]? = some (.cells (frc g).toArray 30 (0, 0)) by rw [ew7'.out]; exact other_heap (by omega) _ _ _ G.out)
      replace Q := hide (show Below w.heap.size w w7' by rw [ew7'.out]; exact Q.out.trans (below_setCells _ _ _ (by have := Q.out.size; omega)))
      replace X := hide (show w7'.heap[w4'.heap.size]? = some (.cells x.cs.toArray 34 (0, 0)) by rw [ew7'.out]; exact whole_heap x.cs (xs := zCl.cs) X.out rfl)
      clear ew7' Tw7' hw6'
      generalize w4'.heap.size = u at *
      go_wp2_with (refine wpList_load_row rfl 30 (.tmp 9) (by rfl) z (by rfl) 30 (frc g).toArray (0, 0) _ (by exact G.out) Tryd.underlying30 (by rfl) (by kernel_rfl) ?_)
      (with_reducible refine (RR.out _).mono ?_)
      rintro ew8' w8' ⟨rfl, qw8'⟩
      replace C := hide (heap_below C.out qw8')
      replace G := hide (heap_below G.out qw8')
      replace X := hide (heap_below X.out qw8')
      replace Q := hide (below_next Q.out Q.out.size qw8')
      clear qw8'
      clear RR
      rcases Bool.eq_false_or_eq_true (FP.rightB g) with hr | hr
      · obtain ⟨-, ⟨-, -, -, -, c8⟩, -⟩ := cl_cells C.out
        rcases Bool.eq_false_or_eq_true d.has with hh | hh
        · have h20 : xe = 20 := by rw [HXE.out, hr, hh]; rfl
          rw [hh] at c8
          rw [hr]
          subst h20
          clear HX HXE hh
          go_wp2_with fail
          go_meet
          exact ⟨d, HOK.out, C, Q⟩
        · have h0 : xe = 0 := by rw [HXE.out, hr, hh]; rfl
          have hx2 : x = d.give g := by rw [HX.out, hr, hh]; rfl
          have hok3 : x.Ok := by rw [hx2]; exact HOK.out.give hh hr
          obtain ⟨x8, x9, x10, x11, x12, x13⟩ : w8'.cell? ⟨u, 8, none⟩ = some (.bool true) ∧ w8'.cell? ⟨u, 9, none⟩ = some (.int .u32 g.id) ∧ w8'.cell? ⟨u, 10, none⟩ = some (.bool g.ext) ∧ w8'.cell? ⟨u, 11, none⟩ = some (.bool g.rem) ∧ w8'.cell? ⟨u, 12, none⟩ = some (.int .i64 g.dlc) ∧ w8'.cell? ⟨u, 13, none⟩ = some (.string g.data) := by
            obtain ⟨-, ⟨-, -, -, -, a8⟩, ⟨a9, a10, a11, a12, a13⟩, -⟩ := cl_cells X.out
            rw [hx2] at a8 a9 a10 a11 a12 a13
            exact ⟨a8, a9, a10, a11, a12, a13⟩
          obtain ⟨g0', g1', g2', g3', g4'⟩ := frb_box G.out
          rw [hh] at c8
          rw [hr]
          subst h0
          have HOK3 := hide hok3
          clear HX HXE hh hx2 HOK hok3
          have Tw9' := hide (show World.there _ y 0 23 from there_heap (cs := d.cs) C.out)
          go_wp2_with (first | (refine wpList_load_row rfl 34 (.tmp 10) (by rfl) u (by rfl) 34 x.cs.toArray (0, 0) _ (by exact X.out) Tryd.underlying34 (by rfl) (by kernel_rfl) ?_) | (refine wpList_store_hid (by rfl) 34 (.tmp 7) (.tmp 62) (by rfl) y 0 x.cs (by rfl) (by rfl) (by exact Tw9'.out) (by kernel_rfl) (by simp [Value.oneCell', Cl.cs]) ?_))
          intro w9' ew9'
          replace G := hide (show w9'.heap[z]? = some (.cells (frc g).toArray 30 (0, 0)) by rw [ew9'.out]; exact other_heap (by omega) _ _ _ G.out)
          replace X := hide (show w9'.heap[u]? = some (.cells x.cs.toArray 34 (0, 0)) by rw [ew9'.out]; exact other_heap (by omega) _ _ _ X.out)
          replace Q := hide (show Below w.heap.size w w9' by rw [ew9'.out]; exact Q.out.trans (below_setCells _ _ _ (by have := Q.out.size; omega)))
          replace C := hide (show w9'.heap[y]? = some (.cells x.cs.toArray 34 (0, 0)) by rw [ew9'.out]; exact whole_heap x.cs (xs := d.cs) C.out rfl)
          clear ew9' Tw9'
          go_wp2_with fail
          go_meet
          exact ⟨x, HOK3.out, C, Q⟩
      · have h1 : xe = 1 := by rw [HXE.out, hr]; rfl
        rw [hr]
        subst h1
        clear HX HXE
        go_wp2_with fail
        go_meet
        exact ⟨d, HOK.out, C, Q⟩
    · obtain rfl : tb = false := by cases tb; rfl; exact absurd (htb.1 rfl) hfr
      clear htb
      go_wp2_with fail
      go_meet
      exact ⟨d, hok, C, Q⟩

set_option maxRecDepth 100000 in
set_option maxHeartbeats 32000000 in
theorem ctlStays_sample (w wr : World) (S : ByteArray) (i y : Nat) (d2 e2 : Cl) (kd : Int) (ef : Fr) (bd : Int) (hi : i < S.size) {sl1 sl2 sl3 sl4 sl5 sl6 sl9 sl10 sl11 sl12 sl13 sl14 sl15 sl16 sl17 sl18 sl19 sl20 sl21 sl22 sl23 sl24 sl25 sl26 sl27 sl28 sl29 sl30 sl31 sl32 sl33 sl34 sl35 sl36 sl37 sl38 sl39 sl40 sl41 sl42 sl43 sl44 sl45 sl46 sl47 sl48 sl49 sl50 sl51 sl52 sl53 sl54 sl55 sl56 sl57 sl58 sl59 sl60 sl61 sl62 sl63 sl64 sl65 sl66 sl67 sl68 sl69 sl70 sl71 sl72 sl73 sl74 sl75 sl76 sl77 sl78 sl79 sl80 sl81 sl82 sl83 sl84 sl85 sl86 sl87 sl88 sl89 sl90 sl91 sl92 sl93 sl94 sl95 sl96 sl97 sl98 sl99 sl100 sl101 sl102 sl103 sl104 sl105 sl106 sl107 sl108 sl109 sl110 sl111 sl112 sl113 sl114 sl115 sl116 sl117 sl118 sl119 sl120 sl121 sl122 sl123 sl124 sl125 sl126 sl127 sl128 sl129 sl130 sl131 sl132 sl133 sl134 sl135 sl136 sl137 sl138 sl139 sl140 sl141 sl142 sl143 sl144 sl145 sl146 sl147 sl148 sl149 sl150 sl151 sl152 sl153 sl154 sl155 sl156 sl157 sl158 sl159 sl160 sl161 sl162 sl163 sl164 sl165 sl166 sl167 sl168 sl169 sl170 sl171 sl172 sl173 sl174 sl175 sl176 sl177 sl178 sl179 sl180 sl181 sl182 sl183 sl184 sl185 sl186 sl187 sl188 sl189 sl190 sl191 sl192 sl193 sl194 sl195 sl196 sl197 sl198 sl199 sl200 sl201 sl202 : Value} {K' : Act → World → Prop} {Q' : Exit → Act → World → Prop} {Cd : Code} (hC : Cd = partC Tryd.f3.body (isRegion 27))
    (SA : Hid (∀ W : World, Calls Tryd.prog 12 #[.agg d2.cs.toArray, .int .u8 S[i].toNat] W fun e w' => e = .returned (.tuple #[.agg e2.cs.toArray, .agg (evL kd ef bd).toArray, .int .i64 0]) ∧ Below W.heap.size W w'))
    (C : Hid (wr.heap[y]? = some (.cells d2.cs.toArray 34 (0, 0))))
    (Q : Hid (Below w.heap.size w wr))
    (zQy : w.heap.size ≤ y)
    (hQ : ∀ c (a : Act) d v w, Q' (.panic c) (a.put d v) w → Q' (.panic c) a w)
    (hK : ∀ (v16 v17 v18 v133 v134 v135 v136 v137 v138 v139 v140 v141 : Value) (W' : World), (fun vx vv ve W => ∃ x7 x8, vx = .pointer (some ⟨x7, 0, none⟩) ∧ vv = .pointer (some ⟨x8, 0, none⟩) ∧ ve = .int .i64 0 ∧ Hid (W.heap[x7]? = some (.cells e2.cs.toArray 34 (0, 0))) ∧ Hid (W.heap[x8]? = some (.cells (evL kd ef bd).toArray 45 (0, 0))) ∧ Hid (W.heap[y]? = some (.cells d2.cs.toArray 34 (0, 0))) ∧ Hid (Below w.heap.size w W) ∧ y < x7) v16 v17 v18 W' → K' ⟨List.toArray ((.string S) :: sl1 :: sl2 :: sl3 :: sl4 :: sl5 :: sl6 :: (.pointer (some ⟨y, 0, none⟩)) :: (.int .i64 i) :: sl9 :: sl10 :: sl11 :: sl12 :: sl13 :: sl14 :: sl15 :: v16 :: v17 :: v18 :: sl19 :: sl20 :: sl21 :: sl22 :: sl23 :: sl24 :: sl25 :: sl26 :: sl27 :: sl28 :: sl29 :: sl30 :: sl31 :: sl32 :: sl33 :: sl34 :: sl35 :: sl36 :: sl37 :: sl38 :: sl39 :: sl40 :: sl41 :: sl42 :: sl43 :: sl44 :: sl45 :: sl46 :: sl47 :: sl48 :: sl49 :: sl50 :: sl51 :: sl52 :: sl53 :: sl54 :: sl55 :: sl56 :: sl57 :: sl58 :: sl59 :: sl60 :: sl61 :: sl62 :: sl63 :: sl64 :: sl65 :: sl66 :: sl67 :: sl68 :: sl69 :: sl70 :: sl71 :: sl72 :: sl73 :: sl74 :: sl75 :: sl76 :: sl77 :: sl78 :: sl79 :: sl80 :: sl81 :: sl82 :: sl83 :: sl84 :: sl85 :: sl86 :: sl87 :: sl88 :: sl89 :: sl90 :: sl91 :: sl92 :: sl93 :: sl94 :: sl95 :: sl96 :: sl97 :: sl98 :: sl99 :: sl100 :: sl101 :: sl102 :: sl103 :: sl104 :: sl105 :: sl106 :: sl107 :: sl108 :: sl109 :: sl110 :: sl111 :: sl112 :: sl113 :: sl114 :: sl115 :: sl116 :: sl117 :: sl118 :: sl119 :: sl120 :: sl121 :: sl122 :: sl123 :: sl124 :: sl125 :: sl126 :: sl127 :: sl128 :: sl129 :: sl130 :: sl131 :: sl132 :: v133 :: v134 :: v135 :: v136 :: v137 :: v138 :: v139 :: v140 :: v141 :: sl142 :: sl143 :: sl144 :: sl145 :: sl146 :: sl147 :: sl148 :: sl149 :: sl150 :: sl151 :: sl152 :: sl153 :: sl154 :: sl155 :: sl156 :: sl157 :: sl158 :: sl159 :: sl160 :: sl161 :: sl162 :: sl163 :: sl164 :: sl165 :: sl166 :: sl167 :: sl168 :: sl169 :: sl170 :: sl171 :: sl172 :: sl173 :: sl174 :: sl175 :: sl176 :: sl177 :: sl178 :: sl179 :: sl180 :: sl181 :: sl182 :: sl183 :: sl184 :: sl185 :: sl186 :: sl187 :: sl188 :: sl189 :: sl190 :: sl191 :: sl192 :: sl193 :: sl194 :: sl195 :: sl196 :: sl197 :: sl198 :: sl199 :: sl200 :: sl201 :: sl202 :: []), []⟩ W') :
    Cd.wp Tryd.prog (Exit.then K' Q') ⟨List.toArray ((.string S) :: sl1 :: sl2 :: sl3 :: sl4 :: sl5 :: sl6 :: (.pointer (some ⟨y, 0, none⟩)) :: (.int .i64 i) :: sl9 :: sl10 :: sl11 :: sl12 :: sl13 :: sl14 :: sl15 :: sl16 :: sl17 :: sl18 :: sl19 :: sl20 :: sl21 :: sl22 :: sl23 :: sl24 :: sl25 :: sl26 :: sl27 :: sl28 :: sl29 :: sl30 :: sl31 :: sl32 :: sl33 :: sl34 :: sl35 :: sl36 :: sl37 :: sl38 :: sl39 :: sl40 :: sl41 :: sl42 :: sl43 :: sl44 :: sl45 :: sl46 :: sl47 :: sl48 :: sl49 :: sl50 :: sl51 :: sl52 :: sl53 :: sl54 :: sl55 :: sl56 :: sl57 :: sl58 :: sl59 :: sl60 :: sl61 :: sl62 :: sl63 :: sl64 :: sl65 :: sl66 :: sl67 :: sl68 :: sl69 :: sl70 :: sl71 :: sl72 :: sl73 :: sl74 :: sl75 :: sl76 :: sl77 :: sl78 :: sl79 :: sl80 :: sl81 :: sl82 :: sl83 :: sl84 :: sl85 :: sl86 :: sl87 :: sl88 :: sl89 :: sl90 :: sl91 :: sl92 :: sl93 :: sl94 :: sl95 :: sl96 :: sl97 :: sl98 :: sl99 :: sl100 :: sl101 :: sl102 :: sl103 :: sl104 :: sl105 :: sl106 :: sl107 :: sl108 :: sl109 :: sl110 :: sl111 :: sl112 :: sl113 :: sl114 :: sl115 :: sl116 :: sl117 :: sl118 :: sl119 :: sl120 :: sl121 :: sl122 :: sl123 :: sl124 :: sl125 :: sl126 :: sl127 :: sl128 :: sl129 :: sl130 :: sl131 :: sl132 :: sl133 :: sl134 :: sl135 :: sl136 :: sl137 :: sl138 :: sl139 :: sl140 :: sl141 :: sl142 :: sl143 :: sl144 :: sl145 :: sl146 :: sl147 :: sl148 :: sl149 :: sl150 :: sl151 :: sl152 :: sl153 :: sl154 :: sl155 :: sl156 :: sl157 :: sl158 :: sl159 :: sl160 :: sl161 :: sl162 :: sl163 :: sl164 :: sl165 :: sl166 :: sl167 :: sl168 :: sl169 :: sl170 :: sl171 :: sl172 :: sl173 :: sl174 :: sl175 :: sl176 :: sl177 :: sl178 :: sl179 :: sl180 :: sl181 :: sl182 :: sl183 :: sl184 :: sl185 :: sl186 :: sl187 :: sl188 :: sl189 :: sl190 :: sl191 :: sl192 :: sl193 :: sl194 :: sl195 :: sl196 :: sl197 :: sl198 :: sl199 :: sl200 :: sl201 :: sl202 :: []), []⟩ wr := by
  subst hC
  conv => arg 2; whnf
  go_cut [16, 17, 18] from 99999 (fun vx vv ve W => ∃ x7 x8, vx = .pointer (some ⟨x7, 0, none⟩) ∧ vv = .pointer (some ⟨x8, 0, none⟩) ∧ ve = .int .i64 0 ∧ Hid (W.heap[x7]? = some (.cells e2.cs.toArray 34 (0, 0))) ∧ Hid (W.heap[x8]? = some (.cells (evL kd ef bd).toArray 45 (0, 0))) ∧ Hid (W.heap[y]? = some (.cells d2.cs.toArray 34 (0, 0))) ∧ Hid (Below w.heap.size w W) ∧ y < x7)
  case rest => exact hK _ _ _ _ _ _ _ _ _ _ _ _ _ hcut
  case first =>
    clear hK
    have hki : (i : Int) < (S.size : Int) := by omega
    go_wp2_with fail
    refine wp_region_L [0, 1, 2, 3, 5, 6, 7, 8] [(0, fun W => W.heap[y]? = some (.cells d2.cs.toArray 34 (0, 0)))] (by kernel_rfl) ?_
    replace C := hide (show wr.drew.heap[y]? = some (.cells d2.cs.toArray 34 (0, 0)) from C.out)
    replace Q := hide (show Below w.heap.size w wr.drew from Q.out.drew)
    generalize wr.drew = wd at *
    refine wpAnyL_load (i := 0) (v := .agg d2.cs.toArray) rfl rfl (by kernel_rfl) (by kernel_rfl) (by kernel_rfl) (by kernel_rfl) (by kernel_rfl) (fun _ _ _ h => hQ _ _ _ _ _ h) rfl (fun W h => exec_heap W y 34 _ _ h Tryd.underlying34 rfl (by kernel_rfl) _ _ (.tmp 7) (by rfl) (by rfl)) (C.out) ?_
    go_simp
    refine wpAnyL_pure (i := 1) (v := .string S) rfl rfl (by kernel_rfl) (by kernel_rfl) (by kernel_rfl) (by kernel_rfl) (by kernel_rfl) (fun _ _ _ h => hQ _ _ _ _ _ h) rfl (fun W => by go_simp) ?_
    go_simp
    refine wpAnyL_pure (i := 2) (v := .int .i64 i) rfl rfl (by kernel_rfl) (by kernel_rfl) (by kernel_rfl) (by kernel_rfl) (by kernel_rfl) (fun _ _ _ h => hQ _ _ _ _ _ h) rfl (fun W => by go_simp) ?_
    go_simp
    refine wpAnyL_pure (i := 3) (v := .int .u8 S[i].toNat) rfl rfl (by kernel_rfl) (by kernel_rfl) (by kernel_rfl) (by kernel_rfl) (by kernel_rfl) (fun _ _ _ h => hQ _ _ _ _ _ h) rfl (fun W => by go_simp) ?_
    go_simp
    refine wpAnyL_three (i := 4) (k := 9) (m := 10) (by kernel_rfl) ?_ ?_ ?_
    · refine wpOp_do rfl rfl ?_
      go_simp
      (with_reducible refine (SA.out _).mono ?_)
      rintro ewda wda ⟨rfl, q⟩
      replace C := hide (heap_below C.out q)
      replace Q := hide (below_next Q.out Q.out.size q)
      clear q
      go_simp
      refine ⟨keepsL_all (by kernel_rfl) (by kernel_rfl), ?_⟩
      go_simp
      refine wpAnyL_pure (i := 5) (v := .tuple #[.agg (e2.cs).toArray, .agg (evL kd ef bd).toArray, .int .i64 0]) rfl rfl (by kernel_rfl) (by kernel_rfl) (by kernel_rfl) (by kernel_rfl) (by kernel_rfl) (fun _ _ _ h => hQ _ _ _ _ _ h) rfl (fun W => by go_simp) ?_
      go_simp
      refine wpAnyL_pure (i := 6) (v := .agg (e2.cs).toArray) rfl rfl (by kernel_rfl) (by kernel_rfl) (by kernel_rfl) (by kernel_rfl) (by kernel_rfl) (fun _ _ _ h => hQ _ _ _ _ _ h) rfl (fun W => by go_simp) ?_
      go_simp
      refine wpAnyL_pure (i := 7) (v := .agg (evL kd ef bd).toArray) rfl rfl (by kernel_rfl) (by kernel_rfl) (by kernel_rfl) (by kernel_rfl) (by kernel_rfl) (fun _ _ _ h => hQ _ _ _ _ _ h) rfl (fun W => by go_simp) ?_
      go_simp
      refine wpAnyL_pure (i := 8) (v := .int .i64 0) rfl rfl (by kernel_rfl) (by kernel_rfl) (by kernel_rfl) (by kernel_rfl) (by kernel_rfl) (fun _ _ _ h => hQ _ _ _ _ _ h) rfl (fun W => by go_simp) ?_
      go_simp
      refine wpAnyL_two (i := 9) (k := 10) (by kernel_rfl) ?_ ?_
      · refine wpOp_do rfl rfl ?_
        go_simp
        have q : Below wda.heap.size wda (wda.alloc (.cells zCl.cs.toArray 34)) := (Below.refl _ _).alloc (Nat.le_refl _) _
        have N7 := hide (World.alloc_heap_new wda (.cells zCl.cs.toArray 34))
        have z7C : y < wda.heap.size := heap_lt C.out
        replace C := hide (heap_below C.out q)
        replace Q := hide (below_next Q.out Q.out.size q)
        clear q
        refine ⟨keepsL_mk (by kernel_rfl) (.cons C.out .nil), ?_⟩
        change wpAnyL _ _ _ _ _ _ _ _ _ (wda.alloc (.cells zCl.cs.toArray 34))
        generalize wda.alloc (.cells zCl.cs.toArray 34) = wdab at *
        generalize wda.heap.size = x7 at *
        go_simp
        refine wpAnyL_one (i := 10) (by kernel_rfl) ?_
        refine wpOp_do rfl rfl ?_
        go_simp
        have q : Below wdab.heap.size wdab (wdab.alloc (.cells (evL 0 zFr 0).toArray 45)) := (Below.refl _ _).alloc (Nat.le_refl _) _
        have N8 := hide (World.alloc_heap_new wdab (.cells (evL 0 zFr 0).toArray 45))
        have z8C : y < wdab.heap.size := heap_lt C.out
        have z78 : x7 < wdab.heap.size := heap_lt N7.out
        replace C := hide (heap_below C.out q)
        replace N7 := hide (heap_below N7.out q)
        replace Q := hide (below_next Q.out Q.out.size q)
        clear q
        refine ⟨keepsL_mk (by kernel_rfl) (.cons C.out .nil), ?_⟩
        change wpAnyL _ _ _ _ _ _ _ _ _ (wdab.alloc (.cells (evL 0 zFr 0).toArray 45))
        generalize wdab.alloc (.cells (evL 0 zFr 0).toArray 45) = wdabc at *
        generalize wdab.heap.size = x8 at *
        go_simp
        have T7 := hide (show wdabc.there x7 0 23 from there_heap (cs := zCl.cs) N7.out)
        refine wpAnyL_one (i := 11) (by kernel_rfl) ?_
        refine wpOp_do rfl rfl ?_
        refine wp_store_as 34 (.tmp 16) (.tmp 139) rfl x7 0 (e2.cs) (by rfl) (by rfl) (by exact T7.out) (by kernel_rfl) (by simp [Value.oneCell', Cl.cs]) ?_
        intro wa ea
        have N7a := hide (show wa.heap[x7]? = some (.cells (e2.cs).toArray 34 (0, 0)) by rw [ea]; exact whole_heap (e2.cs) (xs := zCl.cs) N7.out rfl)
        have N8a := hide (show wa.heap[x8]? = some (.cells (evL 0 zFr 0).toArray 45 (0, 0)) by rw [ea]; exact other_heap (by omega) _ _ _ N8.out)
        have Ca := hide (show wa.heap[y]? = some (.cells d2.cs.toArray 34 (0, 0)) by rw [ea]; exact other_heap (by omega) _ _ _ C.out)
        have Qa := hide (show Below w.heap.size w wa by rw [ea]; exact Q.out.trans (below_setCells _ _ _ (by have := Q.out.size; omega)))
        clear ea T7 N7 N8 Q C
        refine ⟨keepsL_all (by kernel_rfl) (by kernel_rfl), ?_⟩
        go_simp
        have T8 := hide (show wa.there x8 0 7 from there_heap (cs := evL 0 zFr 0) N8a.out)
        refine wpAnyL_one (i := 12) (by kernel_rfl) ?_
        refine wpOp_do rfl rfl ?_
        refine wp_store_as 45 (.tmp 17) (.tmp 140) rfl x8 0 (evL kd ef bd) (by rfl) (by rfl) (by exact T8.out) (by kernel_rfl) (by simp [Value.oneCell', evL]) ?_
        intro wb eb
        have N7 := hide (show wb.heap[x7]? = some (.cells (e2.cs).toArray 34 (0, 0)) by rw [eb]; exact other_heap (by omega) _ _ _ N7a.out)
        have N8 := hide (show wb.heap[x8]? = some (.cells (evL kd ef bd).toArray 45 (0, 0)) by rw [eb]; exact whole_heap (evL kd ef bd) (xs := evL 0 zFr 0) N8a.out rfl)
        have C := hide (show wb.heap[y]? = some (.cells d2.cs.toArray 34 (0, 0)) by rw [eb]; exact other_heap (by omega) _ _ _ Ca.out)
        have Q := hide (show Below w.heap.size w wb by rw [eb]; exact Qa.out.trans (below_setCells _ _ _ (by have := Qa.out.size; omega)))
        clear eb T8 N7a N8a Qa Ca
        refine ⟨keepsL_all (by kernel_rfl) (by kernel_rfl), ?_⟩
        go_simp
        refine wpAnyL_one (i := 13) (by kernel_rfl) ?_
        refine wpOp_do rfl rfl ?_
        go_simp
        refine ⟨keepsL_all (by kernel_rfl) (by kernel_rfl), ?_⟩
        go_simp
        refine wpAnyL_done (by kernel_rfl) ?_ _
        go_wp2_with fail
        go_meet
        exact ⟨x7, x8, rfl, rfl, rfl, N7, N8, C, Q, by omega⟩
      · refine wpOp_do rfl rfl ?_
        go_simp
        have q : Below wda.heap.size wda (wda.alloc (.cells (evL 0 zFr 0).toArray 45)) := (Below.refl _ _).alloc (Nat.le_refl _) _
        have N8 := hide (World.alloc_heap_new wda (.cells (evL 0 zFr 0).toArray 45))
        have z8C : y < wda.heap.size := heap_lt C.out
        replace C := hide (heap_below C.out q)
        replace Q := hide (below_next Q.out Q.out.size q)
        clear q
        refine ⟨keepsL_mk (by kernel_rfl) (.cons C.out .nil), ?_⟩
        change wpAnyL _ _ _ _ _ _ _ _ _ (wda.alloc (.cells (evL 0 zFr 0).toArray 45))
        generalize wda.alloc (.cells (evL 0 zFr 0).toArray 45) = wdac at *
        generalize wda.heap.size = x8 at *
        go_simp
        refine wpAnyL_one (i := 9) (by kernel_rfl) ?_
        refine wpOp_do rfl rfl ?_
        go_simp
        have q : Below wdac.heap.size wdac (wdac.alloc (.cells zCl.cs.toArray 34)) := (Below.refl _ _).alloc (Nat.le_refl _) _
        have N7 := hide (World.alloc_heap_new wdac (.cells zCl.cs.toArray 34))
        have z7C : y < wdac.heap.size := heap_lt C.out
        have z78 : x8 < wdac.heap.size := heap_lt N8.out
        replace C := hide (heap_below C.out q)
        replace N8 := hide (heap_below N8.out q)
        replace Q := hide (below_next Q.out Q.out.size q)
        clear q
        refine ⟨keepsL_mk (by kernel_rfl) (.cons C.out .nil), ?_⟩
        change wpAnyL _ _ _ _ _ _ _ _ _ (wdac.alloc (.cells zCl.cs.toArray 34))
        generalize wdac.alloc (.cells zCl.cs.toArray 34) = wdacb at *
        generalize wdac.heap.size = x7 at *
        go_simp
        have T7 := hide (show wdacb.there x7 0 23 from there_heap (cs := zCl.cs) N7.out)
        refine wpAnyL_one (i := 11) (by kernel_rfl) ?_
        refine wpOp_do rfl rfl ?_
        refine wp_store_as 34 (.tmp 16) (.tmp 139) rfl x7 0 (e2.cs) (by rfl) (by rfl) (by exact T7.out) (by kernel_rfl) (by simp [Value.oneCell', Cl.cs]) ?_
        intro wa ea
        have N7a := hide (show wa.heap[x7]? = some (.cells (e2.cs).toArray 34 (0, 0)) by rw [ea]; exact whole_heap (e2.cs) (xs := zCl.cs) N7.out rfl)
        have N8a := hide (show wa.heap[x8]? = some (.cells (evL 0 zFr 0).toArray 45 (0, 0)) by rw [ea]; exact other_heap (by omega) _ _ _ N8.out)
        have Ca := hide (show wa.heap[y]? = some (.cells d2.cs.toArray 34 (0, 0)) by rw [ea]; exact other_heap (by omega) _ _ _ C.out)
        have Qa := hide (show Below w.heap.size w wa by rw [ea]; exact Q.out.trans (below_setCells _ _ _ (by have := Q.out.size; omega)))
        clear ea T7 N7 N8 Q C
        refine ⟨keepsL_all (by kernel_rfl) (by kernel_rfl), ?_⟩
        go_simp
        have T8 := hide (show wa.there x8 0 7 from there_heap (cs := evL 0 zFr 0) N8a.out)
        refine wpAnyL_one (i := 12) (by kernel_rfl) ?_
        refine wpOp_do rfl rfl ?_
        refine wp_store_as 45 (.tmp 17) (.tmp 140) rfl x8 0 (evL kd ef bd) (by rfl) (by rfl) (by exact T8.out) (by kernel_rfl) (by simp [Value.oneCell', evL]) ?_
        intro wb eb
        have N7 := hide (show wb.heap[x7]? = some (.cells (e2.cs).toArray 34 (0, 0)) by rw [eb]; exact other_heap (by omega) _ _ _ N7a.out)
        have N8 := hide (show wb.heap[x8]? = some (.cells (evL kd ef bd).toArray 45 (0, 0)) by rw [eb]; exact whole_heap (evL kd ef bd) (xs := evL 0 zFr 0) N8a.out rfl)
        have C := hide (show wb.heap[y]? = some (.cells d2.cs.toArray 34 (0, 0)) by rw [eb]; exact other_heap (by omega) _ _ _ Ca.out)
        have Q := hide (show Below w.heap.size w wb by rw [eb]; exact Qa.out.trans (below_setCells _ _ _ (by have := Qa.out.size; omega)))
        clear eb T8 N7a N8a Qa Ca
        refine ⟨keepsL_all (by kernel_rfl) (by kernel_rfl), ?_⟩
        go_simp
        refine wpAnyL_one (i := 13) (by kernel_rfl) ?_
        refine wpOp_do rfl rfl ?_
        go_simp
        refine ⟨keepsL_all (by kernel_rfl) (by kernel_rfl), ?_⟩
        go_simp
        refine wpAnyL_done (by kernel_rfl) ?_ _
        go_wp2_with fail
        go_meet
        exact ⟨x7, x8, rfl, rfl, rfl, N7, N8, C, Q, by omega⟩
    · refine wpOp_do rfl rfl ?_
      go_simp
      have q : Below wd.heap.size wd (wd.alloc (.cells zCl.cs.toArray 34)) := (Below.refl _ _).alloc (Nat.le_refl _) _
      have N7 := hide (World.alloc_heap_new wd (.cells zCl.cs.toArray 34))
      have z7C : y < wd.heap.size := heap_lt C.out
      replace C := hide (heap_below C.out q)
      replace Q := hide (below_next Q.out Q.out.size q)
      clear q
      refine ⟨keepsL_mk (by kernel_rfl) (.cons C.out .nil), ?_⟩
      change wpAnyL _ _ _ _ _ _ _ _ _ (wd.alloc (.cells zCl.cs.toArray 34))
      generalize wd.alloc (.cells zCl.cs.toArray 34) = wdb at *
      generalize wd.heap.size = x7 at *
      go_simp
      refine wpAnyL_two (i := 4) (k := 10) (by kernel_rfl) ?_ ?_
      · refine wpOp_do rfl rfl ?_
        go_simp
        (with_reducible refine (SA.out _).mono ?_)
        rintro ewdba wdba ⟨rfl, q⟩
        replace C := hide (heap_below C.out q)
        replace N7 := hide (heap_below N7.out q)
        replace Q := hide (below_next Q.out Q.out.size q)
        clear q
        go_simp
        refine ⟨keepsL_all (by kernel_rfl) (by kernel_rfl), ?_⟩
        go_simp
        refine wpAnyL_pure (i := 5) (v := .tuple #[.agg (e2.cs).toArray, .agg (evL kd ef bd).toArray, .int .i64 0]) rfl rfl (by kernel_rfl) (by kernel_rfl) (by kernel_rfl) (by kernel_rfl) (by kernel_rfl) (fun _ _ _ h => hQ _ _ _ _ _ h) rfl (fun W => by go_simp) ?_
        go_simp
        refine wpAnyL_pure (i := 6) (v := .agg (e2.cs).toArray) rfl rfl (by kernel_rfl) (by kernel_rfl) (by kernel_rfl) (by kernel_rfl) (by kernel_rfl) (fun _ _ _ h => hQ _ _ _ _ _ h) rfl (fun W => by go_simp) ?_
        go_simp
        refine wpAnyL_pure (i := 7) (v := .agg (evL kd ef bd).toArray) rfl rfl (by kernel_rfl) (by kernel_rfl) (by kernel_rfl) (by kernel_rfl) (by kernel_rfl) (fun _ _ _ h => hQ _ _ _ _ _ h) rfl (fun W => by go_simp) ?_
        go_simp
        refine wpAnyL_pure (i := 8) (v := .int .i64 0) rfl rfl (by kernel_rfl) (by kernel_rfl) (by kernel_rfl) (by kernel_rfl) (by kernel_rfl) (fun _ _ _ h => hQ _ _ _ _ _ h) rfl (fun W => by go_simp) ?_
        go_simp
        refine wpAnyL_one (i := 10) (by kernel_rfl) ?_
        refine wpOp_do rfl rfl ?_
        go_simp
        have q : Below wdba.heap.size wdba (wdba.alloc (.cells (evL 0 zFr 0).toArray 45)) := (Below.refl _ _).alloc (Nat.le_refl _) _
        have N8 := hide (World.alloc_heap_new wdba (.cells (evL 0 zFr 0).toArray 45))
        have z8C : y < wdba.heap.size := heap_lt C.out
        have z78 : x7 < wdba.heap.size := heap_lt N7.out
        replace C := hide (heap_below C.out q)
        replace N7 := hide (heap_below N7.out q)
        replace Q := hide (below_next Q.out Q.out.size q)
        clear q
        refine ⟨keepsL_mk (by kernel_rfl) (.cons C.out .nil), ?_⟩
        change wpAnyL _ _ _ _ _ _ _ _ _ (wdba.alloc (.cells (evL 0 zFr 0).toArray 45))
        generalize wdba.alloc (.cells (evL 0 zFr 0).toArray 45) = wdbac at *
        generalize wdba.heap.size = x8 at *
        go_simp
        have T7 := hide (show wdbac.there x7 0 23 from there_heap (cs := zCl.cs) N7.out)
        refine wpAnyL_one (i := 11) (by kernel_rfl) ?_
        refine wpOp_do rfl rfl ?_
        refine wp_store_as 34 (.tmp 16) (.tmp 139) rfl x7 0 (e2.cs) (by rfl) (by rfl) (by exact T7.out) (by kernel_rfl) (by simp [Value.oneCell', Cl.cs]) ?_
        intro wa ea
        have N7a := hide (show wa.heap[x7]? = some (.cells (e2.cs).toArray 34 (0, 0)) by rw [ea]; exact whole_heap (e2.cs) (xs := zCl.cs) N7.out rfl)
        have N8a := hide (show wa.heap[x8]? = some (.cells (evL 0 zFr 0).toArray 45 (0, 0)) by rw [ea]; exact other_heap (by omega) _ _ _ N8.out)
        have Ca := hide (show wa.heap[y]? = some (.cells d2.cs.toArray 34 (0, 0)) by rw [ea]; exact other_heap (by omega) _ _ _ C.out)
        have Qa := hide (show Below w.heap.size w wa by rw [ea]; exact Q.out.trans (below_setCells _ _ _ (by have := Q.out.size; omega)))
        clear ea T7 N7 N8 Q C
        refine ⟨keepsL_all (by kernel_rfl) (by kernel_rfl), ?_⟩
        go_simp
        have T8 := hide (show wa.there x8 0 7 from there_heap (cs := evL 0 zFr 0) N8a.out)
        refine wpAnyL_one (i := 12) (by kernel_rfl) ?_
        refine wpOp_do rfl rfl ?_
        refine wp_store_as 45 (.tmp 17) (.tmp 140) rfl x8 0 (evL kd ef bd) (by rfl) (by rfl) (by exact T8.out) (by kernel_rfl) (by simp [Value.oneCell', evL]) ?_
        intro wb eb
        have N7 := hide (show wb.heap[x7]? = some (.cells (e2.cs).toArray 34 (0, 0)) by rw [eb]; exact other_heap (by omega) _ _ _ N7a.out)
        have N8 := hide (show wb.heap[x8]? = some (.cells (evL kd ef bd).toArray 45 (0, 0)) by rw [eb]; exact whole_heap (evL kd ef bd) (xs := evL 0 zFr 0) N8a.out rfl)
        have C := hide (show wb.heap[y]? = some (.cells d2.cs.toArray 34 (0, 0)) by rw [eb]; exact other_heap (by omega) _ _ _ Ca.out)
        have Q := hide (show Below w.heap.size w wb by rw [eb]; exact Qa.out.trans (below_setCells _ _ _ (by have := Qa.out.size; omega)))
        clear eb T8 N7a N8a Qa Ca
        refine ⟨keepsL_all (by kernel_rfl) (by kernel_rfl), ?_⟩
        go_simp
        refine wpAnyL_one (i := 13) (by kernel_rfl) ?_
        refine wpOp_do rfl rfl ?_
        go_simp
        refine ⟨keepsL_all (by kernel_rfl) (by kernel_rfl), ?_⟩
        go_simp
        refine wpAnyL_done (by kernel_rfl) ?_ _
        go_wp2_with fail
        go_meet
        exact ⟨x7, x8, rfl, rfl, rfl, N7, N8, C, Q, by omega⟩
      · refine wpOp_do rfl rfl ?_
        go_simp
        have q : Below wdb.heap.size wdb (wdb.alloc (.cells (evL 0 zFr 0).toArray 45)) := (Below.refl _ _).alloc (Nat.le_refl _) _
        have N8 := hide (World.alloc_heap_new wdb (.cells (evL 0 zFr 0).toArray 45))
        have z8C : y < wdb.heap.size := heap_lt C.out
        have z78 : x7 < wdb.heap.size := heap_lt N7.out
        replace C := hide (heap_below C.out q)
        replace N7 := hide (heap_below N7.out q)
        replace Q := hide (below_next Q.out Q.out.size q)
        clear q
        refine ⟨keepsL_mk (by kernel_rfl) (.cons C.out .nil), ?_⟩
        change wpAnyL _ _ _ _ _ _ _ _ _ (wdb.alloc (.cells (evL 0 zFr 0).toArray 45))
        generalize wdb.alloc (.cells (evL 0 zFr 0).toArray 45) = wdbc at *
        generalize wdb.heap.size = x8 at *
        go_simp
        refine wpAnyL_one (i := 4) (by kernel_rfl) ?_
        refine wpOp_do rfl rfl ?_
        go_simp
        (with_reducible refine (SA.out _).mono ?_)
        rintro ewdbca wdbca ⟨rfl, q⟩
        replace C := hide (heap_below C.out q)
        replace N7 := hide (heap_below N7.out q)
        replace N8 := hide (heap_below N8.out q)
        replace Q := hide (below_next Q.out Q.out.size q)
        clear q
        go_simp
        refine ⟨keepsL_all (by kernel_rfl) (by kernel_rfl), ?_⟩
        go_simp
        refine wpAnyL_pure (i := 5) (v := .tuple #[.agg (e2.cs).toArray, .agg (evL kd ef bd).toArray, .int .i64 0]) rfl rfl (by kernel_rfl) (by kernel_rfl) (by kernel_rfl) (by kernel_rfl) (by kernel_rfl) (fun _ _ _ h => hQ _ _ _ _ _ h) rfl (fun W => by go_simp) ?_
        go_simp
        refine wpAnyL_pure (i := 6) (v := .agg (e2.cs).toArray) rfl rfl (by kernel_rfl) (by kernel_rfl) (by kernel_rfl) (by kernel_rfl) (by kernel_rfl) (fun _ _ _ h => hQ _ _ _ _ _ h) rfl (fun W => by go_simp) ?_
        go_simp
        refine wpAnyL_pure (i := 7) (v := .agg (evL kd ef bd).toArray) rfl rfl (by kernel_rfl) (by kernel_rfl) (by kernel_rfl) (by kernel_rfl) (by kernel_rfl) (fun _ _ _ h => hQ _ _ _ _ _ h) rfl (fun W => by go_simp) ?_
        go_simp
        refine wpAnyL_pure (i := 8) (v := .int .i64 0) rfl rfl (by kernel_rfl) (by kernel_rfl) (by kernel_rfl) (by kernel_rfl) (by kernel_rfl) (fun _ _ _ h => hQ _ _ _ _ _ h) rfl (fun W => by go_simp) ?_
        go_simp
        have T7 := hide (show wdbca.there x7 0 23 from there_heap (cs := zCl.cs) N7.out)
        refine wpAnyL_one (i := 11) (by kernel_rfl) ?_
        refine wpOp_do rfl rfl ?_
        refine wp_store_as 34 (.tmp 16) (.tmp 139) rfl x7 0 (e2.cs) (by rfl) (by rfl) (by exact T7.out) (by kernel_rfl) (by simp [Value.oneCell', Cl.cs]) ?_
        intro wa ea
        have N7a := hide (show wa.heap[x7]? = some (.cells (e2.cs).toArray 34 (0, 0)) by rw [ea]; exact whole_heap (e2.cs) (xs := zCl.cs) N7.out rfl)
        have N8a := hide (show wa.heap[x8]? = some (.cells (evL 0 zFr 0).toArray 45 (0, 0)) by rw [ea]; exact other_heap (by omega) _ _ _ N8.out)
        have Ca := hide (show wa.heap[y]? = some (.cells d2.cs.toArray 34 (0, 0)) by rw [ea]; exact other_heap (by omega) _ _ _ C.out)
        have Qa := hide (show Below w.heap.size w wa by rw [ea]; exact Q.out.trans (below_setCells _ _ _ (by have := Q.out.size; omega)))
        clear ea T7 N7 N8 Q C
        refine ⟨keepsL_all (by kernel_rfl) (by kernel_rfl), ?_⟩
        go_simp
        have T8 := hide (show wa.there x8 0 7 from there_heap (cs := evL 0 zFr 0) N8a.out)
        refine wpAnyL_one (i := 12) (by kernel_rfl) ?_
        refine wpOp_do rfl rfl ?_
        refine wp_store_as 45 (.tmp 17) (.tmp 140) rfl x8 0 (evL kd ef bd) (by rfl) (by rfl) (by exact T8.out) (by kernel_rfl) (by simp [Value.oneCell', evL]) ?_
        intro wb eb
        have N7 := hide (show wb.heap[x7]? = some (.cells (e2.cs).toArray 34 (0, 0)) by rw [eb]; exact other_heap (by omega) _ _ _ N7a.out)
        have N8 := hide (show wb.heap[x8]? = some (.cells (evL kd ef bd).toArray 45 (0, 0)) by rw [eb]; exact whole_heap (evL kd ef bd) (xs := evL 0 zFr 0) N8a.out rfl)
        have C := hide (show wb.heap[y]? = some (.cells d2.cs.toArray 34 (0, 0)) by rw [eb]; exact other_heap (by omega) _ _ _ Ca.out)
        have Q := hide (show Below w.heap.size w wb by rw [eb]; exact Qa.out.trans (below_setCells _ _ _ (by have := Qa.out.size; omega)))
        clear eb T8 N7a N8a Qa Ca
        refine ⟨keepsL_all (by kernel_rfl) (by kernel_rfl), ?_⟩
        go_simp
        refine wpAnyL_one (i := 13) (by kernel_rfl) ?_
        refine wpOp_do rfl rfl ?_
        go_simp
        refine ⟨keepsL_all (by kernel_rfl) (by kernel_rfl), ?_⟩
        go_simp
        refine wpAnyL_done (by kernel_rfl) ?_ _
        go_wp2_with fail
        go_meet
        exact ⟨x7, x8, rfl, rfl, rfl, N7, N8, C, Q, by omega⟩
    · refine wpOp_do rfl rfl ?_
      go_simp
      have q : Below wd.heap.size wd (wd.alloc (.cells (evL 0 zFr 0).toArray 45)) := (Below.refl _ _).alloc (Nat.le_refl _) _
      have N8 := hide (World.alloc_heap_new wd (.cells (evL 0 zFr 0).toArray 45))
      have z8C : y < wd.heap.size := heap_lt C.out
      replace C := hide (heap_below C.out q)
      replace Q := hide (below_next Q.out Q.out.size q)
      clear q
      refine ⟨keepsL_mk (by kernel_rfl) (.cons C.out .nil), ?_⟩
      change wpAnyL _ _ _ _ _ _ _ _ _ (wd.alloc (.cells (evL 0 zFr 0).toArray 45))
      generalize wd.alloc (.cells (evL 0 zFr 0).toArray 45) = wdc at *
      generalize wd.heap.size = x8 at *
      go_simp
      refine wpAnyL_two (i := 4) (k := 9) (by kernel_rfl) ?_ ?_
      · refine wpOp_do rfl rfl ?_
        go_simp
        (with_reducible refine (SA.out _).mono ?_)
        rintro ewdca wdca ⟨rfl, q⟩
        replace C := hide (heap_below C.out q)
        replace N8 := hide (heap_below N8.out q)
        replace Q := hide (below_next Q.out Q.out.size q)
        clear q
        go_simp
        refine ⟨keepsL_all (by kernel_rfl) (by kernel_rfl), ?_⟩
        go_simp
        refine wpAnyL_pure (i := 5) (v := .tuple #[.agg (e2.cs).toArray, .agg (evL kd ef bd).toArray, .int .i64 0]) rfl rfl (by kernel_rfl) (by kernel_rfl) (by kernel_rfl) (by kernel_rfl) (by kernel_rfl) (fun _ _ _ h => hQ _ _ _ _ _ h) rfl (fun W => by go_simp) ?_
        go_simp
        refine wpAnyL_pure (i := 6) (v := .agg (e2.cs).toArray) rfl rfl (by kernel_rfl) (by kernel_rfl) (by kernel_rfl) (by kernel_rfl) (by kernel_rfl) (fun _ _ _ h => hQ _ _ _ _ _ h) rfl (fun W => by go_simp) ?_
        go_simp
        refine wpAnyL_pure (i := 7) (v := .agg (evL kd ef bd).toArray) rfl rfl (by kernel_rfl) (by kernel_rfl) (by kernel_rfl) (by kernel_rfl) (by kernel_rfl) (fun _ _ _ h => hQ _ _ _ _ _ h) rfl (fun W => by go_simp) ?_
        go_simp
        refine wpAnyL_pure (i := 8) (v := .int .i64 0) rfl rfl (by kernel_rfl) (by kernel_rfl) (by kernel_rfl) (by kernel_rfl) (by kernel_rfl) (fun _ _ _ h => hQ _ _ _ _ _ h) rfl (fun W => by go_simp) ?_
        go_simp
        refine wpAnyL_one (i := 9) (by kernel_rfl) ?_
        refine wpOp_do rfl rfl ?_
        go_simp
        have q : Below wdca.heap.size wdca (wdca.alloc (.cells zCl.cs.toArray 34)) := (Below.refl _ _).alloc (Nat.le_refl _) _
        have N7 := hide (World.alloc_heap_new wdca (.cells zCl.cs.toArray 34))
        have z7C : y < wdca.heap.size := heap_lt C.out
        have z78 : x8 < wdca.heap.size := heap_lt N8.out
        replace C := hide (heap_below C.out q)
        replace N8 := hide (heap_below N8.out q)
        replace Q := hide (below_next Q.out Q.out.size q)
        clear q
        refine ⟨keepsL_mk (by kernel_rfl) (.cons C.out .nil), ?_⟩
        change wpAnyL _ _ _ _ _ _ _ _ _ (wdca.alloc (.cells zCl.cs.toArray 34))
        generalize wdca.alloc (.cells zCl.cs.toArray 34) = wdcab at *
        generalize wdca.heap.size = x7 at *
        go_simp
        have T7 := hide (show wdcab.there x7 0 23 from there_heap (cs := zCl.cs) N7.out)
        refine wpAnyL_one (i := 11) (by kernel_rfl) ?_
        refine wpOp_do rfl rfl ?_
        refine wp_store_as 34 (.tmp 16) (.tmp 139) rfl x7 0 (e2.cs) (by rfl) (by rfl) (by exact T7.out) (by kernel_rfl) (by simp [Value.oneCell', Cl.cs]) ?_
        intro wa ea
        have N7a := hide (show wa.heap[x7]? = some (.cells (e2.cs).toArray 34 (0, 0)) by rw [ea]; exact whole_heap (e2.cs) (xs := zCl.cs) N7.out rfl)
        have N8a := hide (show wa.heap[x8]? = some (.cells (evL 0 zFr 0).toArray 45 (0, 0)) by rw [ea]; exact other_heap (by omega) _ _ _ N8.out)
        have Ca := hide (show wa.heap[y]? = some (.cells d2.cs.toArray 34 (0, 0)) by rw [ea]; exact other_heap (by omega) _ _ _ C.out)
        have Qa := hide (show Below w.heap.size w wa by rw [ea]; exact Q.out.trans (below_setCells _ _ _ (by have := Q.out.size; omega)))
        clear ea T7 N7 N8 Q C
        refine ⟨keepsL_all (by kernel_rfl) (by kernel_rfl), ?_⟩
        go_simp
        have T8 := hide (show wa.there x8 0 7 from there_heap (cs := evL 0 zFr 0) N8a.out)
        refine wpAnyL_one (i := 12) (by kernel_rfl) ?_
        refine wpOp_do rfl rfl ?_
        refine wp_store_as 45 (.tmp 17) (.tmp 140) rfl x8 0 (evL kd ef bd) (by rfl) (by rfl) (by exact T8.out) (by kernel_rfl) (by simp [Value.oneCell', evL]) ?_
        intro wb eb
        have N7 := hide (show wb.heap[x7]? = some (.cells (e2.cs).toArray 34 (0, 0)) by rw [eb]; exact other_heap (by omega) _ _ _ N7a.out)
        have N8 := hide (show wb.heap[x8]? = some (.cells (evL kd ef bd).toArray 45 (0, 0)) by rw [eb]; exact whole_heap (evL kd ef bd) (xs := evL 0 zFr 0) N8a.out rfl)
        have C := hide (show wb.heap[y]? = some (.cells d2.cs.toArray 34 (0, 0)) by rw [eb]; exact other_heap (by omega) _ _ _ Ca.out)
        have Q := hide (show Below w.heap.size w wb by rw [eb]; exact Qa.out.trans (below_setCells _ _ _ (by have := Qa.out.size; omega)))
        clear eb T8 N7a N8a Qa Ca
        refine ⟨keepsL_all (by kernel_rfl) (by kernel_rfl), ?_⟩
        go_simp
        refine wpAnyL_one (i := 13) (by kernel_rfl) ?_
        refine wpOp_do rfl rfl ?_
        go_simp
        refine ⟨keepsL_all (by kernel_rfl) (by kernel_rfl), ?_⟩
        go_simp
        refine wpAnyL_done (by kernel_rfl) ?_ _
        go_wp2_with fail
        go_meet
        exact ⟨x7, x8, rfl, rfl, rfl, N7, N8, C, Q, by omega⟩
      · refine wpOp_do rfl rfl ?_
        go_simp
        have q : Below wdc.heap.size wdc (wdc.alloc (.cells zCl.cs.toArray 34)) := (Below.refl _ _).alloc (Nat.le_refl _) _
        have N7 := hide (World.alloc_heap_new wdc (.cells zCl.cs.toArray 34))
        have z7C : y < wdc.heap.size := heap_lt C.out
        have z78 : x8 < wdc.heap.size := heap_lt N8.out
        replace C := hide (heap_below C.out q)
        replace N8 := hide (heap_below N8.out q)
        replace Q := hide (below_next Q.out Q.out.size q)
        clear q
        refine ⟨keepsL_mk (by kernel_rfl) (.cons C.out .nil), ?_⟩
        change wpAnyL _ _ _ _ _ _ _ _ _ (wdc.alloc (.cells zCl.cs.toArray 34))
        generalize wdc.alloc (.cells zCl.cs.toArray 34) = wdcb at *
        generalize wdc.heap.size = x7 at *
        go_simp
        refine wpAnyL_one (i := 4) (by kernel_rfl) ?_
        refine wpOp_do rfl rfl ?_
        go_simp
        (with_reducible refine (SA.out _).mono ?_)
        rintro ewdcba wdcba ⟨rfl, q⟩
        replace C := hide (heap_below C.out q)
        replace N7 := hide (heap_below N7.out q)
        replace N8 := hide (heap_below N8.out q)
        replace Q := hide (below_next Q.out Q.out.size q)
        clear q
        go_simp
        refine ⟨keepsL_all (by kernel_rfl) (by kernel_rfl), ?_⟩
        go_simp
        refine wpAnyL_pure (i := 5) (v := .tuple #[.agg (e2.cs).toArray, .agg (evL kd ef bd).toArray, .int .i64 0]) rfl rfl (by kernel_rfl) (by kernel_rfl) (by kernel_rfl) (by kernel_rfl) (by kernel_rfl) (fun _ _ _ h => hQ _ _ _ _ _ h) rfl (fun W => by go_simp) ?_
        go_simp
        refine wpAnyL_pure (i := 6) (v := .agg (e2.cs).toArray) rfl rfl (by kernel_rfl) (by kernel_rfl) (by kernel_rfl) (by kernel_rfl) (by kernel_rfl) (fun _ _ _ h => hQ _ _ _ _ _ h) rfl (fun W => by go_simp) ?_
        go_simp
        refine wpAnyL_pure (i := 7) (v := .agg (evL kd ef bd).toArray) rfl rfl (by kernel_rfl) (by kernel_rfl) (by kernel_rfl) (by kernel_rfl) (by kernel_rfl) (fun _ _ _ h => hQ _ _ _ _ _ h) rfl (fun W => by go_simp) ?_
        go_simp
        refine wpAnyL_pure (i := 8) (v := .int .i64 0) rfl rfl (by kernel_rfl) (by kernel_rfl) (by kernel_rfl) (by kernel_rfl) (by kernel_rfl) (fun _ _ _ h => hQ _ _ _ _ _ h) rfl (fun W => by go_simp) ?_
        go_simp
        have T7 := hide (show wdcba.there x7 0 23 from there_heap (cs := zCl.cs) N7.out)
        refine wpAnyL_one (i := 11) (by kernel_rfl) ?_
        refine wpOp_do rfl rfl ?_
        refine wp_store_as 34 (.tmp 16) (.tmp 139) rfl x7 0 (e2.cs) (by rfl) (by rfl) (by exact T7.out) (by kernel_rfl) (by simp [Value.oneCell', Cl.cs]) ?_
        intro wa ea
        have N7a := hide (show wa.heap[x7]? = some (.cells (e2.cs).toArray 34 (0, 0)) by rw [ea]; exact whole_heap (e2.cs) (xs := zCl.cs) N7.out rfl)
        have N8a := hide (show wa.heap[x8]? = some (.cells (evL 0 zFr 0).toArray 45 (0, 0)) by rw [ea]; exact other_heap (by omega) _ _ _ N8.out)
        have Ca := hide (show wa.heap[y]? = some (.cells d2.cs.toArray 34 (0, 0)) by rw [ea]; exact other_heap (by omega) _ _ _ C.out)
        have Qa := hide (show Below w.heap.size w wa by rw [ea]; exact Q.out.trans (below_setCells _ _ _ (by have := Q.out.size; omega)))
        clear ea T7 N7 N8 Q C
        refine ⟨keepsL_all (by kernel_rfl) (by kernel_rfl), ?_⟩
        go_simp
        have T8 := hide (show wa.there x8 0 7 from there_heap (cs := evL 0 zFr 0) N8a.out)
        refine wpAnyL_one (i := 12) (by kernel_rfl) ?_
        refine wpOp_do rfl rfl ?_
        refine wp_store_as 45 (.tmp 17) (.tmp 140) rfl x8 0 (evL kd ef bd) (by rfl) (by rfl) (by exact T8.out) (by kernel_rfl) (by simp [Value.oneCell', evL]) ?_
        intro wb eb
        have N7 := hide (show wb.heap[x7]? = some (.cells (e2.cs).toArray 34 (0, 0)) by rw [eb]; exact other_heap (by omega) _ _ _ N7a.out)
        have N8 := hide (show wb.heap[x8]? = some (.cells (evL kd ef bd).toArray 45 (0, 0)) by rw [eb]; exact whole_heap (evL kd ef bd) (xs := evL 0 zFr 0) N8a.out rfl)
        have C := hide (show wb.heap[y]? = some (.cells d2.cs.toArray 34 (0, 0)) by rw [eb]; exact other_heap (by omega) _ _ _ Ca.out)
        have Q := hide (show Below w.heap.size w wb by rw [eb]; exact Qa.out.trans (below_setCells _ _ _ (by have := Qa.out.size; omega)))
        clear eb T8 N7a N8a Qa Ca
        refine ⟨keepsL_all (by kernel_rfl) (by kernel_rfl), ?_⟩
        go_simp
        refine wpAnyL_one (i := 13) (by kernel_rfl) ?_
        refine wpOp_do rfl rfl ?_
        go_simp
        refine ⟨keepsL_all (by kernel_rfl) (by kernel_rfl), ?_⟩
        go_simp
        refine wpAnyL_done (by kernel_rfl) ?_ _
        go_wp2_with fail
        go_meet
        exact ⟨x7, x8, rfl, rfl, rfl, N7, N8, C, Q, by omega⟩

set_option maxRecDepth 100000 in
set_option maxHeartbeats 32000000 in
theorem ctlStays_may (wr : World) (x7 x8 : Nat) (e2 : Cl) (kd : Int) (ef : Fr) (bd : Int) (db : UInt8) {sl0 sl1 sl2 sl3 sl4 sl5 sl6 sl7 sl8 sl9 sl10 sl11 sl12 sl13 sl19 sl20 sl21 sl22 sl23 sl24 sl25 sl26 sl27 sl28 sl29 sl30 sl31 sl32 sl33 sl34 sl35 sl36 sl37 sl38 sl39 sl40 sl41 sl42 sl43 sl44 sl45 sl46 sl47 sl48 sl49 sl50 sl51 sl52 sl53 sl54 sl55 sl56 sl57 sl58 sl59 sl60 sl61 sl62 sl63 sl64 sl65 sl66 sl67 sl68 sl69 sl70 sl71 sl72 sl73 sl74 sl75 sl76 sl77 sl78 sl79 sl80 sl81 sl82 sl83 sl84 sl85 sl86 sl87 sl88 sl89 sl90 sl91 sl92 sl93 sl94 sl95 sl96 sl97 sl98 sl99 sl100 sl101 sl102 sl103 sl104 sl105 sl106 sl107 sl108 sl109 sl110 sl111 sl112 sl113 sl114 sl115 sl116 sl117 sl118 sl119 sl120 sl121 sl122 sl123 sl124 sl125 sl126 sl127 sl128 sl129 sl130 sl131 sl132 sl133 sl134 sl135 sl136 sl137 sl138 sl139 sl140 sl141 sl142 sl143 sl144 sl145 sl146 sl147 sl148 sl149 sl150 sl151 sl152 sl153 sl154 sl155 sl156 sl157 sl158 sl159 sl160 sl161 sl162 sl163 sl164 sl165 sl166 sl167 sl168 sl169 sl170 sl171 sl172 sl173 sl174 sl175 sl176 sl177 sl178 sl179 sl180 sl181 sl182 sl183 sl184 sl185 sl186 sl187 sl188 sl189 sl190 sl191 sl192 sl193 sl194 sl195 sl196 sl197 sl198 sl199 sl200 sl201 sl202 : Value} {K' : Act → World → Prop} {Q' : Exit → Act → World → Prop} {Cd : Code} (hC : Cd = partC Tryd.f3.body (isRegion 28))
    (hok : e2.Ok)
    (hev : EvOk ⟨e2, kd, ef, bd⟩)
    (hdb : db = 48 ∨ db = 49)
    (N7 : Hid (wr.heap[x7]? = some (.cells e2.cs.toArray 34 (0, 0))))
    (N8 : Hid (wr.heap[x8]? = some (.cells (evL kd ef bd).toArray 45 (0, 0))))
    (_hQ : ∀ c (a : Act) d v w, Q' (.panic c) (a.put d v) w → Q' (.panic c) a w)
    (hK : ∀ (v142 v143 v144 v145 v146 v147 v148 v149 v150 v151 v152 v153 v154 v155 v156 v157 v158 v159 v160 v161 v162 v163 v164 v165 v166 v167 v168 v169 v170 v171 v172 v173 v174 v175 v176 v177 v178 v179 v180 v181 v182 v183 v184 v185 : Value) (W' : World), (fun v W => v = .bool false ∧ Below wr.heap.size wr W) v185 W' → K' ⟨List.toArray (sl0 :: sl1 :: sl2 :: sl3 :: sl4 :: sl5 :: sl6 :: sl7 :: sl8 :: sl9 :: sl10 :: sl11 :: sl12 :: sl13 :: (.int .u8 db.toNat) :: (.int .i64 0) :: (.pointer (some ⟨x7, 0, none⟩)) :: (.pointer (some ⟨x8, 0, none⟩)) :: (.int .i64 0) :: sl19 :: sl20 :: sl21 :: sl22 :: sl23 :: sl24 :: sl25 :: sl26 :: sl27 :: sl28 :: sl29 :: sl30 :: sl31 :: sl32 :: sl33 :: sl34 :: sl35 :: sl36 :: sl37 :: sl38 :: sl39 :: sl40 :: sl41 :: sl42 :: sl43 :: sl44 :: sl45 :: sl46 :: sl47 :: sl48 :: sl49 :: sl50 :: sl51 :: sl52 :: sl53 :: sl54 :: sl55 :: sl56 :: sl57 :: sl58 :: sl59 :: sl60 :: sl61 :: sl62 :: sl63 :: sl64 :: sl65 :: sl66 :: sl67 :: sl68 :: sl69 :: sl70 :: sl71 :: sl72 :: sl73 :: sl74 :: sl75 :: sl76 :: sl77 :: sl78 :: sl79 :: sl80 :: sl81 :: sl82 :: sl83 :: sl84 :: sl85 :: sl86 :: sl87 :: sl88 :: sl89 :: sl90 :: sl91 :: sl92 :: sl93 :: sl94 :: sl95 :: sl96 :: sl97 :: sl98 :: sl99 :: sl100 :: sl101 :: sl102 :: sl103 :: sl104 :: sl105 :: sl106 :: sl107 :: sl108 :: sl109 :: sl110 :: sl111 :: sl112 :: sl113 :: sl114 :: sl115 :: sl116 :: sl117 :: sl118 :: sl119 :: sl120 :: sl121 :: sl122 :: sl123 :: sl124 :: sl125 :: sl126 :: sl127 :: sl128 :: sl129 :: sl130 :: sl131 :: sl132 :: sl133 :: sl134 :: sl135 :: sl136 :: sl137 :: sl138 :: sl139 :: sl140 :: sl141 :: v142 :: v143 :: v144 :: v145 :: v146 :: v147 :: v148 :: v149 :: v150 :: v151 :: v152 :: v153 :: v154 :: v155 :: v156 :: v157 :: v158 :: v159 :: v160 :: v161 :: v162 :: v163 :: v164 :: v165 :: v166 :: v167 :: v168 :: v169 :: v170 :: v171 :: v172 :: v173 :: v174 :: v175 :: v176 :: v177 :: v178 :: v179 :: v180 :: v181 :: v182 :: v183 :: v184 :: v185 :: sl186 :: sl187 :: sl188 :: sl189 :: sl190 :: sl191 :: sl192 :: sl193 :: sl194 :: sl195 :: sl196 :: sl197 :: sl198 :: sl199 :: sl200 :: sl201 :: sl202 :: []), []⟩ W') :
    Cd.wp Tryd.prog (Exit.then K' Q') ⟨List.toArray (sl0 :: sl1 :: sl2 :: sl3 :: sl4 :: sl5 :: sl6 :: sl7 :: sl8 :: sl9 :: sl10 :: sl11 :: sl12 :: sl13 :: (.int .u8 db.toNat) :: (.int .i64 0) :: (.pointer (some ⟨x7, 0, none⟩)) :: (.pointer (some ⟨x8, 0, none⟩)) :: (.int .i64 0) :: sl19 :: sl20 :: sl21 :: sl22 :: sl23 :: sl24 :: sl25 :: sl26 :: sl27 :: sl28 :: sl29 :: sl30 :: sl31 :: sl32 :: sl33 :: sl34 :: sl35 :: sl36 :: sl37 :: sl38 :: sl39 :: sl40 :: sl41 :: sl42 :: sl43 :: sl44 :: sl45 :: sl46 :: sl47 :: sl48 :: sl49 :: sl50 :: sl51 :: sl52 :: sl53 :: sl54 :: sl55 :: sl56 :: sl57 :: sl58 :: sl59 :: sl60 :: sl61 :: sl62 :: sl63 :: sl64 :: sl65 :: sl66 :: sl67 :: sl68 :: sl69 :: sl70 :: sl71 :: sl72 :: sl73 :: sl74 :: sl75 :: sl76 :: sl77 :: sl78 :: sl79 :: sl80 :: sl81 :: sl82 :: sl83 :: sl84 :: sl85 :: sl86 :: sl87 :: sl88 :: sl89 :: sl90 :: sl91 :: sl92 :: sl93 :: sl94 :: sl95 :: sl96 :: sl97 :: sl98 :: sl99 :: sl100 :: sl101 :: sl102 :: sl103 :: sl104 :: sl105 :: sl106 :: sl107 :: sl108 :: sl109 :: sl110 :: sl111 :: sl112 :: sl113 :: sl114 :: sl115 :: sl116 :: sl117 :: sl118 :: sl119 :: sl120 :: sl121 :: sl122 :: sl123 :: sl124 :: sl125 :: sl126 :: sl127 :: sl128 :: sl129 :: sl130 :: sl131 :: sl132 :: sl133 :: sl134 :: sl135 :: sl136 :: sl137 :: sl138 :: sl139 :: sl140 :: sl141 :: sl142 :: sl143 :: sl144 :: sl145 :: sl146 :: sl147 :: sl148 :: sl149 :: sl150 :: sl151 :: sl152 :: sl153 :: sl154 :: sl155 :: sl156 :: sl157 :: sl158 :: sl159 :: sl160 :: sl161 :: sl162 :: sl163 :: sl164 :: sl165 :: sl166 :: sl167 :: sl168 :: sl169 :: sl170 :: sl171 :: sl172 :: sl173 :: sl174 :: sl175 :: sl176 :: sl177 :: sl178 :: sl179 :: sl180 :: sl181 :: sl182 :: sl183 :: sl184 :: sl185 :: sl186 :: sl187 :: sl188 :: sl189 :: sl190 :: sl191 :: sl192 :: sl193 :: sl194 :: sl195 :: sl196 :: sl197 :: sl198 :: sl199 :: sl200 :: sl201 :: sl202 :: []), []⟩ wr := by
  subst hC
  conv => arg 2; whnf
  go_cut [185] from 99999 (fun v W => v = .bool false ∧ Below wr.heap.size wr W)
  case rest => exact hK _ _ _ _ _ _ _ _ _ _ _ _ _ _ _ _ _ _ _ _ _ _ _ _ _ _ _ _ _ _ _ _ _ _ _ _ _ _ _ _ _ _ _ _ _ hcut
  case first =>
    clear hK
    have RT := hide (fun W => ctlRight_ok e2 W hok)
    have hcb : cntB e2.tc e2.rc e2.off e2.rs = true := hok.cnt
    have RC := hide (fun W => show Calls Tryd.prog 14 #[.agg #[.int .i64 e2.tc, .int .i64 e2.rc, .bool e2.off, .int .i64 e2.rs]] W fun e w' => e = .returned (.bool true) ∧ Below W.heap.size W w' from by have := refCnt06_any e2.tc e2.rc e2.off e2.rs W; rw [hcb] at this; exact this)
    have hk0 : ¬ kd < 0 := by have := hev.k0; exact Int.not_lt.2 this
    have hk4 : ¬ 4 < kd := by have := hev.k4; exact Int.not_lt.2 this
    have hk3 : ((kd == 3) = true ∧ (bd != 0) = true) ∨ ((kd == 3) = false ∧ (bd != 0) = false) := by
      have h := hev.bad
      dsimp only at h
      by_cases h3 : kd = 3
      · left; exact ⟨by simpa using h3, by simpa using h.1 h3⟩
      · right; exact ⟨by simpa using h3, by simp only [bne_eq_false_iff_eq]; exact Classical.not_not.1 (fun q => h3 (h.2 q))⟩
    have hk3i : (0 : Int) ≤ kd := by omega
    have hk4i : kd ≤ 4 := by omega
    have QQ := hide (show Below wr.heap.size wr wr from Below.refl _ _)
    clear hcb hev hok
    rcases hdb with rfl | rfl
    all_goals
      go_wp2_with (refine wpList_load_rowG (by kernel_rfl) 34 (.tmp 16) (by rfl) x7 (by rfl) 34 e2.cs.toArray (0, 0) _ (by exact N7.out) Tryd.underlying34 (by rfl) (by kernel_rfl) ?_)
      (with_reducible refine (RT.out _).mono ?_)
      rintro ea wa ⟨rfl, qa⟩
      have N7a := hide (heap_below N7.out qa)
      have N8a := hide (heap_below N8.out qa)
      have QQa := hide (below_next QQ.out QQ.out.size qa)
      clear qa
      obtain ⟨⟨a0, a1, a2, a3⟩, -⟩ := cl_cells N7a.out
      go_wp2_with fail
      (with_reducible refine (RC.out _).mono ?_)
      rintro eb wb ⟨rfl, qb⟩
      have N8b := hide (heap_below N8a.out qb)
      have QQb := hide (below_next QQa.out QQa.out.size qb)
      clear qb a0 a1 a2 a3
      obtain ⟨v0, v1, v2, v3, v4, v5, v6⟩ := ev_cells N8b.out
      rcases hk3 with ⟨h3, h5⟩ | ⟨h3, h5⟩
      all_goals
        go_wp2_with fail
        go_meet
        exact ⟨by first | rfl | (rw [decide_eq_false (show ¬ kd < 0 by omega), decide_eq_false (show ¬ 4 < kd by omega)]; rfl), QQb.out⟩
end Go.Proofs.YtjfgapljfbkfiaaDoor
