/- com.TickIn of bytes that come and may be. -/
import Derived.Test.YtnhegnneohpkaaaGreatCmM
namespace Go.Proofs.YtnhegnneohpkaaaGreat
open Go.ChangeShapes Go.WideShapes Go.ChangeAt Go.RowKit
open CM PD SG

structure Inn.Tn (i : Inn) (N : Nat) (V : Inn) : Prop where
  ly : V.ly = i.ly
  fl : V.fl = i.fl
  subs : V.subs = i.subs
  w : V.w = i.w.tick
  rest : V.S = i.S ∧ V.G = i.G ∧ V.times = i.times ∧ i.w.tickE = false ∨ V.S.l = i.subs.l ∧ V.G.l = i.subs.l ∧ V.times = i.times + 1 ∧ Fresh N V.S.a ∧ Fresh N V.G.a ∧ i.w.tickE = true

set_option maxRecDepth 100000 in
set_option maxHeartbeats 16000000 in
theorem comTickIn_ok (i : Inn) (w : World) (ho : i.Ok w) (hr : i.right = true) (ht : i.times < 1099511627776) :
    Calls Tryz.prog 18 #[.agg i.cs.toArray] w fun e w' => ∃ V : Inn, e = .returned (.tuple #[.agg V.cs.toArray, .bool i.w.tickE, .int .i64 0]) ∧ V.Ok w' ∧ i.Tn w.heap.size V ∧ Below w.heap.size w w' := by
  obtain ⟨w0, hw0⟩ : ∃ w0, w0 = (w.alloc (.cells i.cs.toArray 47)).alloc (.cells Inn.zero.cs.toArray 47) := ⟨_, rfl⟩
  have B := hide (heap_below (World.alloc_heap_new w (.cells i.cs.toArray 47)) ((Below.refl _ (w.alloc (.cells i.cs.toArray 47))).alloc (Nat.le_refl _) (.cells Inn.zero.cs.toArray 47)))
  have R := hide (World.alloc_heap_new (w.alloc (.cells i.cs.toArray 47)) (.cells Inn.zero.cs.toArray 47))
  have Q : Hid (Below w.heap.size w w0) := by rw [hw0]; exact hide (((Below.refl w.heap.size w).alloc (Nat.le_refl _) (.cells i.cs.toArray 47)).alloc (by simp; try omega) (.cells Inn.zero.cs.toArray 47))
  rw [← hw0] at B R
  simp only [World.size_alloc] at R
  obtain ⟨P, hfs, hwt⟩ := Inn.parts hr
  have RT := hide (fun W (q : Below w.heap.size w W) => rightIn_l i W (ho.next q) hr)
  have ST := hide (fun W => recvTick_ok i.w W hwt)
  obtain ⟨tk, htk⟩ : ∃ tk, tk = i.w.tick := ⟨_, rfl⟩
  obtain ⟨b, hb⟩ : ∃ b, b = i.w.tickE := ⟨_, rfl⟩
  rw [← htk, ← hb] at ST
  rw [← hb]
  have TKf : Hid (i.subs.l.length = i.S.l.length) := hide (by have := P.ls; have h2 := hfs; unfold fitA at h2; simp only [Bool.and_eq_true, decide_eq_true_eq] at h2; omega)
  have HO := hide ho
  have HP := hide P
  have HT := hide ht
  have HK := hide htk
  have HB := hide hb
  clear ho hr P hfs hwt ht htk hb
  go_enter Tryz.func18, Tryz.ntmps18
  go_upto_region 1 with fail
  change Code.wp _ _ _ _ ((w.alloc (.cells i.cs.toArray 47)).alloc (.cells Inn.zero.cs.toArray 47))
  rw [← hw0]
  clear hw0
  have S1 := hide (ST.out w0)
  clear ST
  go_wp2_with (refine wpList_load_mid rfl 45 (.tmp 11) (by rfl) w.heap.size 8 (by rfl) (wtcL i.w) _ (by exact sub_range B.out 8 rfl) Tryz.underlying45 (by rfl) (by kernel_rfl) ?_)
  (with_reducible refine (S1.out).mono ?_)
  rintro ew1' w1' ⟨rfl, qw1'⟩
  replace B := hide (heap_below B.out qw1')
  replace R := hide (heap_below R.out qw1')
  replace Q := hide (below_next Q.out Q.out.size qw1')
  clear qw1'
  clear S1
  have X := World.alloc_heap_new w1' (.cells (wtcL zWt).toArray 45)
  have zBx : w.heap.size < w1'.heap.size := heap_lt B.out
  have zRx : w.heap.size + 1 < w1'.heap.size := heap_lt R.out
  have zQx : w.heap.size ≤ w1'.heap.size := Q.out.size
  obtain ⟨w3', hw3'⟩ : ∃ wx, wx = w1'.alloc (.cells (wtcL zWt).toArray 45) := ⟨_, rfl⟩
  have q2' := hide (show Below w1'.heap.size w1' w3' by rw [hw3']; exact (Below.refl _ _).alloc (Nat.le_refl _) _)
  rw [← hw3'] at X
  replace X := hide X
  have Tw4' := hide (show (w1'.alloc (.cells (wtcL zWt).toArray 45)).there w1'.heap.size 0 5 by rw [← hw3']; exact there_heap (cs := wtcL zWt) X.out)
  go_wp2_with (refine wpList_store_hid (by rfl) 45 (.tmp 5) (.tmp 14) (by rfl) w1'.heap.size 0 (wtcL tk) (by rfl) (by rfl) (by exact Tw4'.out) (by kernel_rfl) (by simp [Value.oneCell', wtcL]) ?_)
  intro w4' ew4'
  replace ew4' : Hid (w4' = w3'.setCells w1'.heap.size 0 (wtcL tk)) := by rw [hw3']; exact ew4'
  replace X := hide (show w4'.heap[w1'.heap.size]? = some (.cells (wtcL tk).toArray 45 (0, 0)) by rw [ew4'.out]; exact whole_heap (wtcL tk) (xs := wtcL zWt) X.out rfl)
  replace q2' := hide (show Below w1'.heap.size w1' w4' by rw [ew4'.out]; exact q2'.out.trans (below_setCells _ _ _ (by omega)))
  clear ew4' Tw4' hw3'
  replace B := hide (heap_below B.out q2'.out)
  replace R := hide (heap_below R.out q2'.out)
  replace Q := hide (below_next Q.out Q.out.size q2'.out)
  clear q2'
  generalize w1'.heap.size = x at *
  have R1 := hide (RT.out _ Q.out)
  clear RT
  have zx := heap_lt X.out
  go_wp2_with (refine wpList_load_row rfl 47 (.tmp 1) (by rfl) w.heap.size (by rfl) 47 i.cs.toArray (0, 0) _ (by exact B.out) Tryz.underlying47 (by rfl) (by kernel_rfl) ?_)
  (with_reducible refine (R1.out).mono ?_)
  rintro ew5' w5' ⟨rfl, qw5'⟩
  replace B := hide (heap_below B.out qw5')
  replace R := hide (heap_below R.out qw5')
  replace X := hide (heap_below X.out qw5')
  replace Q := hide (below_next Q.out Q.out.size qw5')
  clear qw5'
  clear R1
  have zB := heap_lt B.out
  have zR := heap_lt R.out
  have zX := heap_lt X.out
  have zQ := Q.out.size
  have Tw6' := hide (show World.there _ w.heap.size 8 5 from sub_there (cs := i.cs) B.out 8 5 (by simp [Inn.cs, Fv.v, Iv.v]))
  go_wp2_with (first | (refine wpList_load_row rfl 45 (.tmp 5) (by rfl) x (by rfl) 45 (wtcL tk).toArray (0, 0) _ (by exact X.out) Tryz.underlying45 (by rfl) (by kernel_rfl) ?_) | (refine wpList_store_hid (by rfl) 45 (.tmp 26) (.tmp 25) (by rfl) w.heap.size 8 (wtcL tk) (by rfl) (by rfl) (by exact Tw6'.out) (by kernel_rfl) (by simp [Value.oneCell', wtcL]) ?_))
  intro w6' ew6'
  replace R := hide (show w6'.heap[w.heap.size + 1]? = some (.cells Inn.zero.cs.toArray 47 (0, 0)) by rw [ew6'.out]; exact other_heap (by omega) _ _ _ R.out)
  replace X := hide (show w6'.heap[x]? = some (.cells (wtcL tk).toArray 45 (0, 0)) by rw [ew6'.out]; exact other_heap (by omega) _ _ _ X.out)
  replace Q := hide (show Below w.heap.size w w6' by rw [ew6'.out]; exact Q.out.trans (below_setCells _ _ _ (by have := Q.out.size; omega)))
  replace B := hide (show w6'.heap[w.heap.size]? = some (.cells (({ i with w := tk } : Inn).cs).toArray 47 (0, 0)) by rw [ew6'.out]; exact set_heap (wtcL tk) (i.cs) 8 _ B.out)
  clear ew6' Tw6'
  clear X 
  have ok := HO.out.next Q.out
  cases b with
  | false =>
    clear ok
    have Tw7' := hide (show World.there _ (w.heap.size + 1) 0 13 from there_heap (cs := Inn.zero.cs) R.out)
    go_wp2_with (first | (refine wpList_load_row rfl 47 (.tmp 1) (by rfl) w.heap.size (by rfl) 47 (({ i with w := tk } : Inn).cs).toArray (0, 0) _ (by exact B.out) Tryz.underlying47 (by rfl) (by kernel_rfl) ?_) | (refine wpList_store_hid (by rfl) 47 (.tmp 2) (.tmp 42) (by rfl) (w.heap.size + 1) 0 (({ i with w := tk } : Inn).cs) (by rfl) (by rfl) (by exact Tw7'.out) (by kernel_rfl) (by simp [Value.oneCell', Inn.cs, Fv.v, Iv.v]) ?_))
    intro w7' ew7'
    replace B := hide (show w7'.heap[w.heap.size]? = some (.cells (({ i with w := tk } : Inn).cs).toArray 47 (0, 0)) by rw [ew7'.out]; exact other_heap (by omega) _ _ _ B.out)
    replace Q := hide (show Below w.heap.size w w7' by rw [ew7'.out]; exact Q.out.trans (below_setCells _ _ _ (by have := Q.out.size; omega)))
    replace R := hide (show w7'.heap[w.heap.size + 1]? = some (.cells (({ i with w := tk } : Inn).cs).toArray 47 (0, 0)) by rw [ew7'.out]; exact whole_heap (({ i with w := tk } : Inn).cs) (xs := Inn.zero.cs) R.out rfl)
    clear ew7' Tw7'
    go_wp2_with fail
    have ok := HO.out.next Q.out
    refine bodyPost_ret (results_cell_tmp2 (by rfl) _ w7' (w.heap.size + 1) 47 (({ i with w := tk } : Inn).cs).toArray (0, 0) _ (.bool false) (.int .i64 0) (by rfl) (by rfl) (by rfl) R.out Tryz.underlying47 (by rfl) (by kernel_rfl)) rfl (⟨({ i with w := tk } : Inn), rfl, ⟨ok.ly, ok.fl, ok.S, ok.G, ok.subs⟩, ⟨rfl, rfl, rfl, HK.out, .inl ⟨rfl, rfl, rfl, HB.out.symm⟩⟩, Q.out⟩)
  | true =>
    have G1 := hide (show Calls Tryz.prog 37 #[.agg (grI i.S i.G i.times).toArray, .slice i.subs.a i.subs.l.length i.subs.c] w6' _ from grTake_ok i.S i.G i.subs i.times w6' HP.out.gr ok.subs.r TKf.out HT.out)
    clear ok
    have zQ5 := Q.out.size
    obtain ⟨-, -, -, -, -, -, -, c7, -, -, -, -, -⟩ := in_cells B.out
    change _ = some (Value.slice i.subs.a i.subs.l.length i.subs.c) at c7
    go_wp2_with (refine wpList_load_mid rfl 35 (.tmp 29) (by rfl) w.heap.size 4 (by rfl) (grI i.S i.G i.times) _ (by exact sub_range B.out 4 rfl) Tryz.underlying35 (by rfl) (by kernel_rfl) ?_)
    clear c7
    (with_reducible refine (G1.out).mono ?_)
    rintro ew8' w8' ⟨⟨AX, Aa, Ac⟩, ⟨Gl, Ga, Gc⟩, rfl, ⟨eA, RA, FRA⟩, ⟨eG, RG, FRG⟩, qw8'⟩
    have O_RA_B := hide (show Off Aa (inRow i.subs.l).length w.heap.size from off_fresh FRA (heap_lt B.out))
    have O_RA_R := hide (show Off Aa (inRow i.subs.l).length (w.heap.size + 1) from off_fresh FRA (heap_lt R.out))
    have O_RG_B := hide (show Off Ga (inRow i.subs.l).length w.heap.size from off_fresh FRG (heap_lt B.out))
    have O_RG_R := hide (show Off Ga (inRow i.subs.l).length (w.heap.size + 1) from off_fresh FRG (heap_lt R.out))
    replace B := hide (heap_below B.out qw8')
    replace R := hide (heap_below R.out qw8')
    replace Q := hide (below_next Q.out Q.out.size qw8')
    clear qw8'
    replace RA := hide (show Rd w8' w8'.heap.size Aa 1 (inRow i.subs.l) from RA)
    replace FRA := hide FRA
    replace RG := hide (show Rd w8' w8'.heap.size Ga 1 (inRow i.subs.l) from RG)
    replace FRG := hide FRG
    clear G1
    change AX = _ at eA
    change Gl = _ at eG
    subst eA
    subst eG
    have X := World.alloc_heap_new w8' (.cells zGr.toArray 35)
    have zBy : w.heap.size < w8'.heap.size := heap_lt B.out
    have zRy : w.heap.size + 1 < w8'.heap.size := heap_lt R.out
    have O_RA_X := hide (off_new (x := w8'.heap.size) RA.out (by omega))
    have O_RG_X := hide (off_new (x := w8'.heap.size) RG.out (by omega))
    have zQy : w.heap.size ≤ w8'.heap.size := Q.out.size
    obtain ⟨w10', hw10'⟩ : ∃ wx, wx = w8'.alloc (.cells zGr.toArray 35) := ⟨_, rfl⟩
    have q9' := hide (show Below w8'.heap.size w8' w10' by rw [hw10']; exact (Below.refl _ _).alloc (Nat.le_refl _) _)
    rw [← hw10'] at X
    replace X := hide X
    have Tw11' := hide (show (w8'.alloc (.cells zGr.toArray 35)).there w8'.heap.size 0 3 by rw [← hw10']; exact there_heap (cs := zGr) X.out)
    go_wp2_with (refine wpList_store_hid (by rfl) 35 (.tmp 8) (.tmp 34) (by rfl) w8'.heap.size 0 (grI (⟨i.subs.l, Aa, Ac⟩ : Iv) (⟨i.subs.l, Ga, Gc⟩ : Iv) (i.times + 1)) (by rfl) (by rfl) (by exact Tw11'.out) (by kernel_rfl) (by simp [Value.oneCell', grI, Iv.v]) ?_)
    intro w11' ew11'
    replace ew11' : Hid (w11' = w10'.setCells w8'.heap.size 0 (grI (⟨i.subs.l, Aa, Ac⟩ : Iv) (⟨i.subs.l, Ga, Gc⟩ : Iv) (i.times + 1))) := by rw [hw10']; exact ew11'
    replace X := hide (show w11'.heap[w8'.heap.size]? = some (.cells (grI (⟨i.subs.l, Aa, Ac⟩ : Iv) (⟨i.subs.l, Ga, Gc⟩ : Iv) (i.times + 1)).toArray 35 (0, 0)) by rw [ew11'.out]; exact whole_heap (grI (⟨i.subs.l, Aa, Ac⟩ : Iv) (⟨i.subs.l, Ga, Gc⟩ : Iv) (i.times + 1)) (xs := zGr) X.out rfl)
    replace q9' := hide (show Below w8'.heap.size w8' w11' by rw [ew11'.out]; exact q9'.out.trans (below_setCells _ _ _ (by omega)))
    clear ew11' Tw11' hw10'
    replace B := hide (heap_below B.out q9'.out)
    replace R := hide (heap_below R.out q9'.out)
    replace RA := hide (Rd.next RA.out q9'.out q9'.out.size)
    replace RG := hide (Rd.next RG.out q9'.out q9'.out.size)
    replace Q := hide (below_next Q.out Q.out.size q9'.out)
    clear q9'
    generalize w8'.heap.size = y at *
    have zB6 := heap_lt B.out
    have zR6 := heap_lt R.out
    have zX6 := heap_lt X.out
    have zQ6 := Q.out.size
    have Tw12' := hide (show World.there _ w.heap.size 4 3 from sub_there (cs := ({ i with w := tk } : Inn).cs) B.out 4 3 (by simp [Inn.cs, Fv.v, Iv.v]))
    go_wp2_with (first | (refine wpList_load_row rfl 35 (.tmp 8) (by rfl) y (by rfl) 35 (grI (⟨i.subs.l, Aa, Ac⟩ : Iv) (⟨i.subs.l, Ga, Gc⟩ : Iv) (i.times + 1)).toArray (0, 0) _ (by exact X.out) Tryz.underlying35 (by rfl) (by kernel_rfl) ?_) | (refine wpList_store_hid (by rfl) 35 (.tmp 41) (.tmp 40) (by rfl) w.heap.size 4 (grI (⟨i.subs.l, Aa, Ac⟩ : Iv) (⟨i.subs.l, Ga, Gc⟩ : Iv) (i.times + 1)) (by rfl) (by rfl) (by exact Tw12'.out) (by kernel_rfl) (by simp [Value.oneCell', grI, Iv.v]) ?_))
    intro w12' ew12'
    replace R := hide (show w12'.heap[w.heap.size + 1]? = some (.cells Inn.zero.cs.toArray 47 (0, 0)) by rw [ew12'.out]; exact other_heap (by omega) _ _ _ R.out)
    replace X := hide (show w12'.heap[y]? = some (.cells (grI (⟨i.subs.l, Aa, Ac⟩ : Iv) (⟨i.subs.l, Ga, Gc⟩ : Iv) (i.times + 1)).toArray 35 (0, 0)) by rw [ew12'.out]; exact other_heap (by omega) _ _ _ X.out)
    replace RA := hide (show Rd w12' w12'.heap.size Aa 1 (inRow i.subs.l) by rw [ew12'.out]; exact off_set RA.out O_RA_B.out _ _)
    replace RG := hide (show Rd w12' w12'.heap.size Ga 1 (inRow i.subs.l) by rw [ew12'.out]; exact off_set RG.out O_RG_B.out _ _)
    replace Q := hide (show Below w.heap.size w w12' by rw [ew12'.out]; exact Q.out.trans (below_setCells _ _ _ (by have := Q.out.size; omega)))
    replace B := hide (show w12'.heap[w.heap.size]? = some (.cells (({ i with w := tk, S := ⟨i.subs.l, Aa, Ac⟩, G := ⟨i.subs.l, Ga, Gc⟩, times := i.times + 1 } : Inn).cs).toArray 47 (0, 0)) by rw [ew12'.out]; exact set_heap (grI (⟨i.subs.l, Aa, Ac⟩ : Iv) (⟨i.subs.l, Ga, Gc⟩ : Iv) (i.times + 1)) (({ i with w := tk } : Inn).cs) 4 _ B.out)
    clear ew12' Tw12'
    clear X O_RA_X O_RG_X
    have Tw13' := hide (show World.there _ (w.heap.size + 1) 0 13 from there_heap (cs := Inn.zero.cs) R.out)
    go_wp2_with (first | (refine wpList_load_row rfl 47 (.tmp 1) (by rfl) w.heap.size (by rfl) 47 (({ i with w := tk, S := ⟨i.subs.l, Aa, Ac⟩, G := ⟨i.subs.l, Ga, Gc⟩, times := i.times + 1 } : Inn).cs).toArray (0, 0) _ (by exact B.out) Tryz.underlying47 (by rfl) (by kernel_rfl) ?_) | (refine wpList_store_hid (by rfl) 47 (.tmp 2) (.tmp 42) (by rfl) (w.heap.size + 1) 0 (({ i with w := tk, S := ⟨i.subs.l, Aa, Ac⟩, G := ⟨i.subs.l, Ga, Gc⟩, times := i.times + 1 } : Inn).cs) (by rfl) (by rfl) (by exact Tw13'.out) (by kernel_rfl) (by simp [Value.oneCell', Inn.cs, Fv.v, Iv.v]) ?_))
    intro w13' ew13'
    replace B := hide (show w13'.heap[w.heap.size]? = some (.cells (({ i with w := tk, S := ⟨i.subs.l, Aa, Ac⟩, G := ⟨i.subs.l, Ga, Gc⟩, times := i.times + 1 } : Inn).cs).toArray 47 (0, 0)) by rw [ew13'.out]; exact other_heap (by omega) _ _ _ B.out)
    replace RA := hide (show Rd w13' w13'.heap.size Aa 1 (inRow i.subs.l) by rw [ew13'.out]; exact off_set RA.out O_RA_R.out _ _)
    replace RG := hide (show Rd w13' w13'.heap.size Ga 1 (inRow i.subs.l) by rw [ew13'.out]; exact off_set RG.out O_RG_R.out _ _)
    replace Q := hide (show Below w.heap.size w w13' by rw [ew13'.out]; exact Q.out.trans (below_setCells _ _ _ (by have := Q.out.size; omega)))
    replace R := hide (show w13'.heap[w.heap.size + 1]? = some (.cells (({ i with w := tk, S := ⟨i.subs.l, Aa, Ac⟩, G := ⟨i.subs.l, Ga, Gc⟩, times := i.times + 1 } : Inn).cs).toArray 47 (0, 0)) by rw [ew13'.out]; exact whole_heap (({ i with w := tk, S := ⟨i.subs.l, Aa, Ac⟩, G := ⟨i.subs.l, Ga, Gc⟩, times := i.times + 1 } : Inn).cs) (xs := Inn.zero.cs) R.out rfl)
    clear ew13' Tw13'
    go_wp2_with fail
    have ok := HO.out.next Q.out
    refine bodyPost_ret (results_cell_tmp2 (by rfl) _ w13' (w.heap.size + 1) 47 (({ i with w := tk, S := ⟨i.subs.l, Aa, Ac⟩, G := ⟨i.subs.l, Ga, Gc⟩, times := i.times + 1 } : Inn).cs).toArray (0, 0) _ (.bool true) (.int .i64 0) (by rfl) (by rfl) (by rfl) R.out Tryz.underlying47 (by rfl) (by kernel_rfl)) rfl (⟨({ i with w := tk, S := ⟨i.subs.l, Aa, Ac⟩, G := ⟨i.subs.l, Ga, Gc⟩, times := i.times + 1 } : Inn), rfl, ⟨ok.ly, ok.fl, NewIv.ok ⟨rfl, RA.out, FRA.out⟩ ok.subs.m ok.subs.n, NewIv.ok ⟨rfl, RG.out, FRG.out⟩ ok.subs.m ok.subs.n, ok.subs⟩, ⟨rfl, rfl, rfl, HK.out, .inr ⟨rfl, rfl, rfl, Fresh.mono FRA.out (by omega), Fresh.mono FRG.out (by omega), HB.out.symm⟩⟩, Q.out⟩)
end Go.Proofs.YtnhegnneohpkaaaGreat
