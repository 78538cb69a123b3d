import Derived.Test.YtkmddjbialpppaaGreatDoorNdD
import Derived.Test.YtkmddjbialpppaaGreatDoorMgSmA
import Derived.Test.YtkmddjbialpppaaGreatDoorMgCsD
namespace Go.Proofs.YtkmddjbialpppaaGreatDoor
open Go.ChangeShapes Go.WideShapes Go.ChangeAt Go.RowKit
open CM PD SG ND
namespace ND
structure Nd.Rt (n : Nd) : Prop where
  cf : cF n.cf = true
  shape : n.shape = true
  now : 0 ≤ n.now ∧ n.now ≤ 1099511627776
  outs : ∀ i (hi : i < n.os.length), n.os[i].right = true ∧ ∀ p, n.cf.l[n.sends.getD i 0]? = some p → p.ly.L = n.os[i].ly.L
  ins : ∀ i (hi : i < n.is.length), n.is[i].right = true ∧ (∀ p, n.cf.l[n.hears.getD i 0]? = some p → p.ly.L = n.is[i].ly.L) ∧ n.is[i].w.on = n.up
  ctl : n.ctl.Ok
  tv : tvB n.tv = true
  pn : n.pn.Rt
  nm : nmB n.nm = true
  sm : smB n.sm = true
  m : n.nm.rep = n.cf.rep ∧ n.nm.cyc = n.cf.cycle ∧ n.nm.hrd = n.cf.heard ∧ n.nm.wt = n.cf.wait
  s : n.sm.fast = 5 ∧ n.sm.many = 3 ∧ n.sm.slow = 20
  e1 : n.sm.wants = n.up
  e2 : (n.tv.mode == 1) = n.up
  e3 : n.fi.on = (n.sm.st == 1)
  e4 : n.nm.wants = (n.pn.own != 0)
end ND
theorem wh_at {l : List Pd} {pB : Pd → Bool} {i : Nat} (hi : i < (cY l pB l.length).length) : (cY l pB l.length)[i] < l.length := whP_lt l pB l.length _ (List.getElem_mem hi)
theorem wh_eq {l : List Pd} {S : List Nat} {i : Nat} (hi : i < S.length) (hk : S[i] < l.length) : l[S.getD i 0]? = some l[S[i]] := by
  rw [List.getD_eq_getElem?_getD, List.getElem?_eq_getElem hi, Option.getD_some, List.getElem?_eq_getElem hk]
set_option maxRecDepth 100000 in
set_option maxHeartbeats 16000000 in
theorem ndRight_no (n : Nd) (w : World) (ho : n.Okw w) (h : n.shape = false) :
    Calls Tryz.prog 10 #[.agg n.cs.toArray] w fun e w' => e = .returned (.bool false) ∧ Below w.heap.size w w' := by
  obtain ⟨w0, hw0⟩ : ∃ w0, w0 = w.alloc (.cells n.cs.toArray 53) := ⟨_, rfl⟩
  have B := aA (World.alloc_heap_new w (.cells n.cs.toArray 53))
  have Q : Hid (Below w.heap.size w w0) := by rw [hw0]; exact aA ((Below.refl w.heap.size w).alloc (Nat.le_refl _) (.cells n.cs.toArray 53))
  rw [← hw0] at B
  have SH := aA (fun W (q : Below w.heap.size w W) => show Calls Tryz.prog 34 #[.agg n.cs.toArray] W fun e w' => e = .returned (.bool false) ∧ Below W.heap.size W w' from by
    have k := gK n W (ho.next q)
    rwa [h] at k)
  clear h ho
  go_enter Tryz.func10, Tryz.ntmps10
  go_upto_region 1 with fail
  change Code.wp _ _ _ _ (w.alloc (.cells n.cs.toArray 53))
  rw [← hw0]
  clear hw0
  have C := World.alloc_heap_new w0 (.cells zCf.cs.toArray 25)
  have zBy : w.heap.size < w0.heap.size := aH B.out
  have zQy : w.heap.size ≤ w0.heap.size := Q.out.size
  obtain ⟨w2', hw2'⟩ : ∃ wx, wx = w0.alloc (.cells zCf.cs.toArray 25) := ⟨_, rfl⟩
  have q1' := aA (show Below w0.heap.size w0 w2' by rw [hw2']; exact (Below.refl _ _).alloc (Nat.le_refl _) _)
  rw [← hw2'] at C
  replace C := aA C
  have Tw3' := aA (show (w0.alloc (.cells zCf.cs.toArray 25)).there w0.heap.size 0 8 by rw [← hw2']; exact aK (cs := zCf.cs) C.out)
  go_wp2_with (first | (refine wpList_load_mid rfl 25 (.tmp 8) (by rfl) w.heap.size 0 (by rfl) (n.cf.cs) _ (by exact aL B.out 0 rfl) Tryz.underlying25 (by rfl) (by kernel_rfl) ?_) | (refine aF (by rfl) 25 (.tmp 3) (.tmp 9) (by rfl) w0.heap.size 0 n.cf.cs (by rfl) (by rfl) (by exact Tw3'.out) (by kernel_rfl) (by simp [Value.oneCell', Cf.cs]) ?_))
  intro w3' ew3'
  replace ew3' : Hid (w3' = w2'.setCells w0.heap.size 0 n.cf.cs) := by rw [hw2']; exact ew3'
  replace C := aA (show w3'.heap[w0.heap.size]? = some (.cells n.cf.cs.toArray 25 (0, 0)) by rw [ew3'.out]; exact aJ n.cf.cs (xs := zCf.cs) C.out rfl)
  replace q1' := aA (show Below w0.heap.size w0 w3' by rw [ew3'.out]; exact q1'.out.trans (aE _ _ _ (by omega)))
  clear ew3' Tw3' hw2'
  replace B := aA (aB B.out q1'.out)
  replace Q := aA (aC Q.out Q.out.size q1'.out)
  clear q1'
  generalize w0.heap.size = y at *
  go_wp2_with (refine wpList_load_row rfl 53 (.tmp 1) (by rfl) w.heap.size (by rfl) 53 n.cs.toArray (0, 0) _ (by exact B.out) Tryz.underlying53 (by rfl) (by kernel_rfl) ?_)
  (with_reducible refine (SH.out w3' Q.out).mono ?_)
  rintro ew4' w4' ⟨rfl, qw4'⟩
  replace B := aA (aB B.out qw4')
  replace C := aA (aB C.out qw4')
  replace Q := aA (aC Q.out Q.out.size qw4')
  clear qw4'
  clear SH
  go_wp2_with fail
  go_ret
  exact ⟨rfl, Q.out⟩
set_option maxRecDepth 100000 in
set_option maxHeartbeats 64000000 in
theorem j0 (n : Nd) (w : World) (ho : n.Ok w) (h : n.Rt) :
    Calls Tryz.prog 10 #[.agg n.cs.toArray] w fun e w' => e = .returned (.bool true) ∧ Below w.heap.size w w' := by
  obtain ⟨w0, hw0⟩ : ∃ w0, w0 = w.alloc (.cells n.cs.toArray 53) := ⟨_, rfl⟩
  have B := aA (World.alloc_heap_new w (.cells n.cs.toArray 53))
  have Q : Hid (Below w.heap.size w w0) := by rw [hw0]; exact aA ((Below.refl w.heap.size w).alloc (Nat.le_refl _) (.cells n.cs.toArray 53))
  rw [← hw0] at B
  have SH := aA (fun W (q : Below w.heap.size w W) => show Calls Tryz.prog 34 #[.agg n.cs.toArray] W fun e w' => e = .returned (.bool true) ∧ Below W.heap.size W w' from by
    have k := gK n W (ho.next q)
    rwa [h.shape] at k)
  have CR := aA (fun W (q : Below w.heap.size w W) => show Calls Tryz.prog 7 #[.agg n.cf.cs.toArray] W fun e w' => e = .returned (.bool true) ∧ Below W.heap.size W w' from by
    have k := cD n.cf W (ho.next q).cf
    rwa [h.cf] at k)
  have hsh := Nd.shape_iff.1 h.shape
  have SE := aA (fun W (q : Below w.heap.size w W) => show Calls Tryz.prog 35 #[.agg n.cs.toArray] W fun e w' => ∃ A cc, e = .returned (.slice A n.sends.length cc) ∧ Rd w' w'.heap.size A 1 (aX n.sends) ∧ Fresh W.heap.size A ∧ Below W.heap.size W w' from (ndSends_any n W (ho.next q)).mono fun _ _ ⟨⟨A, cc, a, b, c⟩, d⟩ => ⟨A, cc, a, b, c, d⟩)
  have HE := aA (fun W (q : Below w.heap.size w W) => show Calls Tryz.prog 36 #[.agg n.cs.toArray] W fun e w' => ∃ A cc, e = .returned (.slice A n.hears.length cc) ∧ Rd w' w'.heap.size A 1 (aX n.hears) ∧ Fresh W.heap.size A ∧ Below W.heap.size W w' from (ndHears_any n W (ho.next q) (by have := hsh.1; omega)).mono fun _ _ ⟨⟨A, cc, a, b, c⟩, d⟩ => ⟨A, cc, a, b, c, d⟩)
  have HO := aA ho
  have HH := aA h
  obtain ⟨hn1, hn2⟩ := h.now
  have UP := aA (fun W => eR n W)
  have AO := aA (fun (y x : Nat) (A : Option Addr) (cc : Nat) (W : World) (q : Below w.heap.size w W) (hC : W.heap[y]? = some (.cells n.cf.cs.toArray 25 (0, 0))) (hX : W.heap[x]? = some (.cells #[.slice A n.sends.length cc] 61 (0, 0))) (hR : Rd W W.heap.size A 1 (aX n.sends)) =>
    ndAll_Out 38 y x (fun _ _ => rfl) n.os n.oA n.oc W (ho.next q).outs (by have := ho.no; omega) (aA fun i hi w' q' =>
      have hs : i < n.sends.length := by have := hsh.2.1; omega
      ndRight1_ok n.os[i] n.cf y x A cc n.sends i w' (((ho.next q).next q').o _ (List.getElem_mem hi)) (h.outs i hi).1 ((ho.next q).next q').cf (aB hC q') (aB hX q') (Rd.next hR q' q'.size) hs (wh_at hs) ((h.outs i hi).2 _ (wh_eq hs (wh_at hs)))))
  have AI := aA (fun (y x b : Nat) (A : Option Addr) (cc : Nat) (W : World) (q : Below w.heap.size w W) (hC : W.heap[y]? = some (.cells n.cf.cs.toArray 25 (0, 0))) (hX : W.heap[x]? = some (.cells #[.slice A n.hears.length cc] 61 (0, 0))) (hB : W.heap[b]? = some (.cells n.cs.toArray 53 (0, 0))) (hR : Rd W W.heap.size A 1 (aX n.hears)) =>
    ndAll_In 41 y x b (fun _ _ => rfl) n.is n.iA n.ic W (ho.next q).ins (by have := ho.ni; omega) (aA fun i hi w' q' =>
      have hs : i < n.hears.length := by have := hsh.2.2; omega
      ndRight2_ok n.is[i] n.cf y x A cc n.hears i w' (((ho.next q).next q').i _ (List.getElem_mem hi)) (h.ins i hi).1 ((ho.next q).next q').cf (aB hC q') (aB hX q') (Rd.next hR q' q'.size) hs (wh_at hs) ((h.ins i hi).2.1 _ (wh_eq hs (wh_at hs))) n b (aB hB q') (h.ins i hi).2.2))
  clear h ho hsh
  go_enter Tryz.func10, Tryz.ntmps10
  go_upto_region 1 with fail
  change Code.wp _ _ _ _ (w.alloc (.cells n.cs.toArray 53))
  rw [← hw0]
  clear hw0
  have C := World.alloc_heap_new w0 (.cells zCf.cs.toArray 25)
  have zBy : w.heap.size < w0.heap.size := aH B.out
  have zQy : w.heap.size ≤ w0.heap.size := Q.out.size
  obtain ⟨w2', hw2'⟩ : ∃ wx, wx = w0.alloc (.cells zCf.cs.toArray 25) := ⟨_, rfl⟩
  have q1' := aA (show Below w0.heap.size w0 w2' by rw [hw2']; exact (Below.refl _ _).alloc (Nat.le_refl _) _)
  rw [← hw2'] at C
  replace C := aA C
  have Tw3' := aA (show (w0.alloc (.cells zCf.cs.toArray 25)).there w0.heap.size 0 8 by rw [← hw2']; exact aK (cs := zCf.cs) C.out)
  go_wp2_with (first | (refine wpList_load_mid rfl 25 (.tmp 8) (by rfl) w.heap.size 0 (by rfl) (n.cf.cs) _ (by exact aL B.out 0 rfl) Tryz.underlying25 (by rfl) (by kernel_rfl) ?_) | (refine aF (by rfl) 25 (.tmp 3) (.tmp 9) (by rfl) w0.heap.size 0 n.cf.cs (by rfl) (by rfl) (by exact Tw3'.out) (by kernel_rfl) (by simp [Value.oneCell', Cf.cs]) ?_))
  intro w3' ew3'
  replace ew3' : Hid (w3' = w2'.setCells w0.heap.size 0 n.cf.cs) := by rw [hw2']; exact ew3'
  replace C := aA (show w3'.heap[w0.heap.size]? = some (.cells n.cf.cs.toArray 25 (0, 0)) by rw [ew3'.out]; exact aJ n.cf.cs (xs := zCf.cs) C.out rfl)
  replace q1' := aA (show Below w0.heap.size w0 w3' by rw [ew3'.out]; exact q1'.out.trans (aE _ _ _ (by omega)))
  clear ew3' Tw3' hw2'
  replace B := aA (aB B.out q1'.out)
  replace Q := aA (aC Q.out Q.out.size q1'.out)
  clear q1'
  generalize w0.heap.size = y at *
  go_wp2_with (refine wpList_load_row rfl 53 (.tmp 1) (by rfl) w.heap.size (by rfl) 53 n.cs.toArray (0, 0) _ (by exact B.out) Tryz.underlying53 (by rfl) (by kernel_rfl) ?_)
  (with_reducible refine (SH.out w3' Q.out).mono ?_)
  rintro ew4' w4' ⟨rfl, qw4'⟩
  replace B := aA (aB B.out qw4')
  replace C := aA (aB C.out qw4')
  replace Q := aA (aC Q.out Q.out.size qw4')
  clear qw4'
  clear SH
  go_wp2_with (refine bU (by kernel_rfl) 25 (.tmp 3) (by rfl) y (by rfl) 25 n.cf.cs.toArray (0, 0) _ (by exact C.out) Tryz.underlying25 (by rfl) (by kernel_rfl) ?_)
  (with_reducible refine (CR.out w4' Q.out).mono ?_)
  rintro ew5' w5' ⟨rfl, qw5'⟩
  replace B := aA (aB B.out qw5')
  replace C := aA (aB C.out qw5')
  replace Q := aA (aC Q.out Q.out.size qw5')
  clear qw5'
  clear CR
  have c90 := aZ B.out 90 (v := .int .i64 n.now) rfl
  go_upto_region 4 with fail
  clear c90 hn1 hn2
  go_cut [4, 5] (fun v4 v5 W => ∃ x4 x5 A1 c1 A2 c2, v4 = .pointer (some ⟨x4, 0, none⟩) ∧ v5 = .pointer (some ⟨x5, 0, none⟩) ∧ Hid (W.heap[x4]? = some (.cells #[.slice A1 n.sends.length c1] 61 (0, 0))) ∧ Hid (W.heap[x5]? = some (.cells #[.slice A2 n.hears.length c2] 61 (0, 0))) ∧ Hid (Rd W W.heap.size A1 1 (aX n.sends)) ∧ Hid (Rd W W.heap.size A2 1 (aX n.hears)) ∧ Hid (W.heap[w.heap.size]? = some (.cells n.cs.toArray 53 (0, 0))) ∧ Hid (W.heap[y]? = some (.cells n.cf.cs.toArray 25 (0, 0))) ∧ Hid (Below w.heap.size w W))
  case first =>
    refine bB [0, 2] [(0, fun W => W.rangeAt w.heap.size 0 n.cs), (2, fun W => W.rangeAt w.heap.size 0 n.cs)] (by kernel_rfl) ?_
    replace B := aA (show w5'.drew.heap[w.heap.size]? = some (.cells n.cs.toArray 53 (0, 0)) from B.out)
    replace C := aA (show w5'.drew.heap[y]? = some (.cells n.cf.cs.toArray 25 (0, 0)) from C.out)
    replace Q := aA (show Below w.heap.size w w5'.drew from Q.out.drew)
    generalize w5'.drew = w6' at *
    refine aQ (i := 0) (v := .agg n.cs.toArray) rfl rfl (by kernel_rfl) (by kernel_rfl) (by kernel_rfl) (by kernel_rfl) (by kernel_rfl) (fun _ _ _ h => h) rfl (fun W h => bQ W w.heap.size 0 53 n.cs _ h Tryz.underlying53 rfl (by kernel_rfl) _ _ (.tmp 1) (by rfl) (by rfl)) (aL B.out 0 rfl) ?_
    go_simp
    refine aQ (i := 2) (v := .agg n.cs.toArray) rfl rfl (by kernel_rfl) (by kernel_rfl) (by kernel_rfl) (by kernel_rfl) (by kernel_rfl) (fun _ _ _ h => h) rfl (fun W h => bQ W w.heap.size 0 53 n.cs _ h Tryz.underlying53 rfl (by kernel_rfl) _ _ (.tmp 1) (by rfl) (by rfl)) (aL B.out 0 rfl) ?_
    go_simp
    refine wpAnyL_three (i := 1) (k := 4) (m := 5) (by kernel_rfl) ?_ ?_ ?_
    · refine aM rfl rfl ?_
      go_simp
      (with_reducible refine (SE.out w6' Q.out).mono ?_)
      rintro ew7' w7' ⟨A1, c1, rfl, RA, FRA, qw7'⟩
      have O_RA_B := aA (show dZ A1 (aX n.sends).length w.heap.size from aW FRA (aH B.out))
      have O_RA_C := aA (show dZ A1 (aX n.sends).length y from aW FRA (aH C.out))
      replace B := aA (aB B.out qw7')
      replace C := aA (aB C.out qw7')
      replace Q := aA (aC Q.out Q.out.size qw7')
      clear qw7'
      replace RA := aA (show Rd w7' w7'.heap.size A1 1 (aX n.sends) from RA)
      replace FRA := aA FRA
      go_simp
      refine ⟨aO (by kernel_rfl) (.cons (aL B.out 0 rfl) (.cons (aL B.out 0 rfl) .nil)), ?_⟩
      go_simp
      refine wpAnyL_three (i := 3) (k := 4) (m := 5) (by kernel_rfl) ?_ ?_ ?_
      · refine aM rfl rfl ?_
        go_simp
        (with_reducible refine (HE.out w7' Q.out).mono ?_)
        rintro ew8' w8' ⟨A2, c2, rfl, RB, FRB, qw8'⟩
        have O_RB_B := aA (show dZ A2 (aX n.hears).length w.heap.size from aW FRB (aH B.out))
        have O_RB_C := aA (show dZ A2 (aX n.hears).length y from aW FRB (aH C.out))
        replace B := aA (aB B.out qw8')
        replace C := aA (aB C.out qw8')
        replace RA := aA (Rd.next RA.out qw8' qw8'.size)
        replace Q := aA (aC Q.out Q.out.size qw8')
        clear qw8'
        replace RB := aA (show Rd w8' w8'.heap.size A2 1 (aX n.hears) from RB)
        replace FRB := aA FRB
        go_simp
        refine ⟨aO (by kernel_rfl) (.cons (aL B.out 0 rfl) (.cons (aL B.out 0 rfl) .nil)), ?_⟩
        go_simp
        refine cB (i := 4) (k := 5) (by kernel_rfl) ?_ ?_
        · refine aM rfl rfl ?_
          go_simp
          have X4 := aA (World.alloc_heap_new w8' (.cells (([.slice none 0 0] : List Value)).toArray 61))
          have zBx4 : w.heap.size < w8'.heap.size := aH B.out
          have zCx4 : y < w8'.heap.size := aH C.out
          have O_RA_X4 := aA (cG (x := w8'.heap.size) RA.out (by omega))
          have O_RB_X4 := aA (cG (x := w8'.heap.size) RB.out (by omega))
          have zQx4 : w.heap.size ≤ w8'.heap.size := Q.out.size
          have q10' : Below w8'.heap.size w8' (w8'.alloc (.cells (([.slice none 0 0] : List Value)).toArray 61)) := (Below.refl _ _).alloc (Nat.le_refl _) _
          replace B := aA (aB B.out q10')
          replace C := aA (aB C.out q10')
          replace RA := aA (Rd.next RA.out q10' q10'.size)
          replace RB := aA (Rd.next RB.out q10' q10'.size)
          replace Q := aA (aC Q.out Q.out.size q10')
          clear q10'
          refine ⟨aO (by kernel_rfl) (.cons (aL B.out 0 rfl) (.cons (aL B.out 0 rfl) .nil)), ?_⟩
          change bN _ _ _ _ _ _ _ _ _ (w8'.alloc (.cells (([.slice none 0 0] : List Value)).toArray 61))
          generalize w8'.alloc (.cells (([.slice none 0 0] : List Value)).toArray 61) = w9' at *
          generalize w8'.heap.size = x4 at *
          go_simp
          refine aI (i := 5) (by kernel_rfl) ?_
          refine aM rfl rfl ?_
          go_simp
          have X5 := aA (World.alloc_heap_new w9' (.cells (([.slice none 0 0] : List Value)).toArray 61))
          have zBx5 : w.heap.size < w9'.heap.size := aH B.out
          have zCx5 : y < w9'.heap.size := aH C.out
          have zX4x5 : x4 < w9'.heap.size := aH X4.out
          have O_RA_X5 := aA (cG (x := w9'.heap.size) RA.out (by omega))
          have O_RB_X5 := aA (cG (x := w9'.heap.size) RB.out (by omega))
          have zQx5 : w.heap.size ≤ w9'.heap.size := Q.out.size
          have q12' : Below w9'.heap.size w9' (w9'.alloc (.cells (([.slice none 0 0] : List Value)).toArray 61)) := (Below.refl _ _).alloc (Nat.le_refl _) _
          replace B := aA (aB B.out q12')
          replace C := aA (aB C.out q12')
          replace X4 := aA (aB X4.out q12')
          replace RA := aA (Rd.next RA.out q12' q12'.size)
          replace RB := aA (Rd.next RB.out q12' q12'.size)
          replace Q := aA (aC Q.out Q.out.size q12')
          clear q12'
          refine ⟨aO (by kernel_rfl) (.cons (aL B.out 0 rfl) (.cons (aL B.out 0 rfl) .nil)), ?_⟩
          change bN _ _ _ _ _ _ _ _ _ (w9'.alloc (.cells (([.slice none 0 0] : List Value)).toArray 61))
          generalize w9'.alloc (.cells (([.slice none 0 0] : List Value)).toArray 61) = w11' at *
          generalize w9'.heap.size = x5 at *
          go_simp
          refine aI (i := 6) (by kernel_rfl) ?_
          refine aM rfl rfl ?_
          have ⟨z0, z1⟩ := bE X4.out
          go_simp
          clear z0 z1
          refine ⟨aN (by kernel_rfl) (by kernel_rfl), ?_⟩
          go_simp
          obtain ⟨w13', ew13'⟩ : ∃ wq, wq = w11'.setCell ⟨x4, 0, none⟩ (.slice A1 n.sends.length c1) := ⟨_, rfl⟩
          rw [← ew13']
          replace B := aA (show w13'.heap[w.heap.size]? = some (.cells n.cs.toArray 53 (0, 0)) by rw [ew13']; exact aG (by omega) ([.slice A1 n.sends.length c1]) 0 _ B.out)
          replace C := aA (show w13'.heap[y]? = some (.cells n.cf.cs.toArray 25 (0, 0)) by rw [ew13']; exact aG (by omega) ([.slice A1 n.sends.length c1]) 0 _ C.out)
          replace X5 := aA (show w13'.heap[x5]? = some (.cells (([.slice none 0 0] : List Value)).toArray 61 (0, 0)) by rw [ew13']; exact aG (by omega) ([.slice A1 n.sends.length c1]) 0 _ X5.out)
          replace RA := aA (show Rd w13' w13'.heap.size A1 1 (aX n.sends) by rw [ew13']; exact bJ RA.out O_RA_X4.out ([.slice A1 n.sends.length c1]) 0)
          replace RB := aA (show Rd w13' w13'.heap.size A2 1 (aX n.hears) by rw [ew13']; exact bJ RB.out O_RB_X4.out ([.slice A1 n.sends.length c1]) 0)
          replace Q := aA (show Below w.heap.size w w13' by rw [ew13']; exact Q.out.trans (aE ([.slice A1 n.sends.length c1]) 0 _ (by omega)))
          replace X4 := aA (show w13'.heap[x4]? = some (.cells (([.slice A1 n.sends.length c1] : List Value)).toArray 61 (0, 0)) by rw [ew13']; exact aU ([.slice A1 n.sends.length c1]) (([.slice none 0 0] : List Value)) 0 _ X4.out)
          clear ew13'
          refine aI (i := 7) (by kernel_rfl) ?_
          refine aM rfl rfl ?_
          have ⟨z0, z1⟩ := bE X5.out
          go_simp
          clear z0 z1
          refine ⟨aN (by kernel_rfl) (by kernel_rfl), ?_⟩
          go_simp
          obtain ⟨w14', ew14'⟩ : ∃ wq, wq = w13'.setCell ⟨x5, 0, none⟩ (.slice A2 n.hears.length c2) := ⟨_, rfl⟩
          rw [← ew14']
          replace B := aA (show w14'.heap[w.heap.size]? = some (.cells n.cs.toArray 53 (0, 0)) by rw [ew14']; exact aG (by omega) ([.slice A2 n.hears.length c2]) 0 _ B.out)
          replace C := aA (show w14'.heap[y]? = some (.cells n.cf.cs.toArray 25 (0, 0)) by rw [ew14']; exact aG (by omega) ([.slice A2 n.hears.length c2]) 0 _ C.out)
          replace X4 := aA (show w14'.heap[x4]? = some (.cells (([.slice A1 n.sends.length c1] : List Value)).toArray 61 (0, 0)) by rw [ew14']; exact aG (by omega) ([.slice A2 n.hears.length c2]) 0 _ X4.out)
          replace RA := aA (show Rd w14' w14'.heap.size A1 1 (aX n.sends) by rw [ew14']; exact bJ RA.out O_RA_X5.out ([.slice A2 n.hears.length c2]) 0)
          replace RB := aA (show Rd w14' w14'.heap.size A2 1 (aX n.hears) by rw [ew14']; exact bJ RB.out O_RB_X5.out ([.slice A2 n.hears.length c2]) 0)
          replace Q := aA (show Below w.heap.size w w14' by rw [ew14']; exact Q.out.trans (aE ([.slice A2 n.hears.length c2]) 0 _ (by omega)))
          replace X5 := aA (show w14'.heap[x5]? = some (.cells (([.slice A2 n.hears.length c2] : List Value)).toArray 61 (0, 0)) by rw [ew14']; exact aU ([.slice A2 n.hears.length c2]) (([.slice none 0 0] : List Value)) 0 _ X5.out)
          clear ew14'
          refine aS (by kernel_rfl) ?_ _
          go_wp2_with fail
          go_meet
          exact ⟨x4, x5, A1, c1, A2, c2, rfl, rfl, X4, X5, RA, RB, B, C, Q⟩
        · refine aM rfl rfl ?_
          go_simp
          have X5 := aA (World.alloc_heap_new w8' (.cells (([.slice none 0 0] : List Value)).toArray 61))
          have zBx5 : w.heap.size < w8'.heap.size := aH B.out
          have zCx5 : y < w8'.heap.size := aH C.out
          have O_RA_X5 := aA (cG (x := w8'.heap.size) RA.out (by omega))
          have O_RB_X5 := aA (cG (x := w8'.heap.size) RB.out (by omega))
          have zQx5 : w.heap.size ≤ w8'.heap.size := Q.out.size
          have q16' : Below w8'.heap.size w8' (w8'.alloc (.cells (([.slice none 0 0] : List Value)).toArray 61)) := (Below.refl _ _).alloc (Nat.le_refl _) _
          replace B := aA (aB B.out q16')
          replace C := aA (aB C.out q16')
          replace RA := aA (Rd.next RA.out q16' q16'.size)
          replace RB := aA (Rd.next RB.out q16' q16'.size)
          replace Q := aA (aC Q.out Q.out.size q16')
          clear q16'
          refine ⟨aO (by kernel_rfl) (.cons (aL B.out 0 rfl) (.cons (aL B.out 0 rfl) .nil)), ?_⟩
          change bN _ _ _ _ _ _ _ _ _ (w8'.alloc (.cells (([.slice none 0 0] : List Value)).toArray 61))
          generalize w8'.alloc (.cells (([.slice none 0 0] : List Value)).toArray 61) = w15' at *
          generalize w8'.heap.size = x5 at *
          go_simp
          refine aI (i := 4) (by kernel_rfl) ?_
          refine aM rfl rfl ?_
          go_simp
          have X4 := aA (World.alloc_heap_new w15' (.cells (([.slice none 0 0] : List Value)).toArray 61))
          have zBx4 : w.heap.size < w15'.heap.size := aH B.out
          have zCx4 : y < w15'.heap.size := aH C.out
          have zX5x4 : x5 < w15'.heap.size := aH X5.out
          have O_RA_X4 := aA (cG (x := w15'.heap.size) RA.out (by omega))
          have O_RB_X4 := aA (cG (x := w15'.heap.size) RB.out (by omega))
          have zQx4 : w.heap.size ≤ w15'.heap.size := Q.out.size
          have q18' : Below w15'.heap.size w15' (w15'.alloc (.cells (([.slice none 0 0] : List Value)).toArray 61)) := (Below.refl _ _).alloc (Nat.le_refl _) _
          replace B := aA (aB B.out q18')
          replace C := aA (aB C.out q18')
          replace X5 := aA (aB X5.out q18')
          replace RA := aA (Rd.next RA.out q18' q18'.size)
          replace RB := aA (Rd.next RB.out q18' q18'.size)
          replace Q := aA (aC Q.out Q.out.size q18')
          clear q18'
          refine ⟨aO (by kernel_rfl) (.cons (aL B.out 0 rfl) (.cons (aL B.out 0 rfl) .nil)), ?_⟩
          change bN _ _ _ _ _ _ _ _ _ (w15'.alloc (.cells (([.slice none 0 0] : List Value)).toArray 61))
          generalize w15'.alloc (.cells (([.slice none 0 0] : List Value)).toArray 61) = w17' at *
          generalize w15'.heap.size = x4 at *
          go_simp
          refine aI (i := 6) (by kernel_rfl) ?_
          refine aM rfl rfl ?_
          have ⟨z0, z1⟩ := bE X4.out
          go_simp
          clear z0 z1
          refine ⟨aN (by kernel_rfl) (by kernel_rfl), ?_⟩
          go_simp
          obtain ⟨w19', ew19'⟩ : ∃ wq, wq = w17'.setCell ⟨x4, 0, none⟩ (.slice A1 n.sends.length c1) := ⟨_, rfl⟩
          rw [← ew19']
          replace B := aA (show w19'.heap[w.heap.size]? = some (.cells n.cs.toArray 53 (0, 0)) by rw [ew19']; exact aG (by omega) ([.slice A1 n.sends.length c1]) 0 _ B.out)
          replace C := aA (show w19'.heap[y]? = some (.cells n.cf.cs.toArray 25 (0, 0)) by rw [ew19']; exact aG (by omega) ([.slice A1 n.sends.length c1]) 0 _ C.out)
          replace X5 := aA (show w19'.heap[x5]? = some (.cells (([.slice none 0 0] : List Value)).toArray 61 (0, 0)) by rw [ew19']; exact aG (by omega) ([.slice A1 n.sends.length c1]) 0 _ X5.out)
          replace RA := aA (show Rd w19' w19'.heap.size A1 1 (aX n.sends) by rw [ew19']; exact bJ RA.out O_RA_X4.out ([.slice A1 n.sends.length c1]) 0)
          replace RB := aA (show Rd w19' w19'.heap.size A2 1 (aX n.hears) by rw [ew19']; exact bJ RB.out O_RB_X4.out ([.slice A1 n.sends.length c1]) 0)
          replace Q := aA (show Below w.heap.size w w19' by rw [ew19']; exact Q.out.trans (aE ([.slice A1 n.sends.length c1]) 0 _ (by omega)))
          replace X4 := aA (show w19'.heap[x4]? = some (.cells (([.slice A1 n.sends.length c1] : List Value)).toArray 61 (0, 0)) by rw [ew19']; exact aU ([.slice A1 n.sends.length c1]) (([.slice none 0 0] : List Value)) 0 _ X4.out)
          clear ew19'
          refine aI (i := 7) (by kernel_rfl) ?_
          refine aM rfl rfl ?_
          have ⟨z0, z1⟩ := bE X5.out
          go_simp
          clear z0 z1
          refine ⟨aN (by kernel_rfl) (by kernel_rfl), ?_⟩
          go_simp
          obtain ⟨w20', ew20'⟩ : ∃ wq, wq = w19'.setCell ⟨x5, 0, none⟩ (.slice A2 n.hears.length c2) := ⟨_, rfl⟩
          rw [← ew20']
          replace B := aA (show w20'.heap[w.heap.size]? = some (.cells n.cs.toArray 53 (0, 0)) by rw [ew20']; exact aG (by omega) ([.slice A2 n.hears.length c2]) 0 _ B.out)
          replace C := aA (show w20'.heap[y]? = some (.cells n.cf.cs.toArray 25 (0, 0)) by rw [ew20']; exact aG (by omega) ([.slice A2 n.hears.length c2]) 0 _ C.out)
          replace X4 := aA (show w20'.heap[x4]? = some (.cells (([.slice A1 n.sends.length c1] : List Value)).toArray 61 (0, 0)) by rw [ew20']; exact aG (by omega) ([.slice A2 n.hears.length c2]) 0 _ X4.out)
          replace RA := aA (show Rd w20' w20'.heap.size A1 1 (aX n.sends) by rw [ew20']; exact bJ RA.out O_RA_X5.out ([.slice A2 n.hears.length c2]) 0)
          replace RB := aA (show Rd w20' w20'.heap.size A2 1 (aX n.hears) by rw [ew20']; exact bJ RB.out O_RB_X5.out ([.slice A2 n.hears.length c2]) 0)
          replace Q := aA (show Below w.heap.size w w20' by rw [ew20']; exact Q.out.trans (aE ([.slice A2 n.hears.length c2]) 0 _ (by omega)))
          replace X5 := aA (show w20'.heap[x5]? = some (.cells (([.slice A2 n.hears.length c2] : List Value)).toArray 61 (0, 0)) by rw [ew20']; exact aU ([.slice A2 n.hears.length c2]) (([.slice none 0 0] : List Value)) 0 _ X5.out)
          clear ew20'
          refine aS (by kernel_rfl) ?_ _
          go_wp2_with fail
          go_meet
          exact ⟨x4, x5, A1, c1, A2, c2, rfl, rfl, X4, X5, RA, RB, B, C, Q⟩
      · refine aM rfl rfl ?_
        go_simp
        have X4 := aA (World.alloc_heap_new w7' (.cells (([.slice none 0 0] : List Value)).toArray 61))
        have zBx4 : w.heap.size < w7'.heap.size := aH B.out
        have zCx4 : y < w7'.heap.size := aH C.out
        have O_RA_X4 := aA (cG (x := w7'.heap.size) RA.out (by omega))
        have zQx4 : w.heap.size ≤ w7'.heap.size := Q.out.size
        have q22' : Below w7'.heap.size w7' (w7'.alloc (.cells (([.slice none 0 0] : List Value)).toArray 61)) := (Below.refl _ _).alloc (Nat.le_refl _) _
        replace B := aA (aB B.out q22')
        replace C := aA (aB C.out q22')
        replace RA := aA (Rd.next RA.out q22' q22'.size)
        replace Q := aA (aC Q.out Q.out.size q22')
        clear q22'
        refine ⟨aO (by kernel_rfl) (.cons (aL B.out 0 rfl) (.cons (aL B.out 0 rfl) .nil)), ?_⟩
        change bN _ _ _ _ _ _ _ _ _ (w7'.alloc (.cells (([.slice none 0 0] : List Value)).toArray 61))
        generalize w7'.alloc (.cells (([.slice none 0 0] : List Value)).toArray 61) = w21' at *
        generalize w7'.heap.size = x4 at *
        go_simp
        refine cB (i := 3) (k := 5) (by kernel_rfl) ?_ ?_
        · refine aM rfl rfl ?_
          go_simp
          (with_reducible refine (HE.out w21' Q.out).mono ?_)
          rintro ew23' w23' ⟨A2, c2, rfl, RB, FRB, qw23'⟩
          have O_RB_B := aA (show dZ A2 (aX n.hears).length w.heap.size from aW FRB (aH B.out))
          have O_RB_C := aA (show dZ A2 (aX n.hears).length y from aW FRB (aH C.out))
          have O_RB_X4 := aA (show dZ A2 (aX n.hears).length x4 from aW FRB (aH X4.out))
          replace B := aA (aB B.out qw23')
          replace C := aA (aB C.out qw23')
          replace X4 := aA (aB X4.out qw23')
          replace RA := aA (Rd.next RA.out qw23' qw23'.size)
          replace Q := aA (aC Q.out Q.out.size qw23')
          clear qw23'
          replace RB := aA (show Rd w23' w23'.heap.size A2 1 (aX n.hears) from RB)
          replace FRB := aA FRB
          go_simp
          refine ⟨aO (by kernel_rfl) (.cons (aL B.out 0 rfl) (.cons (aL B.out 0 rfl) .nil)), ?_⟩
          go_simp
          refine aI (i := 5) (by kernel_rfl) ?_
          refine aM rfl rfl ?_
          go_simp
          have X5 := aA (World.alloc_heap_new w23' (.cells (([.slice none 0 0] : List Value)).toArray 61))
          have zBx5 : w.heap.size < w23'.heap.size := aH B.out
          have zCx5 : y < w23'.heap.size := aH C.out
          have zX4x5 : x4 < w23'.heap.size := aH X4.out
          have O_RA_X5 := aA (cG (x := w23'.heap.size) RA.out (by omega))
          have O_RB_X5 := aA (cG (x := w23'.heap.size) RB.out (by omega))
          have zQx5 : w.heap.size ≤ w23'.heap.size := Q.out.size
          have q25' : Below w23'.heap.size w23' (w23'.alloc (.cells (([.slice none 0 0] : List Value)).toArray 61)) := (Below.refl _ _).alloc (Nat.le_refl _) _
          replace B := aA (aB B.out q25')
          replace C := aA (aB C.out q25')
          replace X4 := aA (aB X4.out q25')
          replace RA := aA (Rd.next RA.out q25' q25'.size)
          replace RB := aA (Rd.next RB.out q25' q25'.size)
          replace Q := aA (aC Q.out Q.out.size q25')
          clear q25'
          refine ⟨aO (by kernel_rfl) (.cons (aL B.out 0 rfl) (.cons (aL B.out 0 rfl) .nil)), ?_⟩
          change bN _ _ _ _ _ _ _ _ _ (w23'.alloc (.cells (([.slice none 0 0] : List Value)).toArray 61))
          generalize w23'.alloc (.cells (([.slice none 0 0] : List Value)).toArray 61) = w24' at *
          generalize w23'.heap.size = x5 at *
          go_simp
          refine aI (i := 6) (by kernel_rfl) ?_
          refine aM rfl rfl ?_
          have ⟨z0, z1⟩ := bE X4.out
          go_simp
          clear z0 z1
          refine ⟨aN (by kernel_rfl) (by kernel_rfl), ?_⟩
          go_simp
          obtain ⟨w26', ew26'⟩ : ∃ wq, wq = w24'.setCell ⟨x4, 0, none⟩ (.slice A1 n.sends.length c1) := ⟨_, rfl⟩
          rw [← ew26']
          replace B := aA (show w26'.heap[w.heap.size]? = some (.cells n.cs.toArray 53 (0, 0)) by rw [ew26']; exact aG (by omega) ([.slice A1 n.sends.length c1]) 0 _ B.out)
          replace C := aA (show w26'.heap[y]? = some (.cells n.cf.cs.toArray 25 (0, 0)) by rw [ew26']; exact aG (by omega) ([.slice A1 n.sends.length c1]) 0 _ C.out)
          replace X5 := aA (show w26'.heap[x5]? = some (.cells (([.slice none 0 0] : List Value)).toArray 61 (0, 0)) by rw [ew26']; exact aG (by omega) ([.slice A1 n.sends.length c1]) 0 _ X5.out)
          replace RA := aA (show Rd w26' w26'.heap.size A1 1 (aX n.sends) by rw [ew26']; exact bJ RA.out O_RA_X4.out ([.slice A1 n.sends.length c1]) 0)
          replace RB := aA (show Rd w26' w26'.heap.size A2 1 (aX n.hears) by rw [ew26']; exact bJ RB.out O_RB_X4.out ([.slice A1 n.sends.length c1]) 0)
          replace Q := aA (show Below w.heap.size w w26' by rw [ew26']; exact Q.out.trans (aE ([.slice A1 n.sends.length c1]) 0 _ (by omega)))
          replace X4 := aA (show w26'.heap[x4]? = some (.cells (([.slice A1 n.sends.length c1] : List Value)).toArray 61 (0, 0)) by rw [ew26']; exact aU ([.slice A1 n.sends.length c1]) (([.slice none 0 0] : List Value)) 0 _ X4.out)
          clear ew26'
          refine aI (i := 7) (by kernel_rfl) ?_
          refine aM rfl rfl ?_
          have ⟨z0, z1⟩ := bE X5.out
          go_simp
          clear z0 z1
          refine ⟨aN (by kernel_rfl) (by kernel_rfl), ?_⟩
          go_simp
          obtain ⟨w27', ew27'⟩ : ∃ wq, wq = w26'.setCell ⟨x5, 0, none⟩ (.slice A2 n.hears.length c2) := ⟨_, rfl⟩
          rw [← ew27']
          replace B := aA (show w27'.heap[w.heap.size]? = some (.cells n.cs.toArray 53 (0, 0)) by rw [ew27']; exact aG (by omega) ([.slice A2 n.hears.length c2]) 0 _ B.out)
          replace C := aA (show w27'.heap[y]? = some (.cells n.cf.cs.toArray 25 (0, 0)) by rw [ew27']; exact aG (by omega) ([.slice A2 n.hears.length c2]) 0 _ C.out)
          replace X4 := aA (show w27'.heap[x4]? = some (.cells (([.slice A1 n.sends.length c1] : List Value)).toArray 61 (0, 0)) by rw [ew27']; exact aG (by omega) ([.slice A2 n.hears.length c2]) 0 _ X4.out)
          replace RA := aA (show Rd w27' w27'.heap.size A1 1 (aX n.sends) by rw [ew27']; exact bJ RA.out O_RA_X5.out ([.slice A2 n.hears.length c2]) 0)
          replace RB := aA (show Rd w27' w27'.heap.size A2 1 (aX n.hears) by rw [ew27']; exact bJ RB.out O_RB_X5.out ([.slice A2 n.hears.length c2]) 0)
          replace Q := aA (show Below w.heap.size w w27' by rw [ew27']; exact Q.out.trans (aE ([.slice A2 n.hears.length c2]) 0 _ (by omega)))
          replace X5 := aA (show w27'.heap[x5]? = some (.cells (([.slice A2 n.hears.length c2] : List Value)).toArray 61 (0, 0)) by rw [ew27']; exact aU ([.slice A2 n.hears.length c2]) (([.slice none 0 0] : List Value)) 0 _ X5.out)
          clear ew27'
          refine aS (by kernel_rfl) ?_ _
          go_wp2_with fail
          go_meet
          exact ⟨x4, x5, A1, c1, A2, c2, rfl, rfl, X4, X5, RA, RB, B, C, Q⟩
        · refine aM rfl rfl ?_
          go_simp
          have X5 := aA (World.alloc_heap_new w21' (.cells (([.slice none 0 0] : List Value)).toArray 61))
          have zBx5 : w.heap.size < w21'.heap.size := aH B.out
          have zCx5 : y < w21'.heap.size := aH C.out
          have zX4x5 : x4 < w21'.heap.size := aH X4.out
          have O_RA_X5 := aA (cG (x := w21'.heap.size) RA.out (by omega))
          have zQx5 : w.heap.size ≤ w21'.heap.size := Q.out.size
          have q29' : Below w21'.heap.size w21' (w21'.alloc (.cells (([.slice none 0 0] : List Value)).toArray 61)) := (Below.refl _ _).alloc (Nat.le_refl _) _
          replace B := aA (aB B.out q29')
          replace C := aA (aB C.out q29')
          replace X4 := aA (aB X4.out q29')
          replace RA := aA (Rd.next RA.out q29' q29'.size)
          replace Q := aA (aC Q.out Q.out.size q29')
          clear q29'
          refine ⟨aO (by kernel_rfl) (.cons (aL B.out 0 rfl) (.cons (aL B.out 0 rfl) .nil)), ?_⟩
          change bN _ _ _ _ _ _ _ _ _ (w21'.alloc (.cells (([.slice none 0 0] : List Value)).toArray 61))
          generalize w21'.alloc (.cells (([.slice none 0 0] : List Value)).toArray 61) = w28' at *
          generalize w21'.heap.size = x5 at *
          go_simp
          refine aI (i := 3) (by kernel_rfl) ?_
          refine aM rfl rfl ?_
          go_simp
          (with_reducible refine (HE.out w28' Q.out).mono ?_)
          rintro ew30' w30' ⟨A2, c2, rfl, RB, FRB, qw30'⟩
          have O_RB_B := aA (show dZ A2 (aX n.hears).length w.heap.size from aW FRB (aH B.out))
          have O_RB_C := aA (show dZ A2 (aX n.hears).length y from aW FRB (aH C.out))
          have O_RB_X4 := aA (show dZ A2 (aX n.hears).length x4 from aW FRB (aH X4.out))
          have O_RB_X5 := aA (show dZ A2 (aX n.hears).length x5 from aW FRB (aH X5.out))
          replace B := aA (aB B.out qw30')
          replace C := aA (aB C.out qw30')
          replace X4 := aA (aB X4.out qw30')
          replace X5 := aA (aB X5.out qw30')
          replace RA := aA (Rd.next RA.out qw30' qw30'.size)
          replace Q := aA (aC Q.out Q.out.size qw30')
          clear qw30'
          replace RB := aA (show Rd w30' w30'.heap.size A2 1 (aX n.hears) from RB)
          replace FRB := aA FRB
          go_simp
          refine ⟨aO (by kernel_rfl) (.cons (aL B.out 0 rfl) (.cons (aL B.out 0 rfl) .nil)), ?_⟩
          go_simp
          refine aI (i := 6) (by kernel_rfl) ?_
          refine aM rfl rfl ?_
          have ⟨z0, z1⟩ := bE X4.out
          go_simp
          clear z0 z1
          refine ⟨aN (by kernel_rfl) (by kernel_rfl), ?_⟩
          go_simp
          obtain ⟨w31', ew31'⟩ : ∃ wq, wq = w30'.setCell ⟨x4, 0, none⟩ (.slice A1 n.sends.length c1) := ⟨_, rfl⟩
          rw [← ew31']
          replace B := aA (show w31'.heap[w.heap.size]? = some (.cells n.cs.toArray 53 (0, 0)) by rw [ew31']; exact aG (by omega) ([.slice A1 n.sends.length c1]) 0 _ B.out)
          replace C := aA (show w31'.heap[y]? = some (.cells n.cf.cs.toArray 25 (0, 0)) by rw [ew31']; exact aG (by omega) ([.slice A1 n.sends.length c1]) 0 _ C.out)
          replace X5 := aA (show w31'.heap[x5]? = some (.cells (([.slice none 0 0] : List Value)).toArray 61 (0, 0)) by rw [ew31']; exact aG (by omega) ([.slice A1 n.sends.length c1]) 0 _ X5.out)
          replace RA := aA (show Rd w31' w31'.heap.size A1 1 (aX n.sends) by rw [ew31']; exact bJ RA.out O_RA_X4.out ([.slice A1 n.sends.length c1]) 0)
          replace RB := aA (show Rd w31' w31'.heap.size A2 1 (aX n.hears) by rw [ew31']; exact bJ RB.out O_RB_X4.out ([.slice A1 n.sends.length c1]) 0)
          replace Q := aA (show Below w.heap.size w w31' by rw [ew31']; exact Q.out.trans (aE ([.slice A1 n.sends.length c1]) 0 _ (by omega)))
          replace X4 := aA (show w31'.heap[x4]? = some (.cells (([.slice A1 n.sends.length c1] : List Value)).toArray 61 (0, 0)) by rw [ew31']; exact aU ([.slice A1 n.sends.length c1]) (([.slice none 0 0] : List Value)) 0 _ X4.out)
          clear ew31'
          refine aI (i := 7) (by kernel_rfl) ?_
          refine aM rfl rfl ?_
          have ⟨z0, z1⟩ := bE X5.out
          go_simp
          clear z0 z1
          refine ⟨aN (by kernel_rfl) (by kernel_rfl), ?_⟩
          go_simp
          obtain ⟨w32', ew32'⟩ : ∃ wq, wq = w31'.setCell ⟨x5, 0, none⟩ (.slice A2 n.hears.length c2) := ⟨_, rfl⟩
          rw [← ew32']
          replace B := aA (show w32'.heap[w.heap.size]? = some (.cells n.cs.toArray 53 (0, 0)) by rw [ew32']; exact aG (by omega) ([.slice A2 n.hears.length c2]) 0 _ B.out)
          replace C := aA (show w32'.heap[y]? = some (.cells n.cf.cs.toArray 25 (0, 0)) by rw [ew32']; exact aG (by omega) ([.slice A2 n.hears.length c2]) 0 _ C.out)
          replace X4 := aA (show w32'.heap[x4]? = some (.cells (([.slice A1 n.sends.length c1] : List Value)).toArray 61 (0, 0)) by rw [ew32']; exact aG (by omega) ([.slice A2 n.hears.length c2]) 0 _ X4.out)
          replace RA := aA (show Rd w32' w32'.heap.size A1 1 (aX n.sends) by rw [ew32']; exact bJ RA.out O_RA_X5.out ([.slice A2 n.hears.length c2]) 0)
          replace RB := aA (show Rd w32' w32'.heap.size A2 1 (aX n.hears) by rw [ew32']; exact bJ RB.out O_RB_X5.out ([.slice A2 n.hears.length c2]) 0)
          replace Q := aA (show Below w.heap.size w w32' by rw [ew32']; exact Q.out.trans (aE ([.slice A2 n.hears.length c2]) 0 _ (by omega)))
          replace X5 := aA (show w32'.heap[x5]? = some (.cells (([.slice A2 n.hears.length c2] : List Value)).toArray 61 (0, 0)) by rw [ew32']; exact aU ([.slice A2 n.hears.length c2]) (([.slice none 0 0] : List Value)) 0 _ X5.out)
          clear ew32'
          refine aS (by kernel_rfl) ?_ _
          go_wp2_with fail
          go_meet
          exact ⟨x4, x5, A1, c1, A2, c2, rfl, rfl, X4, X5, RA, RB, B, C, Q⟩
      · refine aM rfl rfl ?_
        go_simp
        have X5 := aA (World.alloc_heap_new w7' (.cells (([.slice none 0 0] : List Value)).toArray 61))
        have zBx5 : w.heap.size < w7'.heap.size := aH B.out
        have zCx5 : y < w7'.heap.size := aH C.out
        have O_RA_X5 := aA (cG (x := w7'.heap.size) RA.out (by omega))
        have zQx5 : w.heap.size ≤ w7'.heap.size := Q.out.size
        have q34' : Below w7'.heap.size w7' (w7'.alloc (.cells (([.slice none 0 0] : List Value)).toArray 61)) := (Below.refl _ _).alloc (Nat.le_refl _) _
        replace B := aA (aB B.out q34')
        replace C := aA (aB C.out q34')
        replace RA := aA (Rd.next RA.out q34' q34'.size)
        replace Q := aA (aC Q.out Q.out.size q34')
        clear q34'
        refine ⟨aO (by kernel_rfl) (.cons (aL B.out 0 rfl) (.cons (aL B.out 0 rfl) .nil)), ?_⟩
        change bN _ _ _ _ _ _ _ _ _ (w7'.alloc (.cells (([.slice none 0 0] : List Value)).toArray 61))
        generalize w7'.alloc (.cells (([.slice none 0 0] : List Value)).toArray 61) = w33' at *
        generalize w7'.heap.size = x5 at *
        go_simp
        refine cB (i := 3) (k := 4) (by kernel_rfl) ?_ ?_
        · refine aM rfl rfl ?_
          go_simp
          (with_reducible refine (HE.out w33' Q.out).mono ?_)
          rintro ew35' w35' ⟨A2, c2, rfl, RB, FRB, qw35'⟩
          have O_RB_B := aA (show dZ A2 (aX n.hears).length w.heap.size from aW FRB (aH B.out))
          have O_RB_C := aA (show dZ A2 (aX n.hears).length y from aW FRB (aH C.out))
          have O_RB_X5 := aA (show dZ A2 (aX n.hears).length x5 from aW FRB (aH X5.out))
          replace B := aA (aB B.out qw35')
          replace C := aA (aB C.out qw35')
          replace X5 := aA (aB X5.out qw35')
          replace RA := aA (Rd.next RA.out qw35' qw35'.size)
          replace Q := aA (aC Q.out Q.out.size qw35')
          clear qw35'
          replace RB := aA (show Rd w35' w35'.heap.size A2 1 (aX n.hears) from RB)
          replace FRB := aA FRB
          go_simp
          refine ⟨aO (by kernel_rfl) (.cons (aL B.out 0 rfl) (.cons (aL B.out 0 rfl) .nil)), ?_⟩
          go_simp
          refine aI (i := 4) (by kernel_rfl) ?_
          refine aM rfl rfl ?_
          go_simp
          have X4 := aA (World.alloc_heap_new w35' (.cells (([.slice none 0 0] : List Value)).toArray 61))
          have zBx4 : w.heap.size < w35'.heap.size := aH B.out
          have zCx4 : y < w35'.heap.size := aH C.out
          have zX5x4 : x5 < w35'.heap.size := aH X5.out
          have O_RA_X4 := aA (cG (x := w35'.heap.size) RA.out (by omega))
          have O_RB_X4 := aA (cG (x := w35'.heap.size) RB.out (by omega))
          have zQx4 : w.heap.size ≤ w35'.heap.size := Q.out.size
          have q37' : Below w35'.heap.size w35' (w35'.alloc (.cells (([.slice none 0 0] : List Value)).toArray 61)) := (Below.refl _ _).alloc (Nat.le_refl _) _
          replace B := aA (aB B.out q37')
          replace C := aA (aB C.out q37')
          replace X5 := aA (aB X5.out q37')
          replace RA := aA (Rd.next RA.out q37' q37'.size)
          replace RB := aA (Rd.next RB.out q37' q37'.size)
          replace Q := aA (aC Q.out Q.out.size q37')
          clear q37'
          refine ⟨aO (by kernel_rfl) (.cons (aL B.out 0 rfl) (.cons (aL B.out 0 rfl) .nil)), ?_⟩
          change bN _ _ _ _ _ _ _ _ _ (w35'.alloc (.cells (([.slice none 0 0] : List Value)).toArray 61))
          generalize w35'.alloc (.cells (([.slice none 0 0] : List Value)).toArray 61) = w36' at *
          generalize w35'.heap.size = x4 at *
          go_simp
          refine aI (i := 6) (by kernel_rfl) ?_
          refine aM rfl rfl ?_
          have ⟨z0, z1⟩ := bE X4.out
          go_simp
          clear z0 z1
          refine ⟨aN (by kernel_rfl) (by kernel_rfl), ?_⟩
          go_simp
          obtain ⟨w38', ew38'⟩ : ∃ wq, wq = w36'.setCell ⟨x4, 0, none⟩ (.slice A1 n.sends.length c1) := ⟨_, rfl⟩
          rw [← ew38']
          replace B := aA (show w38'.heap[w.heap.size]? = some (.cells n.cs.toArray 53 (0, 0)) by rw [ew38']; exact aG (by omega) ([.slice A1 n.sends.length c1]) 0 _ B.out)
          replace C := aA (show w38'.heap[y]? = some (.cells n.cf.cs.toArray 25 (0, 0)) by rw [ew38']; exact aG (by omega) ([.slice A1 n.sends.length c1]) 0 _ C.out)
          replace X5 := aA (show w38'.heap[x5]? = some (.cells (([.slice none 0 0] : List Value)).toArray 61 (0, 0)) by rw [ew38']; exact aG (by omega) ([.slice A1 n.sends.length c1]) 0 _ X5.out)
          replace RA := aA (show Rd w38' w38'.heap.size A1 1 (aX n.sends) by rw [ew38']; exact bJ RA.out O_RA_X4.out ([.slice A1 n.sends.length c1]) 0)
          replace RB := aA (show Rd w38' w38'.heap.size A2 1 (aX n.hears) by rw [ew38']; exact bJ RB.out O_RB_X4.out ([.slice A1 n.sends.length c1]) 0)
          replace Q := aA (show Below w.heap.size w w38' by rw [ew38']; exact Q.out.trans (aE ([.slice A1 n.sends.length c1]) 0 _ (by omega)))
          replace X4 := aA (show w38'.heap[x4]? = some (.cells (([.slice A1 n.sends.length c1] : List Value)).toArray 61 (0, 0)) by rw [ew38']; exact aU ([.slice A1 n.sends.length c1]) (([.slice none 0 0] : List Value)) 0 _ X4.out)
          clear ew38'
          refine aI (i := 7) (by kernel_rfl) ?_
          refine aM rfl rfl ?_
          have ⟨z0, z1⟩ := bE X5.out
          go_simp
          clear z0 z1
          refine ⟨aN (by kernel_rfl) (by kernel_rfl), ?_⟩
          go_simp
          obtain ⟨w39', ew39'⟩ : ∃ wq, wq = w38'.setCell ⟨x5, 0, none⟩ (.slice A2 n.hears.length c2) := ⟨_, rfl⟩
          rw [← ew39']
          replace B := aA (show w39'.heap[w.heap.size]? = some (.cells n.cs.toArray 53 (0, 0)) by rw [ew39']; exact aG (by omega) ([.slice A2 n.hears.length c2]) 0 _ B.out)
          replace C := aA (show w39'.heap[y]? = some (.cells n.cf.cs.toArray 25 (0, 0)) by rw [ew39']; exact aG (by omega) ([.slice A2 n.hears.length c2]) 0 _ C.out)
          replace X4 := aA (show w39'.heap[x4]? = some (.cells (([.slice A1 n.sends.length c1] : List Value)).toArray 61 (0, 0)) by rw [ew39']; exact aG (by omega) ([.slice A2 n.hears.length c2]) 0 _ X4.out)
          replace RA := aA (show Rd w39' w39'.heap.size A1 1 (aX n.sends) by rw [ew39']; exact bJ RA.out O_RA_X5.out ([.slice A2 n.hears.length c2]) 0)
          replace RB := aA (show Rd w39' w39'.heap.size A2 1 (aX n.hears) by rw [ew39']; exact bJ RB.out O_RB_X5.out ([.slice A2 n.hears.length c2]) 0)
          replace Q := aA (show Below w.heap.size w w39' by rw [ew39']; exact Q.out.trans (aE ([.slice A2 n.hears.length c2]) 0 _ (by omega)))
          replace X5 := aA (show w39'.heap[x5]? = some (.cells (([.slice A2 n.hears.length c2] : List Value)).toArray 61 (0, 0)) by rw [ew39']; exact aU ([.slice A2 n.hears.length c2]) (([.slice none 0 0] : List Value)) 0 _ X5.out)
          clear ew39'
          refine aS (by kernel_rfl) ?_ _
          go_wp2_with fail
          go_meet
          exact ⟨x4, x5, A1, c1, A2, c2, rfl, rfl, X4, X5, RA, RB, B, C, Q⟩
        · refine aM rfl rfl ?_
          go_simp
          have X4 := aA (World.alloc_heap_new w33' (.cells (([.slice none 0 0] : List Value)).toArray 61))
          have zBx4 : w.heap.size < w33'.heap.size := aH B.out
          have zCx4 : y < w33'.heap.size := aH C.out
          have zX5x4 : x5 < w33'.heap.size := aH X5.out
          have O_RA_X4 := aA (cG (x := w33'.heap.size) RA.out (by omega))
          have zQx4 : w.heap.size ≤ w33'.heap.size := Q.out.size
          have q41' : Below w33'.heap.size w33' (w33'.alloc (.cells (([.slice none 0 0] : List Value)).toArray 61)) := (Below.refl _ _).alloc (Nat.le_refl _) _
          replace B := aA (aB B.out q41')
          replace C := aA (aB C.out q41')
          replace X5 := aA (aB X5.out q41')
          replace RA := aA (Rd.next RA.out q41' q41'.size)
          replace Q := aA (aC Q.out Q.out.size q41')
          clear q41'
          refine ⟨aO (by kernel_rfl) (.cons (aL B.out 0 rfl) (.cons (aL B.out 0 rfl) .nil)), ?_⟩
          change bN _ _ _ _ _ _ _ _ _ (w33'.alloc (.cells (([.slice none 0 0] : List Value)).toArray 61))
          generalize w33'.alloc (.cells (([.slice none 0 0] : List Value)).toArray 61) = w40' at *
          generalize w33'.heap.size = x4 at *
          go_simp
          refine aI (i := 3) (by kernel_rfl) ?_
          refine aM rfl rfl ?_
          go_simp
          (with_reducible refine (HE.out w40' Q.out).mono ?_)
          rintro ew42' w42' ⟨A2, c2, rfl, RB, FRB, qw42'⟩
          have O_RB_B := aA (show dZ A2 (aX n.hears).length w.heap.size from aW FRB (aH B.out))
          have O_RB_C := aA (show dZ A2 (aX n.hears).length y from aW FRB (aH C.out))
          have O_RB_X5 := aA (show dZ A2 (aX n.hears).length x5 from aW FRB (aH X5.out))
          have O_RB_X4 := aA (show dZ A2 (aX n.hears).length x4 from aW FRB (aH X4.out))
          replace B := aA (aB B.out qw42')
          replace C := aA (aB C.out qw42')
          replace X5 := aA (aB X5.out qw42')
          replace X4 := aA (aB X4.out qw42')
          replace RA := aA (Rd.next RA.out qw42' qw42'.size)
          replace Q := aA (aC Q.out Q.out.size qw42')
          clear qw42'
          replace RB := aA (show Rd w42' w42'.heap.size A2 1 (aX n.hears) from RB)
          replace FRB := aA FRB
          go_simp
          refine ⟨aO (by kernel_rfl) (.cons (aL B.out 0 rfl) (.cons (aL B.out 0 rfl) .nil)), ?_⟩
          go_simp
          refine aI (i := 6) (by kernel_rfl) ?_
          refine aM rfl rfl ?_
          have ⟨z0, z1⟩ := bE X4.out
          go_simp
          clear z0 z1
          refine ⟨aN (by kernel_rfl) (by kernel_rfl), ?_⟩
          go_simp
          obtain ⟨w43', ew43'⟩ : ∃ wq, wq = w42'.setCell ⟨x4, 0, none⟩ (.slice A1 n.sends.length c1) := ⟨_, rfl⟩
          rw [← ew43']
          replace B := aA (show w43'.heap[w.heap.size]? = some (.cells n.cs.toArray 53 (0, 0)) by rw [ew43']; exact aG (by omega) ([.slice A1 n.sends.length c1]) 0 _ B.out)
          replace C := aA (show w43'.heap[y]? = some (.cells n.cf.cs.toArray 25 (0, 0)) by rw [ew43']; exact aG (by omega) ([.slice A1 n.sends.length c1]) 0 _ C.out)
          replace X5 := aA (show w43'.heap[x5]? = some (.cells (([.slice none 0 0] : List Value)).toArray 61 (0, 0)) by rw [ew43']; exact aG (by omega) ([.slice A1 n.sends.length c1]) 0 _ X5.out)
          replace RA := aA (show Rd w43' w43'.heap.size A1 1 (aX n.sends) by rw [ew43']; exact bJ RA.out O_RA_X4.out ([.slice A1 n.sends.length c1]) 0)
          replace RB := aA (show Rd w43' w43'.heap.size A2 1 (aX n.hears) by rw [ew43']; exact bJ RB.out O_RB_X4.out ([.slice A1 n.sends.length c1]) 0)
          replace Q := aA (show Below w.heap.size w w43' by rw [ew43']; exact Q.out.trans (aE ([.slice A1 n.sends.length c1]) 0 _ (by omega)))
          replace X4 := aA (show w43'.heap[x4]? = some (.cells (([.slice A1 n.sends.length c1] : List Value)).toArray 61 (0, 0)) by rw [ew43']; exact aU ([.slice A1 n.sends.length c1]) (([.slice none 0 0] : List Value)) 0 _ X4.out)
          clear ew43'
          refine aI (i := 7) (by kernel_rfl) ?_
          refine aM rfl rfl ?_
          have ⟨z0, z1⟩ := bE X5.out
          go_simp
          clear z0 z1
          refine ⟨aN (by kernel_rfl) (by kernel_rfl), ?_⟩
          go_simp
          obtain ⟨w44', ew44'⟩ : ∃ wq, wq = w43'.setCell ⟨x5, 0, none⟩ (.slice A2 n.hears.length c2) := ⟨_, rfl⟩
          rw [← ew44']
          replace B := aA (show w44'.heap[w.heap.size]? = some (.cells n.cs.toArray 53 (0, 0)) by rw [ew44']; exact aG (by omega) ([.slice A2 n.hears.length c2]) 0 _ B.out)
          replace C := aA (show w44'.heap[y]? = some (.cells n.cf.cs.toArray 25 (0, 0)) by rw [ew44']; exact aG (by omega) ([.slice A2 n.hears.length c2]) 0 _ C.out)
          replace X4 := aA (show w44'.heap[x4]? = some (.cells (([.slice A1 n.sends.length c1] : List Value)).toArray 61 (0, 0)) by rw [ew44']; exact aG (by omega) ([.slice A2 n.hears.length c2]) 0 _ X4.out)
          replace RA := aA (show Rd w44' w44'.heap.size A1 1 (aX n.sends) by rw [ew44']; exact bJ RA.out O_RA_X5.out ([.slice A2 n.hears.length c2]) 0)
          replace RB := aA (show Rd w44' w44'.heap.size A2 1 (aX n.hears) by rw [ew44']; exact bJ RB.out O_RB_X5.out ([.slice A2 n.hears.length c2]) 0)
          replace Q := aA (show Below w.heap.size w w44' by rw [ew44']; exact Q.out.trans (aE ([.slice A2 n.hears.length c2]) 0 _ (by omega)))
          replace X5 := aA (show w44'.heap[x5]? = some (.cells (([.slice A2 n.hears.length c2] : List Value)).toArray 61 (0, 0)) by rw [ew44']; exact aU ([.slice A2 n.hears.length c2]) (([.slice none 0 0] : List Value)) 0 _ X5.out)
          clear ew44'
          refine aS (by kernel_rfl) ?_ _
          go_wp2_with fail
          go_meet
          exact ⟨x4, x5, A1, c1, A2, c2, rfl, rfl, X4, X5, RA, RB, B, C, Q⟩
    · refine aM rfl rfl ?_
      go_simp
      have X4 := aA (World.alloc_heap_new w6' (.cells (([.slice none 0 0] : List Value)).toArray 61))
      have zBx4 : w.heap.size < w6'.heap.size := aH B.out
      have zCx4 : y < w6'.heap.size := aH C.out
      have zQx4 : w.heap.size ≤ w6'.heap.size := Q.out.size
      have q46' : Below w6'.heap.size w6' (w6'.alloc (.cells (([.slice none 0 0] : List Value)).toArray 61)) := (Below.refl _ _).alloc (Nat.le_refl _) _
      replace B := aA (aB B.out q46')
      replace C := aA (aB C.out q46')
      replace Q := aA (aC Q.out Q.out.size q46')
      clear q46'
      refine ⟨aO (by kernel_rfl) (.cons (aL B.out 0 rfl) (.cons (aL B.out 0 rfl) .nil)), ?_⟩
      change bN _ _ _ _ _ _ _ _ _ (w6'.alloc (.cells (([.slice none 0 0] : List Value)).toArray 61))
      generalize w6'.alloc (.cells (([.slice none 0 0] : List Value)).toArray 61) = w45' at *
      generalize w6'.heap.size = x4 at *
      go_simp
      refine cB (i := 1) (k := 5) (by kernel_rfl) ?_ ?_
      · refine aM rfl rfl ?_
        go_simp
        (with_reducible refine (SE.out w45' Q.out).mono ?_)
        rintro ew47' w47' ⟨A1, c1, rfl, RA, FRA, qw47'⟩
        have O_RA_B := aA (show dZ A1 (aX n.sends).length w.heap.size from aW FRA (aH B.out))
        have O_RA_C := aA (show dZ A1 (aX n.sends).length y from aW FRA (aH C.out))
        have O_RA_X4 := aA (show dZ A1 (aX n.sends).length x4 from aW FRA (aH X4.out))
        replace B := aA (aB B.out qw47')
        replace C := aA (aB C.out qw47')
        replace X4 := aA (aB X4.out qw47')
        replace Q := aA (aC Q.out Q.out.size qw47')
        clear qw47'
        replace RA := aA (show Rd w47' w47'.heap.size A1 1 (aX n.sends) from RA)
        replace FRA := aA FRA
        go_simp
        refine ⟨aO (by kernel_rfl) (.cons (aL B.out 0 rfl) (.cons (aL B.out 0 rfl) .nil)), ?_⟩
        go_simp
        refine cB (i := 3) (k := 5) (by kernel_rfl) ?_ ?_
        · refine aM rfl rfl ?_
          go_simp
          (with_reducible refine (HE.out w47' Q.out).mono ?_)
          rintro ew48' w48' ⟨A2, c2, rfl, RB, FRB, qw48'⟩
          have O_RB_B := aA (show dZ A2 (aX n.hears).length w.heap.size from aW FRB (aH B.out))
          have O_RB_C := aA (show dZ A2 (aX n.hears).length y from aW FRB (aH C.out))
          have O_RB_X4 := aA (show dZ A2 (aX n.hears).length x4 from aW FRB (aH X4.out))
          replace B := aA (aB B.out qw48')
          replace C := aA (aB C.out qw48')
          replace X4 := aA (aB X4.out qw48')
          replace RA := aA (Rd.next RA.out qw48' qw48'.size)
          replace Q := aA (aC Q.out Q.out.size qw48')
          clear qw48'
          replace RB := aA (show Rd w48' w48'.heap.size A2 1 (aX n.hears) from RB)
          replace FRB := aA FRB
          go_simp
          refine ⟨aO (by kernel_rfl) (.cons (aL B.out 0 rfl) (.cons (aL B.out 0 rfl) .nil)), ?_⟩
          go_simp
          refine aI (i := 5) (by kernel_rfl) ?_
          refine aM rfl rfl ?_
          go_simp
          have X5 := aA (World.alloc_heap_new w48' (.cells (([.slice none 0 0] : List Value)).toArray 61))
          have zBx5 : w.heap.size < w48'.heap.size := aH B.out
          have zCx5 : y < w48'.heap.size := aH C.out
          have zX4x5 : x4 < w48'.heap.size := aH X4.out
          have O_RA_X5 := aA (cG (x := w48'.heap.size) RA.out (by omega))
          have O_RB_X5 := aA (cG (x := w48'.heap.size) RB.out (by omega))
          have zQx5 : w.heap.size ≤ w48'.heap.size := Q.out.size
          have q50' : Below w48'.heap.size w48' (w48'.alloc (.cells (([.slice none 0 0] : List Value)).toArray 61)) := (Below.refl _ _).alloc (Nat.le_refl _) _
          replace B := aA (aB B.out q50')
          replace C := aA (aB C.out q50')
          replace X4 := aA (aB X4.out q50')
          replace RA := aA (Rd.next RA.out q50' q50'.size)
          replace RB := aA (Rd.next RB.out q50' q50'.size)
          replace Q := aA (aC Q.out Q.out.size q50')
          clear q50'
          refine ⟨aO (by kernel_rfl) (.cons (aL B.out 0 rfl) (.cons (aL B.out 0 rfl) .nil)), ?_⟩
          change bN _ _ _ _ _ _ _ _ _ (w48'.alloc (.cells (([.slice none 0 0] : List Value)).toArray 61))
          generalize w48'.alloc (.cells (([.slice none 0 0] : List Value)).toArray 61) = w49' at *
          generalize w48'.heap.size = x5 at *
          go_simp
          refine aI (i := 6) (by kernel_rfl) ?_
          refine aM rfl rfl ?_
          have ⟨z0, z1⟩ := bE X4.out
          go_simp
          clear z0 z1
          refine ⟨aN (by kernel_rfl) (by kernel_rfl), ?_⟩
          go_simp
          obtain ⟨w51', ew51'⟩ : ∃ wq, wq = w49'.setCell ⟨x4, 0, none⟩ (.slice A1 n.sends.length c1) := ⟨_, rfl⟩
          rw [← ew51']
          replace B := aA (show w51'.heap[w.heap.size]? = some (.cells n.cs.toArray 53 (0, 0)) by rw [ew51']; exact aG (by omega) ([.slice A1 n.sends.length c1]) 0 _ B.out)
          replace C := aA (show w51'.heap[y]? = some (.cells n.cf.cs.toArray 25 (0, 0)) by rw [ew51']; exact aG (by omega) ([.slice A1 n.sends.length c1]) 0 _ C.out)
          replace X5 := aA (show w51'.heap[x5]? = some (.cells (([.slice none 0 0] : List Value)).toArray 61 (0, 0)) by rw [ew51']; exact aG (by omega) ([.slice A1 n.sends.length c1]) 0 _ X5.out)
          replace RA := aA (show Rd w51' w51'.heap.size A1 1 (aX n.sends) by rw [ew51']; exact bJ RA.out O_RA_X4.out ([.slice A1 n.sends.length c1]) 0)
          replace RB := aA (show Rd w51' w51'.heap.size A2 1 (aX n.hears) by rw [ew51']; exact bJ RB.out O_RB_X4.out ([.slice A1 n.sends.length c1]) 0)
          replace Q := aA (show Below w.heap.size w w51' by rw [ew51']; exact Q.out.trans (aE ([.slice A1 n.sends.length c1]) 0 _ (by omega)))
          replace X4 := aA (show w51'.heap[x4]? = some (.cells (([.slice A1 n.sends.length c1] : List Value)).toArray 61 (0, 0)) by rw [ew51']; exact aU ([.slice A1 n.sends.length c1]) (([.slice none 0 0] : List Value)) 0 _ X4.out)
          clear ew51'
          refine aI (i := 7) (by kernel_rfl) ?_
          refine aM rfl rfl ?_
          have ⟨z0, z1⟩ := bE X5.out
          go_simp
          clear z0 z1
          refine ⟨aN (by kernel_rfl) (by kernel_rfl), ?_⟩
          go_simp
          obtain ⟨w52', ew52'⟩ : ∃ wq, wq = w51'.setCell ⟨x5, 0, none⟩ (.slice A2 n.hears.length c2) := ⟨_, rfl⟩
          rw [← ew52']
          replace B := aA (show w52'.heap[w.heap.size]? = some (.cells n.cs.toArray 53 (0, 0)) by rw [ew52']; exact aG (by omega) ([.slice A2 n.hears.length c2]) 0 _ B.out)
          replace C := aA (show w52'.heap[y]? = some (.cells n.cf.cs.toArray 25 (0, 0)) by rw [ew52']; exact aG (by omega) ([.slice A2 n.hears.length c2]) 0 _ C.out)
          replace X4 := aA (show w52'.heap[x4]? = some (.cells (([.slice A1 n.sends.length c1] : List Value)).toArray 61 (0, 0)) by rw [ew52']; exact aG (by omega) ([.slice A2 n.hears.length c2]) 0 _ X4.out)
          replace RA := aA (show Rd w52' w52'.heap.size A1 1 (aX n.sends) by rw [ew52']; exact bJ RA.out O_RA_X5.out ([.slice A2 n.hears.length c2]) 0)
          replace RB := aA (show Rd w52' w52'.heap.size A2 1 (aX n.hears) by rw [ew52']; exact bJ RB.out O_RB_X5.out ([.slice A2 n.hears.length c2]) 0)
          replace Q := aA (show Below w.heap.size w w52' by rw [ew52']; exact Q.out.trans (aE ([.slice A2 n.hears.length c2]) 0 _ (by omega)))
          replace X5 := aA (show w52'.heap[x5]? = some (.cells (([.slice A2 n.hears.length c2] : List Value)).toArray 61 (0, 0)) by rw [ew52']; exact aU ([.slice A2 n.hears.length c2]) (([.slice none 0 0] : List Value)) 0 _ X5.out)
          clear ew52'
          refine aS (by kernel_rfl) ?_ _
          go_wp2_with fail
          go_meet
          exact ⟨x4, x5, A1, c1, A2, c2, rfl, rfl, X4, X5, RA, RB, B, C, Q⟩
        · refine aM rfl rfl ?_
          go_simp
          have X5 := aA (World.alloc_heap_new w47' (.cells (([.slice none 0 0] : List Value)).toArray 61))
          have zBx5 : w.heap.size < w47'.heap.size := aH B.out
          have zCx5 : y < w47'.heap.size := aH C.out
          have zX4x5 : x4 < w47'.heap.size := aH X4.out
          have O_RA_X5 := aA (cG (x := w47'.heap.size) RA.out (by omega))
          have zQx5 : w.heap.size ≤ w47'.heap.size := Q.out.size
          have q54' : Below w47'.heap.size w47' (w47'.alloc (.cells (([.slice none 0 0] : List Value)).toArray 61)) := (Below.refl _ _).alloc (Nat.le_refl _) _
          replace B := aA (aB B.out q54')
          replace C := aA (aB C.out q54')
          replace X4 := aA (aB X4.out q54')
          replace RA := aA (Rd.next RA.out q54' q54'.size)
          replace Q := aA (aC Q.out Q.out.size q54')
          clear q54'
          refine ⟨aO (by kernel_rfl) (.cons (aL B.out 0 rfl) (.cons (aL B.out 0 rfl) .nil)), ?_⟩
          change bN _ _ _ _ _ _ _ _ _ (w47'.alloc (.cells (([.slice none 0 0] : List Value)).toArray 61))
          generalize w47'.alloc (.cells (([.slice none 0 0] : List Value)).toArray 61) = w53' at *
          generalize w47'.heap.size = x5 at *
          go_simp
          refine aI (i := 3) (by kernel_rfl) ?_
          refine aM rfl rfl ?_
          go_simp
          (with_reducible refine (HE.out w53' Q.out).mono ?_)
          rintro ew55' w55' ⟨A2, c2, rfl, RB, FRB, qw55'⟩
          have O_RB_B := aA (show dZ A2 (aX n.hears).length w.heap.size from aW FRB (aH B.out))
          have O_RB_C := aA (show dZ A2 (aX n.hears).length y from aW FRB (aH C.out))
          have O_RB_X4 := aA (show dZ A2 (aX n.hears).length x4 from aW FRB (aH X4.out))
          have O_RB_X5 := aA (show dZ A2 (aX n.hears).length x5 from aW FRB (aH X5.out))
          replace B := aA (aB B.out qw55')
          replace C := aA (aB C.out qw55')
          replace X4 := aA (aB X4.out qw55')
          replace X5 := aA (aB X5.out qw55')
          replace RA := aA (Rd.next RA.out qw55' qw55'.size)
          replace Q := aA (aC Q.out Q.out.size qw55')
          clear qw55'
          replace RB := aA (show Rd w55' w55'.heap.size A2 1 (aX n.hears) from RB)
          replace FRB := aA FRB
          go_simp
          refine ⟨aO (by kernel_rfl) (.cons (aL B.out 0 rfl) (.cons (aL B.out 0 rfl) .nil)), ?_⟩
          go_simp
          refine aI (i := 6) (by kernel_rfl) ?_
          refine aM rfl rfl ?_
          have ⟨z0, z1⟩ := bE X4.out
          go_simp
          clear z0 z1
          refine ⟨aN (by kernel_rfl) (by kernel_rfl), ?_⟩
          go_simp
          obtain ⟨w56', ew56'⟩ : ∃ wq, wq = w55'.setCell ⟨x4, 0, none⟩ (.slice A1 n.sends.length c1) := ⟨_, rfl⟩
          rw [← ew56']
          replace B := aA (show w56'.heap[w.heap.size]? = some (.cells n.cs.toArray 53 (0, 0)) by rw [ew56']; exact aG (by omega) ([.slice A1 n.sends.length c1]) 0 _ B.out)
          replace C := aA (show w56'.heap[y]? = some (.cells n.cf.cs.toArray 25 (0, 0)) by rw [ew56']; exact aG (by omega) ([.slice A1 n.sends.length c1]) 0 _ C.out)
          replace X5 := aA (show w56'.heap[x5]? = some (.cells (([.slice none 0 0] : List Value)).toArray 61 (0, 0)) by rw [ew56']; exact aG (by omega) ([.slice A1 n.sends.length c1]) 0 _ X5.out)
          replace RA := aA (show Rd w56' w56'.heap.size A1 1 (aX n.sends) by rw [ew56']; exact bJ RA.out O_RA_X4.out ([.slice A1 n.sends.length c1]) 0)
          replace RB := aA (show Rd w56' w56'.heap.size A2 1 (aX n.hears) by rw [ew56']; exact bJ RB.out O_RB_X4.out ([.slice A1 n.sends.length c1]) 0)
          replace Q := aA (show Below w.heap.size w w56' by rw [ew56']; exact Q.out.trans (aE ([.slice A1 n.sends.length c1]) 0 _ (by omega)))
          replace X4 := aA (show w56'.heap[x4]? = some (.cells (([.slice A1 n.sends.length c1] : List Value)).toArray 61 (0, 0)) by rw [ew56']; exact aU ([.slice A1 n.sends.length c1]) (([.slice none 0 0] : List Value)) 0 _ X4.out)
          clear ew56'
          refine aI (i := 7) (by kernel_rfl) ?_
          refine aM rfl rfl ?_
          have ⟨z0, z1⟩ := bE X5.out
          go_simp
          clear z0 z1
          refine ⟨aN (by kernel_rfl) (by kernel_rfl), ?_⟩
          go_simp
          obtain ⟨w57', ew57'⟩ : ∃ wq, wq = w56'.setCell ⟨x5, 0, none⟩ (.slice A2 n.hears.length c2) := ⟨_, rfl⟩
          rw [← ew57']
          replace B := aA (show w57'.heap[w.heap.size]? = some (.cells n.cs.toArray 53 (0, 0)) by rw [ew57']; exact aG (by omega) ([.slice A2 n.hears.length c2]) 0 _ B.out)
          replace C := aA (show w57'.heap[y]? = some (.cells n.cf.cs.toArray 25 (0, 0)) by rw [ew57']; exact aG (by omega) ([.slice A2 n.hears.length c2]) 0 _ C.out)
          replace X4 := aA (show w57'.heap[x4]? = some (.cells (([.slice A1 n.sends.length c1] : List Value)).toArray 61 (0, 0)) by rw [ew57']; exact aG (by omega) ([.slice A2 n.hears.length c2]) 0 _ X4.out)
          replace RA := aA (show Rd w57' w57'.heap.size A1 1 (aX n.sends) by rw [ew57']; exact bJ RA.out O_RA_X5.out ([.slice A2 n.hears.length c2]) 0)
          replace RB := aA (show Rd w57' w57'.heap.size A2 1 (aX n.hears) by rw [ew57']; exact bJ RB.out O_RB_X5.out ([.slice A2 n.hears.length c2]) 0)
          replace Q := aA (show Below w.heap.size w w57' by rw [ew57']; exact Q.out.trans (aE ([.slice A2 n.hears.length c2]) 0 _ (by omega)))
          replace X5 := aA (show w57'.heap[x5]? = some (.cells (([.slice A2 n.hears.length c2] : List Value)).toArray 61 (0, 0)) by rw [ew57']; exact aU ([.slice A2 n.hears.length c2]) (([.slice none 0 0] : List Value)) 0 _ X5.out)
          clear ew57'
          refine aS (by kernel_rfl) ?_ _
          go_wp2_with fail
          go_meet
          exact ⟨x4, x5, A1, c1, A2, c2, rfl, rfl, X4, X5, RA, RB, B, C, Q⟩
      · refine aM rfl rfl ?_
        go_simp
        have X5 := aA (World.alloc_heap_new w45' (.cells (([.slice none 0 0] : List Value)).toArray 61))
        have zBx5 : w.heap.size < w45'.heap.size := aH B.out
        have zCx5 : y < w45'.heap.size := aH C.out
        have zX4x5 : x4 < w45'.heap.size := aH X4.out
        have zQx5 : w.heap.size ≤ w45'.heap.size := Q.out.size
        have q59' : Below w45'.heap.size w45' (w45'.alloc (.cells (([.slice none 0 0] : List Value)).toArray 61)) := (Below.refl _ _).alloc (Nat.le_refl _) _
        replace B := aA (aB B.out q59')
        replace C := aA (aB C.out q59')
        replace X4 := aA (aB X4.out q59')
        replace Q := aA (aC Q.out Q.out.size q59')
        clear q59'
        refine ⟨aO (by kernel_rfl) (.cons (aL B.out 0 rfl) (.cons (aL B.out 0 rfl) .nil)), ?_⟩
        change bN _ _ _ _ _ _ _ _ _ (w45'.alloc (.cells (([.slice none 0 0] : List Value)).toArray 61))
        generalize w45'.alloc (.cells (([.slice none 0 0] : List Value)).toArray 61) = w58' at *
        generalize w45'.heap.size = x5 at *
        go_simp
        refine aI (i := 1) (by kernel_rfl) ?_
        refine aM rfl rfl ?_
        go_simp
        (with_reducible refine (SE.out w58' Q.out).mono ?_)
        rintro ew60' w60' ⟨A1, c1, rfl, RA, FRA, qw60'⟩
        have O_RA_B := aA (show dZ A1 (aX n.sends).length w.heap.size from aW FRA (aH B.out))
        have O_RA_C := aA (show dZ A1 (aX n.sends).length y from aW FRA (aH C.out))
        have O_RA_X4 := aA (show dZ A1 (aX n.sends).length x4 from aW FRA (aH X4.out))
        have O_RA_X5 := aA (show dZ A1 (aX n.sends).length x5 from aW FRA (aH X5.out))
        replace B := aA (aB B.out qw60')
        replace C := aA (aB C.out qw60')
        replace X4 := aA (aB X4.out qw60')
        replace X5 := aA (aB X5.out qw60')
        replace Q := aA (aC Q.out Q.out.size qw60')
        clear qw60'
        replace RA := aA (show Rd w60' w60'.heap.size A1 1 (aX n.sends) from RA)
        replace FRA := aA FRA
        go_simp
        refine ⟨aO (by kernel_rfl) (.cons (aL B.out 0 rfl) (.cons (aL B.out 0 rfl) .nil)), ?_⟩
        go_simp
        refine aI (i := 3) (by kernel_rfl) ?_
        refine aM rfl rfl ?_
        go_simp
        (with_reducible refine (HE.out w60' Q.out).mono ?_)
        rintro ew61' w61' ⟨A2, c2, rfl, RB, FRB, qw61'⟩
        have O_RB_B := aA (show dZ A2 (aX n.hears).length w.heap.size from aW FRB (aH B.out))
        have O_RB_C := aA (show dZ A2 (aX n.hears).length y from aW FRB (aH C.out))
        have O_RB_X4 := aA (show dZ A2 (aX n.hears).length x4 from aW FRB (aH X4.out))
        have O_RB_X5 := aA (show dZ A2 (aX n.hears).length x5 from aW FRB (aH X5.out))
        replace B := aA (aB B.out qw61')
        replace C := aA (aB C.out qw61')
        replace X4 := aA (aB X4.out qw61')
        replace X5 := aA (aB X5.out qw61')
        replace RA := aA (Rd.next RA.out qw61' qw61'.size)
        replace Q := aA (aC Q.out Q.out.size qw61')
        clear qw61'
        replace RB := aA (show Rd w61' w61'.heap.size A2 1 (aX n.hears) from RB)
        replace FRB := aA FRB
        go_simp
        refine ⟨aO (by kernel_rfl) (.cons (aL B.out 0 rfl) (.cons (aL B.out 0 rfl) .nil)), ?_⟩
        go_simp
        refine aI (i := 6) (by kernel_rfl) ?_
        refine aM rfl rfl ?_
        have ⟨z0, z1⟩ := bE X4.out
        go_simp
        clear z0 z1
        refine ⟨aN (by kernel_rfl) (by kernel_rfl), ?_⟩
        go_simp
        obtain ⟨w62', ew62'⟩ : ∃ wq, wq = w61'.setCell ⟨x4, 0, none⟩ (.slice A1 n.sends.length c1) := ⟨_, rfl⟩
        rw [← ew62']
        replace B := aA (show w62'.heap[w.heap.size]? = some (.cells n.cs.toArray 53 (0, 0)) by rw [ew62']; exact aG (by omega) ([.slice A1 n.sends.length c1]) 0 _ B.out)
        replace C := aA (show w62'.heap[y]? = some (.cells n.cf.cs.toArray 25 (0, 0)) by rw [ew62']; exact aG (by omega) ([.slice A1 n.sends.length c1]) 0 _ C.out)
        replace X5 := aA (show w62'.heap[x5]? = some (.cells (([.slice none 0 0] : List Value)).toArray 61 (0, 0)) by rw [ew62']; exact aG (by omega) ([.slice A1 n.sends.length c1]) 0 _ X5.out)
        replace RA := aA (show Rd w62' w62'.heap.size A1 1 (aX n.sends) by rw [ew62']; exact bJ RA.out O_RA_X4.out ([.slice A1 n.sends.length c1]) 0)
        replace RB := aA (show Rd w62' w62'.heap.size A2 1 (aX n.hears) by rw [ew62']; exact bJ RB.out O_RB_X4.out ([.slice A1 n.sends.length c1]) 0)
        replace Q := aA (show Below w.heap.size w w62' by rw [ew62']; exact Q.out.trans (aE ([.slice A1 n.sends.length c1]) 0 _ (by omega)))
        replace X4 := aA (show w62'.heap[x4]? = some (.cells (([.slice A1 n.sends.length c1] : List Value)).toArray 61 (0, 0)) by rw [ew62']; exact aU ([.slice A1 n.sends.length c1]) (([.slice none 0 0] : List Value)) 0 _ X4.out)
        clear ew62'
        refine aI (i := 7) (by kernel_rfl) ?_
        refine aM rfl rfl ?_
        have ⟨z0, z1⟩ := bE X5.out
        go_simp
        clear z0 z1
        refine ⟨aN (by kernel_rfl) (by kernel_rfl), ?_⟩
        go_simp
        obtain ⟨w63', ew63'⟩ : ∃ wq, wq = w62'.setCell ⟨x5, 0, none⟩ (.slice A2 n.hears.length c2) := ⟨_, rfl⟩
        rw [← ew63']
        replace B := aA (show w63'.heap[w.heap.size]? = some (.cells n.cs.toArray 53 (0, 0)) by rw [ew63']; exact aG (by omega) ([.slice A2 n.hears.length c2]) 0 _ B.out)
        replace C := aA (show w63'.heap[y]? = some (.cells n.cf.cs.toArray 25 (0, 0)) by rw [ew63']; exact aG (by omega) ([.slice A2 n.hears.length c2]) 0 _ C.out)
        replace X4 := aA (show w63'.heap[x4]? = some (.cells (([.slice A1 n.sends.length c1] : List Value)).toArray 61 (0, 0)) by rw [ew63']; exact aG (by omega) ([.slice A2 n.hears.length c2]) 0 _ X4.out)
        replace RA := aA (show Rd w63' w63'.heap.size A1 1 (aX n.sends) by rw [ew63']; exact bJ RA.out O_RA_X5.out ([.slice A2 n.hears.length c2]) 0)
        replace RB := aA (show Rd w63' w63'.heap.size A2 1 (aX n.hears) by rw [ew63']; exact bJ RB.out O_RB_X5.out ([.slice A2 n.hears.length c2]) 0)
        replace Q := aA (show Below w.heap.size w w63' by rw [ew63']; exact Q.out.trans (aE ([.slice A2 n.hears.length c2]) 0 _ (by omega)))
        replace X5 := aA (show w63'.heap[x5]? = some (.cells (([.slice A2 n.hears.length c2] : List Value)).toArray 61 (0, 0)) by rw [ew63']; exact aU ([.slice A2 n.hears.length c2]) (([.slice none 0 0] : List Value)) 0 _ X5.out)
        clear ew63'
        refine aS (by kernel_rfl) ?_ _
        go_wp2_with fail
        go_meet
        exact ⟨x4, x5, A1, c1, A2, c2, rfl, rfl, X4, X5, RA, RB, B, C, Q⟩
    · refine aM rfl rfl ?_
      go_simp
      have X5 := aA (World.alloc_heap_new w6' (.cells (([.slice none 0 0] : List Value)).toArray 61))
      have zBx5 : w.heap.size < w6'.heap.size := aH B.out
      have zCx5 : y < w6'.heap.size := aH C.out
      have zQx5 : w.heap.size ≤ w6'.heap.size := Q.out.size
      have q65' : Below w6'.heap.size w6' (w6'.alloc (.cells (([.slice none 0 0] : List Value)).toArray 61)) := (Below.refl _ _).alloc (Nat.le_refl _) _
      replace B := aA (aB B.out q65')
      replace C := aA (aB C.out q65')
      replace Q := aA (aC Q.out Q.out.size q65')
      clear q65'
      refine ⟨aO (by kernel_rfl) (.cons (aL B.out 0 rfl) (.cons (aL B.out 0 rfl) .nil)), ?_⟩
      change bN _ _ _ _ _ _ _ _ _ (w6'.alloc (.cells (([.slice none 0 0] : List Value)).toArray 61))
      generalize w6'.alloc (.cells (([.slice none 0 0] : List Value)).toArray 61) = w64' at *
      generalize w6'.heap.size = x5 at *
      go_simp
      refine cB (i := 1) (k := 4) (by kernel_rfl) ?_ ?_
      · refine aM rfl rfl ?_
        go_simp
        (with_reducible refine (SE.out w64' Q.out).mono ?_)
        rintro ew66' w66' ⟨A1, c1, rfl, RA, FRA, qw66'⟩
        have O_RA_B := aA (show dZ A1 (aX n.sends).length w.heap.size from aW FRA (aH B.out))
        have O_RA_C := aA (show dZ A1 (aX n.sends).length y from aW FRA (aH C.out))
        have O_RA_X5 := aA (show dZ A1 (aX n.sends).length x5 from aW FRA (aH X5.out))
        replace B := aA (aB B.out qw66')
        replace C := aA (aB C.out qw66')
        replace X5 := aA (aB X5.out qw66')
        replace Q := aA (aC Q.out Q.out.size qw66')
        clear qw66'
        replace RA := aA (show Rd w66' w66'.heap.size A1 1 (aX n.sends) from RA)
        replace FRA := aA FRA
        go_simp
        refine ⟨aO (by kernel_rfl) (.cons (aL B.out 0 rfl) (.cons (aL B.out 0 rfl) .nil)), ?_⟩
        go_simp
        refine cB (i := 3) (k := 4) (by kernel_rfl) ?_ ?_
        · refine aM rfl rfl ?_
          go_simp
          (with_reducible refine (HE.out w66' Q.out).mono ?_)
          rintro ew67' w67' ⟨A2, c2, rfl, RB, FRB, qw67'⟩
          have O_RB_B := aA (show dZ A2 (aX n.hears).length w.heap.size from aW FRB (aH B.out))
          have O_RB_C := aA (show dZ A2 (aX n.hears).length y from aW FRB (aH C.out))
          have O_RB_X5 := aA (show dZ A2 (aX n.hears).length x5 from aW FRB (aH X5.out))
          replace B := aA (aB B.out qw67')
          replace C := aA (aB C.out qw67')
          replace X5 := aA (aB X5.out qw67')
          replace RA := aA (Rd.next RA.out qw67' qw67'.size)
          replace Q := aA (aC Q.out Q.out.size qw67')
          clear qw67'
          replace RB := aA (show Rd w67' w67'.heap.size A2 1 (aX n.hears) from RB)
          replace FRB := aA FRB
          go_simp
          refine ⟨aO (by kernel_rfl) (.cons (aL B.out 0 rfl) (.cons (aL B.out 0 rfl) .nil)), ?_⟩
          go_simp
          refine aI (i := 4) (by kernel_rfl) ?_
          refine aM rfl rfl ?_
          go_simp
          have X4 := aA (World.alloc_heap_new w67' (.cells (([.slice none 0 0] : List Value)).toArray 61))
          have zBx4 : w.heap.size < w67'.heap.size := aH B.out
          have zCx4 : y < w67'.heap.size := aH C.out
          have zX5x4 : x5 < w67'.heap.size := aH X5.out
          have O_RA_X4 := aA (cG (x := w67'.heap.size) RA.out (by omega))
          have O_RB_X4 := aA (cG (x := w67'.heap.size) RB.out (by omega))
          have zQx4 : w.heap.size ≤ w67'.heap.size := Q.out.size
          have q69' : Below w67'.heap.size w67' (w67'.alloc (.cells (([.slice none 0 0] : List Value)).toArray 61)) := (Below.refl _ _).alloc (Nat.le_refl _) _
          replace B := aA (aB B.out q69')
          replace C := aA (aB C.out q69')
          replace X5 := aA (aB X5.out q69')
          replace RA := aA (Rd.next RA.out q69' q69'.size)
          replace RB := aA (Rd.next RB.out q69' q69'.size)
          replace Q := aA (aC Q.out Q.out.size q69')
          clear q69'
          refine ⟨aO (by kernel_rfl) (.cons (aL B.out 0 rfl) (.cons (aL B.out 0 rfl) .nil)), ?_⟩
          change bN _ _ _ _ _ _ _ _ _ (w67'.alloc (.cells (([.slice none 0 0] : List Value)).toArray 61))
          generalize w67'.alloc (.cells (([.slice none 0 0] : List Value)).toArray 61) = w68' at *
          generalize w67'.heap.size = x4 at *
          go_simp
          refine aI (i := 6) (by kernel_rfl) ?_
          refine aM rfl rfl ?_
          have ⟨z0, z1⟩ := bE X4.out
          go_simp
          clear z0 z1
          refine ⟨aN (by kernel_rfl) (by kernel_rfl), ?_⟩
          go_simp
          obtain ⟨w70', ew70'⟩ : ∃ wq, wq = w68'.setCell ⟨x4, 0, none⟩ (.slice A1 n.sends.length c1) := ⟨_, rfl⟩
          rw [← ew70']
          replace B := aA (show w70'.heap[w.heap.size]? = some (.cells n.cs.toArray 53 (0, 0)) by rw [ew70']; exact aG (by omega) ([.slice A1 n.sends.length c1]) 0 _ B.out)
          replace C := aA (show w70'.heap[y]? = some (.cells n.cf.cs.toArray 25 (0, 0)) by rw [ew70']; exact aG (by omega) ([.slice A1 n.sends.length c1]) 0 _ C.out)
          replace X5 := aA (show w70'.heap[x5]? = some (.cells (([.slice none 0 0] : List Value)).toArray 61 (0, 0)) by rw [ew70']; exact aG (by omega) ([.slice A1 n.sends.length c1]) 0 _ X5.out)
          replace RA := aA (show Rd w70' w70'.heap.size A1 1 (aX n.sends) by rw [ew70']; exact bJ RA.out O_RA_X4.out ([.slice A1 n.sends.length c1]) 0)
          replace RB := aA (show Rd w70' w70'.heap.size A2 1 (aX n.hears) by rw [ew70']; exact bJ RB.out O_RB_X4.out ([.slice A1 n.sends.length c1]) 0)
          replace Q := aA (show Below w.heap.size w w70' by rw [ew70']; exact Q.out.trans (aE ([.slice A1 n.sends.length c1]) 0 _ (by omega)))
          replace X4 := aA (show w70'.heap[x4]? = some (.cells (([.slice A1 n.sends.length c1] : List Value)).toArray 61 (0, 0)) by rw [ew70']; exact aU ([.slice A1 n.sends.length c1]) (([.slice none 0 0] : List Value)) 0 _ X4.out)
          clear ew70'
          refine aI (i := 7) (by kernel_rfl) ?_
          refine aM rfl rfl ?_
          have ⟨z0, z1⟩ := bE X5.out
          go_simp
          clear z0 z1
          refine ⟨aN (by kernel_rfl) (by kernel_rfl), ?_⟩
          go_simp
          obtain ⟨w71', ew71'⟩ : ∃ wq, wq = w70'.setCell ⟨x5, 0, none⟩ (.slice A2 n.hears.length c2) := ⟨_, rfl⟩
          rw [← ew71']
          replace B := aA (show w71'.heap[w.heap.size]? = some (.cells n.cs.toArray 53 (0, 0)) by rw [ew71']; exact aG (by omega) ([.slice A2 n.hears.length c2]) 0 _ B.out)
          replace C := aA (show w71'.heap[y]? = some (.cells n.cf.cs.toArray 25 (0, 0)) by rw [ew71']; exact aG (by omega) ([.slice A2 n.hears.length c2]) 0 _ C.out)
          replace X4 := aA (show w71'.heap[x4]? = some (.cells (([.slice A1 n.sends.length c1] : List Value)).toArray 61 (0, 0)) by rw [ew71']; exact aG (by omega) ([.slice A2 n.hears.length c2]) 0 _ X4.out)
          replace RA := aA (show Rd w71' w71'.heap.size A1 1 (aX n.sends) by rw [ew71']; exact bJ RA.out O_RA_X5.out ([.slice A2 n.hears.length c2]) 0)
          replace RB := aA (show Rd w71' w71'.heap.size A2 1 (aX n.hears) by rw [ew71']; exact bJ RB.out O_RB_X5.out ([.slice A2 n.hears.length c2]) 0)
          replace Q := aA (show Below w.heap.size w w71' by rw [ew71']; exact Q.out.trans (aE ([.slice A2 n.hears.length c2]) 0 _ (by omega)))
          replace X5 := aA (show w71'.heap[x5]? = some (.cells (([.slice A2 n.hears.length c2] : List Value)).toArray 61 (0, 0)) by rw [ew71']; exact aU ([.slice A2 n.hears.length c2]) (([.slice none 0 0] : List Value)) 0 _ X5.out)
          clear ew71'
          refine aS (by kernel_rfl) ?_ _
          go_wp2_with fail
          go_meet
          exact ⟨x4, x5, A1, c1, A2, c2, rfl, rfl, X4, X5, RA, RB, B, C, Q⟩
        · refine aM rfl rfl ?_
          go_simp
          have X4 := aA (World.alloc_heap_new w66' (.cells (([.slice none 0 0] : List Value)).toArray 61))
          have zBx4 : w.heap.size < w66'.heap.size := aH B.out
          have zCx4 : y < w66'.heap.size := aH C.out
          have zX5x4 : x5 < w66'.heap.size := aH X5.out
          have O_RA_X4 := aA (cG (x := w66'.heap.size) RA.out (by omega))
          have zQx4 : w.heap.size ≤ w66'.heap.size := Q.out.size
          have q73' : Below w66'.heap.size w66' (w66'.alloc (.cells (([.slice none 0 0] : List Value)).toArray 61)) := (Below.refl _ _).alloc (Nat.le_refl _) _
          replace B := aA (aB B.out q73')
          replace C := aA (aB C.out q73')
          replace X5 := aA (aB X5.out q73')
          replace RA := aA (Rd.next RA.out q73' q73'.size)
          replace Q := aA (aC Q.out Q.out.size q73')
          clear q73'
          refine ⟨aO (by kernel_rfl) (.cons (aL B.out 0 rfl) (.cons (aL B.out 0 rfl) .nil)), ?_⟩
          change bN _ _ _ _ _ _ _ _ _ (w66'.alloc (.cells (([.slice none 0 0] : List Value)).toArray 61))
          generalize w66'.alloc (.cells (([.slice none 0 0] : List Value)).toArray 61) = w72' at *
          generalize w66'.heap.size = x4 at *
          go_simp
          refine aI (i := 3) (by kernel_rfl) ?_
          refine aM rfl rfl ?_
          go_simp
          (with_reducible refine (HE.out w72' Q.out).mono ?_)
          rintro ew74' w74' ⟨A2, c2, rfl, RB, FRB, qw74'⟩
          have O_RB_B := aA (show dZ A2 (aX n.hears).length w.heap.size from aW FRB (aH B.out))
          have O_RB_C := aA (show dZ A2 (aX n.hears).length y from aW FRB (aH C.out))
          have O_RB_X5 := aA (show dZ A2 (aX n.hears).length x5 from aW FRB (aH X5.out))
          have O_RB_X4 := aA (show dZ A2 (aX n.hears).length x4 from aW FRB (aH X4.out))
          replace B := aA (aB B.out qw74')
          replace C := aA (aB C.out qw74')
          replace X5 := aA (aB X5.out qw74')
          replace X4 := aA (aB X4.out qw74')
          replace RA := aA (Rd.next RA.out qw74' qw74'.size)
          replace Q := aA (aC Q.out Q.out.size qw74')
          clear qw74'
          replace RB := aA (show Rd w74' w74'.heap.size A2 1 (aX n.hears) from RB)
          replace FRB := aA FRB
          go_simp
          refine ⟨aO (by kernel_rfl) (.cons (aL B.out 0 rfl) (.cons (aL B.out 0 rfl) .nil)), ?_⟩
          go_simp
          refine aI (i := 6) (by kernel_rfl) ?_
          refine aM rfl rfl ?_
          have ⟨z0, z1⟩ := bE X4.out
          go_simp
          clear z0 z1
          refine ⟨aN (by kernel_rfl) (by kernel_rfl), ?_⟩
          go_simp
          obtain ⟨w75', ew75'⟩ : ∃ wq, wq = w74'.setCell ⟨x4, 0, none⟩ (.slice A1 n.sends.length c1) := ⟨_, rfl⟩
          rw [← ew75']
          replace B := aA (show w75'.heap[w.heap.size]? = some (.cells n.cs.toArray 53 (0, 0)) by rw [ew75']; exact aG (by omega) ([.slice A1 n.sends.length c1]) 0 _ B.out)
          replace C := aA (show w75'.heap[y]? = some (.cells n.cf.cs.toArray 25 (0, 0)) by rw [ew75']; exact aG (by omega) ([.slice A1 n.sends.length c1]) 0 _ C.out)
          replace X5 := aA (show w75'.heap[x5]? = some (.cells (([.slice none 0 0] : List Value)).toArray 61 (0, 0)) by rw [ew75']; exact aG (by omega) ([.slice A1 n.sends.length c1]) 0 _ X5.out)
          replace RA := aA (show Rd w75' w75'.heap.size A1 1 (aX n.sends) by rw [ew75']; exact bJ RA.out O_RA_X4.out ([.slice A1 n.sends.length c1]) 0)
          replace RB := aA (show Rd w75' w75'.heap.size A2 1 (aX n.hears) by rw [ew75']; exact bJ RB.out O_RB_X4.out ([.slice A1 n.sends.length c1]) 0)
          replace Q := aA (show Below w.heap.size w w75' by rw [ew75']; exact Q.out.trans (aE ([.slice A1 n.sends.length c1]) 0 _ (by omega)))
          replace X4 := aA (show w75'.heap[x4]? = some (.cells (([.slice A1 n.sends.length c1] : List Value)).toArray 61 (0, 0)) by rw [ew75']; exact aU ([.slice A1 n.sends.length c1]) (([.slice none 0 0] : List Value)) 0 _ X4.out)
          clear ew75'
          refine aI (i := 7) (by kernel_rfl) ?_
          refine aM rfl rfl ?_
          have ⟨z0, z1⟩ := bE X5.out
          go_simp
          clear z0 z1
          refine ⟨aN (by kernel_rfl) (by kernel_rfl), ?_⟩
          go_simp
          obtain ⟨w76', ew76'⟩ : ∃ wq, wq = w75'.setCell ⟨x5, 0, none⟩ (.slice A2 n.hears.length c2) := ⟨_, rfl⟩
          rw [← ew76']
          replace B := aA (show w76'.heap[w.heap.size]? = some (.cells n.cs.toArray 53 (0, 0)) by rw [ew76']; exact aG (by omega) ([.slice A2 n.hears.length c2]) 0 _ B.out)
          replace C := aA (show w76'.heap[y]? = some (.cells n.cf.cs.toArray 25 (0, 0)) by rw [ew76']; exact aG (by omega) ([.slice A2 n.hears.length c2]) 0 _ C.out)
          replace X4 := aA (show w76'.heap[x4]? = some (.cells (([.slice A1 n.sends.length c1] : List Value)).toArray 61 (0, 0)) by rw [ew76']; exact aG (by omega) ([.slice A2 n.hears.length c2]) 0 _ X4.out)
          replace RA := aA (show Rd w76' w76'.heap.size A1 1 (aX n.sends) by rw [ew76']; exact bJ RA.out O_RA_X5.out ([.slice A2 n.hears.length c2]) 0)
          replace RB := aA (show Rd w76' w76'.heap.size A2 1 (aX n.hears) by rw [ew76']; exact bJ RB.out O_RB_X5.out ([.slice A2 n.hears.length c2]) 0)
          replace Q := aA (show Below w.heap.size w w76' by rw [ew76']; exact Q.out.trans (aE ([.slice A2 n.hears.length c2]) 0 _ (by omega)))
          replace X5 := aA (show w76'.heap[x5]? = some (.cells (([.slice A2 n.hears.length c2] : List Value)).toArray 61 (0, 0)) by rw [ew76']; exact aU ([.slice A2 n.hears.length c2]) (([.slice none 0 0] : List Value)) 0 _ X5.out)
          clear ew76'
          refine aS (by kernel_rfl) ?_ _
          go_wp2_with fail
          go_meet
          exact ⟨x4, x5, A1, c1, A2, c2, rfl, rfl, X4, X5, RA, RB, B, C, Q⟩
      · refine aM rfl rfl ?_
        go_simp
        have X4 := aA (World.alloc_heap_new w64' (.cells (([.slice none 0 0] : List Value)).toArray 61))
        have zBx4 : w.heap.size < w64'.heap.size := aH B.out
        have zCx4 : y < w64'.heap.size := aH C.out
        have zX5x4 : x5 < w64'.heap.size := aH X5.out
        have zQx4 : w.heap.size ≤ w64'.heap.size := Q.out.size
        have q78' : Below w64'.heap.size w64' (w64'.alloc (.cells (([.slice none 0 0] : List Value)).toArray 61)) := (Below.refl _ _).alloc (Nat.le_refl _) _
        replace B := aA (aB B.out q78')
        replace C := aA (aB C.out q78')
        replace X5 := aA (aB X5.out q78')
        replace Q := aA (aC Q.out Q.out.size q78')
        clear q78'
        refine ⟨aO (by kernel_rfl) (.cons (aL B.out 0 rfl) (.cons (aL B.out 0 rfl) .nil)), ?_⟩
        change bN _ _ _ _ _ _ _ _ _ (w64'.alloc (.cells (([.slice none 0 0] : List Value)).toArray 61))
        generalize w64'.alloc (.cells (([.slice none 0 0] : List Value)).toArray 61) = w77' at *
        generalize w64'.heap.size = x4 at *
        go_simp
        refine aI (i := 1) (by kernel_rfl) ?_
        refine aM rfl rfl ?_
        go_simp
        (with_reducible refine (SE.out w77' Q.out).mono ?_)
        rintro ew79' w79' ⟨A1, c1, rfl, RA, FRA, qw79'⟩
        have O_RA_B := aA (show dZ A1 (aX n.sends).length w.heap.size from aW FRA (aH B.out))
        have O_RA_C := aA (show dZ A1 (aX n.sends).length y from aW FRA (aH C.out))
        have O_RA_X5 := aA (show dZ A1 (aX n.sends).length x5 from aW FRA (aH X5.out))
        have O_RA_X4 := aA (show dZ A1 (aX n.sends).length x4 from aW FRA (aH X4.out))
        replace B := aA (aB B.out qw79')
        replace C := aA (aB C.out qw79')
        replace X5 := aA (aB X5.out qw79')
        replace X4 := aA (aB X4.out qw79')
        replace Q := aA (aC Q.out Q.out.size qw79')
        clear qw79'
        replace RA := aA (show Rd w79' w79'.heap.size A1 1 (aX n.sends) from RA)
        replace FRA := aA FRA
        go_simp
        refine ⟨aO (by kernel_rfl) (.cons (aL B.out 0 rfl) (.cons (aL B.out 0 rfl) .nil)), ?_⟩
        go_simp
        refine aI (i := 3) (by kernel_rfl) ?_
        refine aM rfl rfl ?_
        go_simp
        (with_reducible refine (HE.out w79' Q.out).mono ?_)
        rintro ew80' w80' ⟨A2, c2, rfl, RB, FRB, qw80'⟩
        have O_RB_B := aA (show dZ A2 (aX n.hears).length w.heap.size from aW FRB (aH B.out))
        have O_RB_C := aA (show dZ A2 (aX n.hears).length y from aW FRB (aH C.out))
        have O_RB_X5 := aA (show dZ A2 (aX n.hears).length x5 from aW FRB (aH X5.out))
        have O_RB_X4 := aA (show dZ A2 (aX n.hears).length x4 from aW FRB (aH X4.out))
        replace B := aA (aB B.out qw80')
        replace C := aA (aB C.out qw80')
        replace X5 := aA (aB X5.out qw80')
        replace X4 := aA (aB X4.out qw80')
        replace RA := aA (Rd.next RA.out qw80' qw80'.size)
        replace Q := aA (aC Q.out Q.out.size qw80')
        clear qw80'
        replace RB := aA (show Rd w80' w80'.heap.size A2 1 (aX n.hears) from RB)
        replace FRB := aA FRB
        go_simp
        refine ⟨aO (by kernel_rfl) (.cons (aL B.out 0 rfl) (.cons (aL B.out 0 rfl) .nil)), ?_⟩
        go_simp
        refine aI (i := 6) (by kernel_rfl) ?_
        refine aM rfl rfl ?_
        have ⟨z0, z1⟩ := bE X4.out
        go_simp
        clear z0 z1
        refine ⟨aN (by kernel_rfl) (by kernel_rfl), ?_⟩
        go_simp
        obtain ⟨w81', ew81'⟩ : ∃ wq, wq = w80'.setCell ⟨x4, 0, none⟩ (.slice A1 n.sends.length c1) := ⟨_, rfl⟩
        rw [← ew81']
        replace B := aA (show w81'.heap[w.heap.size]? = some (.cells n.cs.toArray 53 (0, 0)) by rw [ew81']; exact aG (by omega) ([.slice A1 n.sends.length c1]) 0 _ B.out)
        replace C := aA (show w81'.heap[y]? = some (.cells n.cf.cs.toArray 25 (0, 0)) by rw [ew81']; exact aG (by omega) ([.slice A1 n.sends.length c1]) 0 _ C.out)
        replace X5 := aA (show w81'.heap[x5]? = some (.cells (([.slice none 0 0] : List Value)).toArray 61 (0, 0)) by rw [ew81']; exact aG (by omega) ([.slice A1 n.sends.length c1]) 0 _ X5.out)
        replace RA := aA (show Rd w81' w81'.heap.size A1 1 (aX n.sends) by rw [ew81']; exact bJ RA.out O_RA_X4.out ([.slice A1 n.sends.length c1]) 0)
        replace RB := aA (show Rd w81' w81'.heap.size A2 1 (aX n.hears) by rw [ew81']; exact bJ RB.out O_RB_X4.out ([.slice A1 n.sends.length c1]) 0)
        replace Q := aA (show Below w.heap.size w w81' by rw [ew81']; exact Q.out.trans (aE ([.slice A1 n.sends.length c1]) 0 _ (by omega)))
        replace X4 := aA (show w81'.heap[x4]? = some (.cells (([.slice A1 n.sends.length c1] : List Value)).toArray 61 (0, 0)) by rw [ew81']; exact aU ([.slice A1 n.sends.length c1]) (([.slice none 0 0] : List Value)) 0 _ X4.out)
        clear ew81'
        refine aI (i := 7) (by kernel_rfl) ?_
        refine aM rfl rfl ?_
        have ⟨z0, z1⟩ := bE X5.out
        go_simp
        clear z0 z1
        refine ⟨aN (by kernel_rfl) (by kernel_rfl), ?_⟩
        go_simp
        obtain ⟨w82', ew82'⟩ : ∃ wq, wq = w81'.setCell ⟨x5, 0, none⟩ (.slice A2 n.hears.length c2) := ⟨_, rfl⟩
        rw [← ew82']
        replace B := aA (show w82'.heap[w.heap.size]? = some (.cells n.cs.toArray 53 (0, 0)) by rw [ew82']; exact aG (by omega) ([.slice A2 n.hears.length c2]) 0 _ B.out)
        replace C := aA (show w82'.heap[y]? = some (.cells n.cf.cs.toArray 25 (0, 0)) by rw [ew82']; exact aG (by omega) ([.slice A2 n.hears.length c2]) 0 _ C.out)
        replace X4 := aA (show w82'.heap[x4]? = some (.cells (([.slice A1 n.sends.length c1] : List Value)).toArray 61 (0, 0)) by rw [ew82']; exact aG (by omega) ([.slice A2 n.hears.length c2]) 0 _ X4.out)
        replace RA := aA (show Rd w82' w82'.heap.size A1 1 (aX n.sends) by rw [ew82']; exact bJ RA.out O_RA_X5.out ([.slice A2 n.hears.length c2]) 0)
        replace RB := aA (show Rd w82' w82'.heap.size A2 1 (aX n.hears) by rw [ew82']; exact bJ RB.out O_RB_X5.out ([.slice A2 n.hears.length c2]) 0)
        replace Q := aA (show Below w.heap.size w w82' by rw [ew82']; exact Q.out.trans (aE ([.slice A2 n.hears.length c2]) 0 _ (by omega)))
        replace X5 := aA (show w82'.heap[x5]? = some (.cells (([.slice A2 n.hears.length c2] : List Value)).toArray 61 (0, 0)) by rw [ew82']; exact aU ([.slice A2 n.hears.length c2]) (([.slice none 0 0] : List Value)) 0 _ X5.out)
        clear ew82'
        refine aS (by kernel_rfl) ?_ _
        go_wp2_with fail
        go_meet
        exact ⟨x4, x5, A1, c1, A2, c2, rfl, rfl, X4, X5, RA, RB, B, C, Q⟩
  case rest =>
  clear B C Q SE HE
  obtain ⟨x4, x5, A1, c1, A2, c2, rfl, rfl, X4, X5, RA, RB, B, C, Q⟩ := hcut
  have c9 := aZ B.out 9 (v := .slice n.oA n.os.length n.oc) rfl
  go_wp2_with fail
  clear c9
  (with_reducible refine (AO.out y x4 A1 c1 wc Q.out C.out X4.out RA.out).mono ?_)
  rintro ew83' w83' ⟨rfl, qw83'⟩
  replace B := aA (aB B.out qw83')
  replace C := aA (aB C.out qw83')
  replace X4 := aA (aB X4.out qw83')
  replace X5 := aA (aB X5.out qw83')
  replace RA := aA (Rd.next RA.out qw83' qw83'.size)
  replace RB := aA (Rd.next RB.out qw83' qw83'.size)
  replace Q := aA (aC Q.out Q.out.size qw83')
  clear qw83'
  clear AO
  have c10 := aZ B.out 10 (v := .slice n.iA n.is.length n.ic) rfl
  go_wp2_with fail
  clear c10
  (with_reducible refine (AI.out y x5 w.heap.size A2 c2 w83' Q.out C.out X5.out B.out RB.out).mono ?_)
  rintro ew84' w84' ⟨rfl, qw84'⟩
  replace B := aA (aB B.out qw84')
  replace C := aA (aB C.out qw84')
  replace X4 := aA (aB X4.out qw84')
  replace X5 := aA (aB X5.out qw84')
  replace RA := aA (Rd.next RA.out qw84' qw84'.size)
  replace RB := aA (Rd.next RB.out qw84' qw84'.size)
  replace Q := aA (aC Q.out Q.out.size qw84')
  clear qw84'
  clear AI
  clear RA
  clear RB
  clear X4
  clear X5
  go_wp2_with (refine cI (by kernel_rfl) 39 (.tmp 47) (by rfl) w.heap.size 11 (by rfl) (n.ctl.cs) _ (by exact aL B.out 11 rfl) Tryz.underlying39 (by rfl) (by kernel_rfl) ?_)
  (with_reducible refine (ctlRight_ok n.ctl w84' HH.out.ctl).mono ?_)
  rintro ew85' w85' ⟨rfl, qw85'⟩
  replace B := aA (aB B.out qw85')
  replace C := aA (aB C.out qw85')
  replace Q := aA (aC Q.out Q.out.size qw85')
  clear qw85'
  go_wp2_with (refine cI (by kernel_rfl) 44 (.tmp 53) (by rfl) w.heap.size 34 (by rfl) (n.fi.cs) _ (by exact aL B.out 34 rfl) Tryz.underlying44 (by rfl) (by kernel_rfl) ?_)
  (with_reducible refine (cnRight_ok n.fi w85' (HO.out.next Q.out).fi).mono ?_)
  rintro ew86' w86' ⟨rfl, qw86'⟩
  replace B := aA (aB B.out qw86')
  replace C := aA (aB C.out qw86')
  replace Q := aA (aC Q.out Q.out.size qw86')
  clear qw86'
  have TV := aA (fun W => show Calls Tryz.prog 46 #[.agg (bD n.tv).toArray] W fun e w' => e = .returned (.bool true) ∧ Below W.heap.size W w' from by
    have k := gR n.tv W
    rwa [HH.out.tv] at k)
  go_wp2_with (refine cI (by kernel_rfl) 27 (.tmp 59) (by rfl) w.heap.size 41 (by rfl) (bD n.tv) _ (by exact aL B.out 41 rfl) Tryz.underlying27 (by rfl) (by kernel_rfl) ?_)
  (with_reducible refine (TV.out w86').mono ?_)
  rintro ew87' w87' ⟨rfl, qw87'⟩
  replace B := aA (aB B.out qw87')
  replace C := aA (aB C.out qw87')
  replace Q := aA (aC Q.out Q.out.size qw87')
  clear qw87'
  go_wp2_with (refine cI (by kernel_rfl) 47 (.tmp 65) (by rfl) w.heap.size 54 (by rfl) (bO n.pn) _ (by exact aL B.out 54 rfl) Tryz.underlying47 (by rfl) (by kernel_rfl) ?_)
  (with_reducible refine (gG n.pn w87' HH.out.pn).mono ?_)
  rintro ew88' w88' ⟨rfl, qw88'⟩
  replace B := aA (aB B.out qw88')
  replace C := aA (aB C.out qw88')
  replace Q := aA (aC Q.out Q.out.size qw88')
  clear qw88'
  go_wp2_with (refine cI (by kernel_rfl) 49 (.tmp 71) (by rfl) w.heap.size 73 (by rfl) (bR n.nm) _ (by exact aL B.out 73 rfl) Tryz.underlying49 (by rfl) (by kernel_rfl) ?_)
  (with_reducible refine (kF n.nm w88' HH.out.nm).mono ?_)
  rintro ew89' w89' ⟨rfl, qw89'⟩
  replace B := aA (aB B.out qw89')
  replace C := aA (aB C.out qw89')
  replace Q := aA (aC Q.out Q.out.size qw89')
  clear qw89'
  have SM := aA (fun W => show Calls Tryz.prog 49 #[.agg (bW n.sm).toArray] W fun e w' => e = .returned (.bool true) ∧ Below W.heap.size W w' from by
    have k := fL n.sm W
    rwa [HH.out.sm] at k)
  go_wp2_with (refine cI (by kernel_rfl) 51 (.tmp 77) (by rfl) w.heap.size 83 (by rfl) (bW n.sm) _ (by exact aL B.out 83 rfl) Tryz.underlying51 (by rfl) (by kernel_rfl) ?_)
  (with_reducible refine (SM.out w89').mono ?_)
  rintro ew90' w90' ⟨rfl, qw90'⟩
  replace B := aA (aB B.out qw90')
  replace C := aA (aB C.out qw90')
  replace Q := aA (aC Q.out Q.out.size qw90')
  clear qw90'
  obtain ⟨_, _, _, d3, d4, d5, d6, _⟩ := bL C.out
  obtain ⟨m1, m2, m3, m4⟩ := HH.out.m
  obtain ⟨s1, s2, s3⟩ := HH.out.s
  have c79 := aZ B.out 79 (v := .int .i64 n.nm.rep) rfl
  have c80 := aZ B.out 80 (v := .int .i64 n.nm.cyc) rfl
  have c81 := aZ B.out 81 (v := .int .i64 n.nm.hrd) rfl
  have c82 := aZ B.out 82 (v := .int .i64 n.nm.wt) rfl
  have c87 := aZ B.out 87 (v := .int .i64 n.sm.fast) rfl
  have c88 := aZ B.out 88 (v := .int .i64 n.sm.many) rfl
  have c89 := aZ B.out 89 (v := .int .i64 n.sm.slow) rfl
  rw [m1] at c79
  rw [m2] at c80
  rw [m3] at c81
  rw [m4] at c82
  rw [s1] at c87
  rw [s2] at c88
  rw [s3] at c89
  clear m1 m2 m3 m4 s1 s2 s3
  have f0 : (n.cf.rep != n.cf.rep) = false := by simp
  have f1 : (n.cf.cycle != n.cf.cycle) = false := by simp
  have f2 : (n.cf.heard != n.cf.heard) = false := by simp
  have f3 : (n.cf.wait != n.cf.wait) = false := by simp
  go_upto_region 11 with fail
  clear c79 c80 c81 c82 c87 c88 c89 d3 d4 d5 d6 f0 f1 f2 f3
  have g1 : (n.sm.wants == n.up) = true := by rw [HH.out.e1]; simp
  have g2 : ((n.tv.mode == 1) == n.up) = true := by rw [HH.out.e2]; simp
  have g3 : (n.fi.on == (n.sm.st == 1)) = true := by rw [HH.out.e3]; simp
  have g4 : (n.nm.wants == (n.pn.own != 0)) = true := by rw [HH.out.e4]; simp
  refine bB [0, 1, 2, 3, 5, 6, 7, 8, 9, 10, 11, 13, 14, 15, 16, 17, 18, 19, 20, 21, 22, 23, 24, 25, 26, 27, 28, 29, 30, 31, 32, 33, 34] [(2, fun W => W.cell? ⟨w.heap.size, 84, none⟩ = some (.bool n.sm.wants)), (3, fun W => W.rangeAt w.heap.size 0 n.cs), (9, fun W => W.cell? ⟨w.heap.size, 48, none⟩ = some (.int .i64 n.tv.mode)), (11, fun W => W.rangeAt w.heap.size 0 n.cs), (18, fun W => W.cell? ⟨w.heap.size, 38, none⟩ = some (.bool n.fi.on)), (21, fun W => W.cell? ⟨w.heap.size, 83, none⟩ = some (.int .i64 n.sm.st)), (28, fun W => W.cell? ⟨w.heap.size, 74, none⟩ = some (.bool n.nm.wants)), (31, fun W => W.cell? ⟨w.heap.size, 55, none⟩ = some (.int .u16 n.pn.own))] (by kernel_rfl) ?_
  replace B := aA (show w90'.drew.heap[w.heap.size]? = some (.cells n.cs.toArray 53 (0, 0)) from B.out)
  replace C := aA (show w90'.drew.heap[y]? = some (.cells n.cf.cs.toArray 25 (0, 0)) from C.out)
  replace Q := aA (show Below w.heap.size w w90'.drew from Q.out.drew)
  generalize w90'.drew = w91' at *
  refine aD (i := 0) (v := .pointer (some ⟨w.heap.size, 83, none⟩)) rfl rfl (by kernel_rfl) (by kernel_rfl) (by kernel_rfl) (by kernel_rfl) (by kernel_rfl) (fun _ _ _ h => h) rfl (fun W => by go_simp) ?_
  go_simp
  refine aD (i := 1) (v := .pointer (some ⟨w.heap.size, 84, none⟩)) rfl rfl (by kernel_rfl) (by kernel_rfl) (by kernel_rfl) (by kernel_rfl) (by kernel_rfl) (fun _ _ _ h => h) rfl (fun W => by go_simp) ?_
  go_simp
  refine aQ (i := 2) (v := .bool n.sm.wants) rfl rfl (by kernel_rfl) (by kernel_rfl) (by kernel_rfl) (by kernel_rfl) (by kernel_rfl) (fun _ _ _ h => h) rfl (fun W h => by go_simp) (aZ B.out 84 (v := .bool n.sm.wants) rfl) ?_
  go_simp
  refine aQ (i := 3) (v := .agg n.cs.toArray) rfl rfl (by kernel_rfl) (by kernel_rfl) (by kernel_rfl) (by kernel_rfl) (by kernel_rfl) (fun _ _ _ h => h) rfl (fun W h => bQ W w.heap.size 0 53 n.cs _ h Tryz.underlying53 rfl (by kernel_rfl) _ _ (.tmp 1) (by rfl) (by rfl)) (aL B.out 0 rfl) ?_
  go_simp
  refine aI (i := 4) (by kernel_rfl) ?_
  refine aM rfl rfl ?_
  go_simp
  (with_reducible refine (UP.out w91').mono ?_)
  rintro ew92' w92' ⟨rfl, qw92'⟩
  replace B := aA (aB B.out qw92')
  replace C := aA (aB C.out qw92')
  replace Q := aA (aC Q.out Q.out.size qw92')
  clear qw92'
  go_simp
  refine ⟨aO (by kernel_rfl) (.cons (aZ B.out 84 (v := .bool n.sm.wants) rfl) (.cons (aL B.out 0 rfl) (.cons (aZ B.out 48 (v := .int .i64 n.tv.mode) rfl) (.cons (aL B.out 0 rfl) (.cons (aZ B.out 38 (v := .bool n.fi.on) rfl) (.cons (aZ B.out 83 (v := .int .i64 n.sm.st) rfl) (.cons (aZ B.out 74 (v := .bool n.nm.wants) rfl) (.cons (aZ B.out 55 (v := .int .u16 n.pn.own) rfl) .nil)))))))), ?_⟩
  go_simp
  refine aD (i := 5) (v := .bool true) rfl rfl (by kernel_rfl) (by kernel_rfl) (by kernel_rfl) (by kernel_rfl) (by kernel_rfl) (fun _ _ _ h => h) rfl (fun W => by go_simp) ?_
  go_simp
  refine aD (i := 6) (v := .bool true) rfl rfl (by kernel_rfl) (by kernel_rfl) (by kernel_rfl) (by kernel_rfl) (by kernel_rfl) (fun _ _ _ h => h) rfl (fun W => by go_simp) ?_
  go_simp
  refine aR (i := 7) (v := .pointer (some ⟨w.heap.size, 41, none⟩)) rfl rfl (by kernel_rfl) (by kernel_rfl) (by kernel_rfl) (by kernel_rfl) (by kernel_rfl) (fun _ _ _ h => h) (by kernel_rfl) (fun W => by go_simp) ?_
  go_simp
  refine aR (i := 8) (v := .pointer (some ⟨w.heap.size, 48, none⟩)) rfl rfl (by kernel_rfl) (by kernel_rfl) (by kernel_rfl) (by kernel_rfl) (by kernel_rfl) (fun _ _ _ h => h) (by kernel_rfl) (fun W => by go_simp) ?_
  go_simp
  refine bC (i := 9) (v := .int .i64 n.tv.mode) rfl rfl (by kernel_rfl) (by kernel_rfl) (by kernel_rfl) (by kernel_rfl) (by kernel_rfl) (fun _ _ _ h => h) (by kernel_rfl) (fun W h => by go_simp) (aZ B.out 48 (v := .int .i64 n.tv.mode) rfl) ?_
  go_simp
  refine aR (i := 10) (v := .bool (n.tv.mode == 1)) rfl rfl (by kernel_rfl) (by kernel_rfl) (by kernel_rfl) (by kernel_rfl) (by kernel_rfl) (fun _ _ _ h => h) (by kernel_rfl) (fun W => by go_simp) ?_
  go_simp
  refine bC (i := 11) (v := .agg n.cs.toArray) rfl rfl (by kernel_rfl) (by kernel_rfl) (by kernel_rfl) (by kernel_rfl) (by kernel_rfl) (fun _ _ _ h => h) (by kernel_rfl) (fun W h => bQ W w.heap.size 0 53 n.cs _ h Tryz.underlying53 rfl (by kernel_rfl) _ _ (.tmp 1) (by rfl) (by rfl)) (aL B.out 0 rfl) ?_
  go_simp
  refine aI (i := 12) (by kernel_rfl) ?_
  refine dL rfl (by kernel_rfl) ?_
  go_simp
  (with_reducible refine (UP.out w92').mono ?_)
  rintro ew93' w93' ⟨rfl, qw93'⟩
  replace B := aA (aB B.out qw93')
  replace C := aA (aB C.out qw93')
  replace Q := aA (aC Q.out Q.out.size qw93')
  clear qw93'
  go_simp
  refine ⟨aO (by kernel_rfl) (.cons (aZ B.out 84 (v := .bool n.sm.wants) rfl) (.cons (aL B.out 0 rfl) (.cons (aZ B.out 48 (v := .int .i64 n.tv.mode) rfl) (.cons (aL B.out 0 rfl) (.cons (aZ B.out 38 (v := .bool n.fi.on) rfl) (.cons (aZ B.out 83 (v := .int .i64 n.sm.st) rfl) (.cons (aZ B.out 74 (v := .bool n.nm.wants) rfl) (.cons (aZ B.out 55 (v := .int .u16 n.pn.own) rfl) .nil)))))))), ?_⟩
  go_simp
  refine aR (i := 13) (v := .bool true) rfl rfl (by kernel_rfl) (by kernel_rfl) (by kernel_rfl) (by kernel_rfl) (by kernel_rfl) (fun _ _ _ h => h) (by kernel_rfl) (fun W => by go_simp) ?_
  go_simp
  refine aD (i := 14) (v := .bool true) rfl rfl (by kernel_rfl) (by kernel_rfl) (by kernel_rfl) (by kernel_rfl) (by kernel_rfl) (fun _ _ _ h => h) rfl (fun W => by go_simp) ?_
  go_simp
  refine aD (i := 15) (v := .bool true) rfl rfl (by kernel_rfl) (by kernel_rfl) (by kernel_rfl) (by kernel_rfl) (by kernel_rfl) (fun _ _ _ h => h) rfl (fun W => by go_simp) ?_
  go_simp
  refine aR (i := 16) (v := .pointer (some ⟨w.heap.size, 34, none⟩)) rfl rfl (by kernel_rfl) (by kernel_rfl) (by kernel_rfl) (by kernel_rfl) (by kernel_rfl) (fun _ _ _ h => h) (by kernel_rfl) (fun W => by go_simp) ?_
  go_simp
  refine aR (i := 17) (v := .pointer (some ⟨w.heap.size, 38, none⟩)) rfl rfl (by kernel_rfl) (by kernel_rfl) (by kernel_rfl) (by kernel_rfl) (by kernel_rfl) (fun _ _ _ h => h) (by kernel_rfl) (fun W => by go_simp) ?_
  go_simp
  refine bC (i := 18) (v := .bool n.fi.on) rfl rfl (by kernel_rfl) (by kernel_rfl) (by kernel_rfl) (by kernel_rfl) (by kernel_rfl) (fun _ _ _ h => h) (by kernel_rfl) (fun W h => by go_simp) (aZ B.out 38 (v := .bool n.fi.on) rfl) ?_
  go_simp
  refine aR (i := 19) (v := .pointer (some ⟨w.heap.size, 83, none⟩)) rfl rfl (by kernel_rfl) (by kernel_rfl) (by kernel_rfl) (by kernel_rfl) (by kernel_rfl) (fun _ _ _ h => h) (by kernel_rfl) (fun W => by go_simp) ?_
  go_simp
  refine aR (i := 20) (v := .pointer (some ⟨w.heap.size, 83, none⟩)) rfl rfl (by kernel_rfl) (by kernel_rfl) (by kernel_rfl) (by kernel_rfl) (by kernel_rfl) (fun _ _ _ h => h) (by kernel_rfl) (fun W => by go_simp) ?_
  go_simp
  refine bC (i := 21) (v := .int .i64 n.sm.st) rfl rfl (by kernel_rfl) (by kernel_rfl) (by kernel_rfl) (by kernel_rfl) (by kernel_rfl) (fun _ _ _ h => h) (by kernel_rfl) (fun W h => by go_simp) (aZ B.out 83 (v := .int .i64 n.sm.st) rfl) ?_
  go_simp
  refine aR (i := 22) (v := .bool (n.sm.st == 1)) rfl rfl (by kernel_rfl) (by kernel_rfl) (by kernel_rfl) (by kernel_rfl) (by kernel_rfl) (fun _ _ _ h => h) (by kernel_rfl) (fun W => by go_simp) ?_
  go_simp
  refine aR (i := 23) (v := .bool true) rfl rfl (by kernel_rfl) (by kernel_rfl) (by kernel_rfl) (by kernel_rfl) (by kernel_rfl) (fun _ _ _ h => h) (by kernel_rfl) (fun W => by go_simp) ?_
  go_simp
  refine aD (i := 24) (v := .bool true) rfl rfl (by kernel_rfl) (by kernel_rfl) (by kernel_rfl) (by kernel_rfl) (by kernel_rfl) (fun _ _ _ h => h) rfl (fun W => by go_simp) ?_
  go_simp
  refine aD (i := 25) (v := .bool true) rfl rfl (by kernel_rfl) (by kernel_rfl) (by kernel_rfl) (by kernel_rfl) (by kernel_rfl) (fun _ _ _ h => h) rfl (fun W => by go_simp) ?_
  go_simp
  refine aR (i := 26) (v := .pointer (some ⟨w.heap.size, 73, none⟩)) rfl rfl (by kernel_rfl) (by kernel_rfl) (by kernel_rfl) (by kernel_rfl) (by kernel_rfl) (fun _ _ _ h => h) (by kernel_rfl) (fun W => by go_simp) ?_
  go_simp
  refine aR (i := 27) (v := .pointer (some ⟨w.heap.size, 74, none⟩)) rfl rfl (by kernel_rfl) (by kernel_rfl) (by kernel_rfl) (by kernel_rfl) (by kernel_rfl) (fun _ _ _ h => h) (by kernel_rfl) (fun W => by go_simp) ?_
  go_simp
  refine bC (i := 28) (v := .bool n.nm.wants) rfl rfl (by kernel_rfl) (by kernel_rfl) (by kernel_rfl) (by kernel_rfl) (by kernel_rfl) (fun _ _ _ h => h) (by kernel_rfl) (fun W h => by go_simp) (aZ B.out 74 (v := .bool n.nm.wants) rfl) ?_
  go_simp
  refine aR (i := 29) (v := .pointer (some ⟨w.heap.size, 54, none⟩)) rfl rfl (by kernel_rfl) (by kernel_rfl) (by kernel_rfl) (by kernel_rfl) (by kernel_rfl) (fun _ _ _ h => h) (by kernel_rfl) (fun W => by go_simp) ?_
  go_simp
  refine aR (i := 30) (v := .pointer (some ⟨w.heap.size, 55, none⟩)) rfl rfl (by kernel_rfl) (by kernel_rfl) (by kernel_rfl) (by kernel_rfl) (by kernel_rfl) (fun _ _ _ h => h) (by kernel_rfl) (fun W => by go_simp) ?_
  go_simp
  refine bC (i := 31) (v := .int .u16 n.pn.own) rfl rfl (by kernel_rfl) (by kernel_rfl) (by kernel_rfl) (by kernel_rfl) (by kernel_rfl) (fun _ _ _ h => h) (by kernel_rfl) (fun W h => by go_simp) (aZ B.out 55 (v := .int .u16 n.pn.own) rfl) ?_
  go_simp
  refine aR (i := 32) (v := .bool (n.pn.own != 0)) rfl rfl (by kernel_rfl) (by kernel_rfl) (by kernel_rfl) (by kernel_rfl) (by kernel_rfl) (fun _ _ _ h => h) (by kernel_rfl) (fun W => by go_simp) ?_
  go_simp
  refine aR (i := 33) (v := .bool true) rfl rfl (by kernel_rfl) (by kernel_rfl) (by kernel_rfl) (by kernel_rfl) (by kernel_rfl) (fun _ _ _ h => h) (by kernel_rfl) (fun W => by go_simp) ?_
  go_simp
  refine aD (i := 34) (v := .bool true) rfl rfl (by kernel_rfl) (by kernel_rfl) (by kernel_rfl) (by kernel_rfl) (by kernel_rfl) (fun _ _ _ h => h) rfl (fun W => by go_simp) ?_
  go_simp
  refine aI (i := 35) (by kernel_rfl) ?_
  refine aM rfl rfl ?_
  go_simp
  refine ⟨aN (by kernel_rfl) (by kernel_rfl), ?_⟩
  go_simp
  refine aS (by kernel_rfl) ?_ _
  go_wp2_with fail
  go_ret
  exact ⟨rfl, Q.out⟩
end Go.Proofs.YtkmddjbialpppaaGreatDoor
