/- The walk of campanilelaw08.BusCuts. -/
import Derived.Test.YtjfgapljfbkfiaaGreatDoorBuC
namespace Go.Proofs.YtjfgapljfbkfiaaGreatDoor
open Go.ChangeShapes Go.WideShapes Go.ChangeAt Go.RowKit
open FP (Fr)

set_option maxRecDepth 100000 in
set_option maxHeartbeats 64000000 in
theorem busCuts_walk (n : Int) (f : Fr) (a0 z0 : Int) (w : World) (hid : f.id < 4294967296) (hs : f.data.size ≤ maxLen) : Calls Tryz.prog 4 #[.int .i64 n, .agg (frc f).toArray, .int .i64 a0, .int .i64 z0] w fun e w' => e = .returned (.bool true) ∧ Below w.heap.size w w' := by
  obtain ⟨w0, hw0⟩ : ∃ w0, w0 = w.alloc (.cells (frc f).toArray 31) := ⟨_, rfl⟩
  have F := hide (World.alloc_heap_new w (.cells (frc f).toArray 31))
  have Q : Hid (Below w.heap.size w w0) := by rw [hw0]; exact hide ((Below.refl _ _).alloc (Nat.le_refl _) _)
  rw [← hw0] at F
  have FW := hide (fun W => few08_any f W hs)
  have hid2 : (cut8 f).id < 4294967296 := hid
  generalize cut8 f = g at *
  obtain ⟨M, hM⟩ : ∃ M, M = manyN n := ⟨_, rfl⟩
  have hm := many_le n
  have RY := hide (fun W => ready08_any n W)
  rw [← hM] at hm RY
  have hm2 := hm.1
  have hm4 := hm.2
  have hM2 : (2 : Int) ≤ (M : Int) := by omega
  clear hM hm hid hs
  have AL := hide (fun W => alive08_any W)
  obtain ⟨a1, ea1, ha1⟩ := run_max (P := Tryz.prog) a0 0
  obtain ⟨a2, ea2, ha2⟩ := run_min (P := Tryz.prog) a1 300
  obtain ⟨z1, ez1, hz1⟩ := run_max (P := Tryz.prog) z0 0
  obtain ⟨z2, ez2, hz2⟩ := run_min (P := Tryz.prog) z1 300
  obtain ⟨a, ha⟩ : ∃ a : Nat, a2 = a := ⟨a2.toNat, by omega⟩
  obtain ⟨z, hz⟩ : ∃ z : Nat, z2 = z := ⟨z2.toNat, by omega⟩
  subst ha hz
  have hla : a ≤ 300 := by omega
  have hlz : z ≤ 300 := by omega
  clear ea1 ea2 ez1 ez2
  obtain ⟨L0, hL0⟩ : ∃ L0, L0 = List.replicate M idleC := ⟨_, rfl⟩
  rw [← hL0] at RY
  have hlen0 : L0.length = M := by rw [hL0, List.length_replicate]
  have hok0 : AllOk L0 := by rw [hL0]; exact rep_ok idle_ok
  obtain ⟨L1, hL1⟩ : ∃ L1, L1 = subR L0 0 g := ⟨_, rfl⟩
  obtain ⟨E, hE⟩ : ∃ E, E = (L0.getD 0 zCl).subE g := ⟨_, rfl⟩
  have SU := hide (fun A c W (hr : Rd W W.heap.size A 23 (clRows L0)) => show Calls Tryz.prog 12 #[.agg (busL A M c 11).toArray, .int .i64 0, .agg (frc g).toArray] W fun e w' => ∃ A' c' now', e = .returned (.tuple #[.agg (busL A' L1.length c' now').toArray, .int .i64 E]) ∧ ClR w' w'.heap.size A' L1 ∧ Fresh W.heap.size A' ∧ (E = 0 → now' = 11) ∧ Below W.heap.size W w' from by
    have h := busSubmit_all L0 A c 11 0 g W hr (by omega) (by omega) (by omega) (by omega) hok0 hid2
    rw [← hL1, ← hE, hlen0] at h
    exact h)
  have HL := hide (fun (h : E = 0) => show AllOk L1 ∧ L1.length = M from by
    rw [hE] at h
    have e1 : L1 = subL L0 0 g := by rw [hL1]; exact if_pos h
    rw [e1]
    exact ⟨subL_ok hok0 (by omega) h, by unfold subL; rw [List.length_set, hlen0]⟩)
  have RU := hide (fun (L : List Cl) A c (now : Int) (k : Nat) W (hr : Rd W W.heap.size A 23 (clRows L)) (hok : AllOk L) (hl : L.length = M) (hn : 0 ≤ now ∧ now ≤ 1000) (hk : k ≤ 600) => show Calls Tryz.prog 14 #[.agg (busL A M c now).toArray, .int .i64 k] W fun e w' => ∃ A' c' E ec, e = .returned (.tuple #[.agg (busL A' M c' (now + k)).toArray, .slice E (snB L now k).length ec, .int .i64 0]) ∧ ClR w' w'.heap.size A' (itB L k) ∧ Own w' W.heap.size 46 9 E ec (snRows (snB L now k)) ∧ (Own w' W.heap.size 53 23 A' c' (clRows (itB L k)) ∨ k = 0 ∧ A' = A) ∧ Below W.heap.size W w' from by
    have h := busRun_ok L A c now k W hr (by omega) (by omega) hn.1 (by omega) (by omega) hok
    rw [hl] at h
    refine h.mono ?_
    rintro e w' ⟨A', c', E, ec, rfl, h1, h2, h3, h4⟩
    exact ⟨A', c', E, ec, rfl, h1, h2, h3, h4⟩)
  clear hL1 hE hL0
  go_enter Tryz.func4, Tryz.ntmps4
  go_upto_region 1 with fail
  change Code.wp _ _ _ _ (w.alloc (.cells (frc f).toArray 31))
  rw [← hw0]
  clear hw0
  go_wp2_with fail
  (with_reducible refine (RY.out _).mono ?_)
  rintro ew1' w1' ⟨A1, c1, rfl, C1, FC1, qw1'⟩
  have O_C1_F := hide (show Off A1 (clRows L0).length w.heap.size from off_fresh FC1 (heap_lt F.out))
  replace F := hide (heap_below F.out qw1')
  replace Q := hide (below_next Q.out Q.out.size qw1')
  clear qw1'
  replace C1 := hide (show Rd w1' w1'.heap.size A1 23 (clRows L0) from C1)
  replace FC1 := hide FC1
  clear RY
  have B := World.alloc_heap_new w1' (.cells (busL none 0 0 0).toArray 25)
  have zFy : w.heap.size < w1'.heap.size := heap_lt F.out
  have O_C1_B := hide (off_new (x := w1'.heap.size) C1.out (by omega))
  have zQy : w.heap.size ≤ w1'.heap.size := Q.out.size
  obtain ⟨w3', hw3'⟩ : ∃ wx, wx = w1'.alloc (.cells (busL none 0 0 0).toArray 25) := ⟨_, rfl⟩
  have q2' := hide (show Below w1'.heap.size w1' w3' by rw [hw3']; exact (Below.refl _ _).alloc (Nat.le_refl _) _)
  rw [← hw3'] at B
  replace B := hide B
  have Tw4' := hide (show (w1'.alloc (.cells (busL none 0 0 0).toArray 25)).there w1'.heap.size 0 2 by rw [← hw3']; exact there_heap (cs := busL none 0 0 0) B.out)
  go_wp2_with (refine wpList_store_hid (by rfl) 25 (.tmp 9) (.tmp 27) (by rfl) w1'.heap.size 0 (busL A1 M c1 11) (by rfl) (by rfl) (by exact Tw4'.out) (by kernel_rfl) (by simp [Value.oneCell', busL]) ?_)
  intro w4' ew4'
  replace ew4' : Hid (w4' = w3'.setCells w1'.heap.size 0 (busL A1 M c1 11)) := by rw [hw3']; exact ew4'
  replace B := hide (show w4'.heap[w1'.heap.size]? = some (.cells (busL A1 M c1 11).toArray 25 (0, 0)) by rw [ew4'.out]; exact whole_heap (busL A1 M c1 11) (xs := busL none 0 0 0) B.out rfl)
  replace q2' := hide (show Below w1'.heap.size w1' w4' by rw [ew4'.out]; exact q2'.out.trans (below_setCells _ _ _ (by omega)))
  clear ew4' Tw4' hw3'
  replace F := hide (heap_below F.out q2'.out)
  replace C1 := hide (Rd.next C1.out q2'.out q2'.out.size)
  replace Q := hide (below_next Q.out Q.out.size q2'.out)
  clear q2'
  generalize w1'.heap.size = y at *
  go_upto_region 2 with fail
  go_cut [11, 12] (fun v11 v12 W => ∃ x A2 c2 n2, v11 = .pointer (some ⟨x, 0, none⟩) ∧ v12 = .int .i64 E ∧ (E = 0 → n2 = 11) ∧ y < x ∧ Hid (Off A2 (clRows L1).length y) ∧ Hid (W.heap[y]? = some (.cells (busL A1 M c1 11).toArray 25 (0, 0))) ∧ Hid (W.heap[x]? = some (.cells (busL A2 L1.length c2 n2).toArray 25 (0, 0))) ∧ Hid (Rd W W.heap.size A1 23 (clRows L0)) ∧ Hid (Rd W W.heap.size A2 23 (clRows L1)) ∧ Hid (Below w.heap.size w W))
  case first =>
    refine wp_region_L [0, 1, 4, 5, 6] [(0, fun W => W.heap[y]? = some (.cells (busL A1 M c1 11).toArray 25 (0, 0))), (1, fun W => W.heap[w.heap.size]? = some (.cells (frc f).toArray 31 (0, 0)))] (by kernel_rfl) ?_
    replace F := hide (show w4'.drew.heap[w.heap.size]? = some (.cells (frc f).toArray 31 (0, 0)) from F.out)
    replace B := hide (show w4'.drew.heap[y]? = some (.cells (busL A1 M c1 11).toArray 25 (0, 0)) from B.out)
    replace C1 := hide (show Rd (w4'.drew) (w4'.drew).heap.size A1 23 (clRows L0) from C1.out)
    replace Q := hide (show Below w.heap.size w w4'.drew from Q.out.drew)
    generalize w4'.drew = w5' at *
    refine wpAnyL_load (i := 0) (v := .agg (busL A1 M c1 11).toArray) rfl rfl (by kernel_rfl) (by kernel_rfl) (by kernel_rfl) (by kernel_rfl) (by kernel_rfl) (fun _ _ _ h => h) rfl (fun W h => exec_heap W y 25 _ _ h Tryz.underlying25 rfl (by kernel_rfl) _ _ (.tmp 9) (by rfl) (by rfl)) (B.out) ?_
    go_simp
    refine wpAnyL_load (i := 1) (v := .agg (frc f).toArray) rfl rfl (by kernel_rfl) (by kernel_rfl) (by kernel_rfl) (by kernel_rfl) (by kernel_rfl) (fun _ _ _ h => h) rfl (fun W h => exec_heap W w.heap.size 31 _ _ h Tryz.underlying31 rfl (by kernel_rfl) _ _ (.tmp 5) (by rfl) (by rfl)) (F.out) ?_
    go_simp
    refine wpAnyL_two (i := 2) (k := 7) (by kernel_rfl) ?_ ?_
    · refine wpOp_do rfl rfl ?_
      go_simp
      (with_reducible refine (FW.out _).mono ?_)
      rintro ew6' w6' ⟨rfl, qw6'⟩
      replace F := hide (heap_below F.out qw6')
      replace B := hide (heap_below B.out qw6')
      replace C1 := hide (Rd.next C1.out qw6' qw6'.size)
      replace Q := hide (below_next Q.out Q.out.size qw6')
      clear qw6'
      go_simp
      refine ⟨keepsL_mk (by kernel_rfl) (.cons B.out (.cons F.out .nil)), ?_⟩
      go_simp
      refine wpAnyL_two (i := 3) (k := 7) (by kernel_rfl) ?_ ?_
      · refine wpOp_do rfl rfl ?_
        have R1 := hide (SU.out A1 c1 w6' C1.out)
        go_simp
        (with_reducible refine (R1.out).mono ?_)
        rintro ew7' w7' ⟨A2, c2, n2, rfl, C2, FC2, hn2, qw7'⟩
        have O_C2_F := hide (show Off A2 (clRows L1).length w.heap.size from off_fresh FC2 (heap_lt F.out))
        have O_C2_B := hide (show Off A2 (clRows L1).length y from off_fresh FC2 (heap_lt B.out))
        replace F := hide (heap_below F.out qw7')
        replace B := hide (heap_below B.out qw7')
        replace C1 := hide (Rd.next C1.out qw7' qw7'.size)
        replace Q := hide (below_next Q.out Q.out.size qw7')
        clear qw7'
        replace C2 := hide (show Rd w7' w7'.heap.size A2 23 (clRows L1) from C2)
        replace FC2 := hide FC2
        clear R1
        go_simp
        refine ⟨keepsL_mk (by kernel_rfl) (.cons B.out (.cons F.out .nil)), ?_⟩
        go_simp
        refine wpAnyL_pure (i := 4) (v := .tuple #[.agg (busL A2 L1.length c2 n2).toArray, .int .i64 E]) rfl rfl (by kernel_rfl) (by kernel_rfl) (by kernel_rfl) (by kernel_rfl) (by kernel_rfl) (fun _ _ _ h => h) rfl (fun W => by go_simp) ?_
        go_simp
        refine wpAnyL_pure (i := 5) (v := .agg (busL A2 L1.length c2 n2).toArray) rfl rfl (by kernel_rfl) (by kernel_rfl) (by kernel_rfl) (by kernel_rfl) (by kernel_rfl) (fun _ _ _ h => h) rfl (fun W => by go_simp) ?_
        go_simp
        refine wpAnyL_pure (i := 6) (v := .int .i64 E) rfl rfl (by kernel_rfl) (by kernel_rfl) (by kernel_rfl) (by kernel_rfl) (by kernel_rfl) (fun _ _ _ h => h) rfl (fun W => by go_simp) ?_
        go_simp
        replace hn2 := hide hn2
        refine wpAnyL_one (i := 7) (by kernel_rfl) ?_
        refine wpOp_do rfl rfl ?_
        go_simp
        have X := hide (World.alloc_heap_new w7' (.cells (busL none 0 0 0).toArray 25))
        have zFx : w.heap.size < w7'.heap.size := heap_lt F.out
        have zBx : y < w7'.heap.size := heap_lt B.out
        have O_C1_X := hide (off_new (x := w7'.heap.size) C1.out (by omega))
        have O_C2_X := hide (off_new (x := w7'.heap.size) C2.out (by omega))
        have zQx : w.heap.size ≤ w7'.heap.size := Q.out.size
        have q9' : Below w7'.heap.size w7' (w7'.alloc (.cells (busL none 0 0 0).toArray 25)) := (Below.refl _ _).alloc (Nat.le_refl _) _
        replace F := hide (heap_below F.out q9')
        replace B := hide (heap_below B.out q9')
        replace C1 := hide (Rd.next C1.out q9' q9'.size)
        replace C2 := hide (Rd.next C2.out q9' q9'.size)
        replace Q := hide (below_next Q.out Q.out.size q9')
        clear q9'
        refine ⟨keepsL_mk (by kernel_rfl) (.cons B.out (.cons F.out .nil)), ?_⟩
        change wpAnyL _ _ _ _ _ _ _ _ _ (w7'.alloc (.cells (busL none 0 0 0).toArray 25))
        generalize w7'.alloc (.cells (busL none 0 0 0).toArray 25) = w8' at *
        generalize w7'.heap.size = x at *
        go_simp
        refine wpAnyL_one (i := 8) (by kernel_rfl) ?_
        refine wpOp_do rfl rfl ?_
        have Tw10' := hide (show World.there _ x 0 2 from there_heap (cs := busL none 0 0 0) X.out)
        refine wp_store_as 25 (.tmp 11) (.tmp 34) rfl x 0 (busL A2 L1.length c2 n2) (by rfl) (by rfl) (by exact Tw10'.out) (by kernel_rfl) (by simp [Value.oneCell', busL]) ?_
        intro w10' ew10'
        replace F := hide (show w10'.heap[w.heap.size]? = some (.cells (frc f).toArray 31 (0, 0)) by rw [ew10']; exact other_heap (by omega) _ _ _ F.out)
        replace B := hide (show w10'.heap[y]? = some (.cells (busL A1 M c1 11).toArray 25 (0, 0)) by rw [ew10']; exact other_heap (by omega) _ _ _ B.out)
        replace C1 := hide (show Rd w10' w10'.heap.size A1 23 (clRows L0) by rw [ew10']; exact off_set C1.out O_C1_X.out _ _)
        replace C2 := hide (show Rd w10' w10'.heap.size A2 23 (clRows L1) by rw [ew10']; exact off_set C2.out O_C2_X.out _ _)
        replace Q := hide (show Below w.heap.size w w10' by rw [ew10']; exact Q.out.trans (below_setCells _ _ _ (by have := Q.out.size; omega)))
        replace X := hide (show w10'.heap[x]? = some (.cells (busL A2 L1.length c2 n2).toArray 25 (0, 0)) by rw [ew10']; exact whole_heap (busL A2 L1.length c2 n2) (xs := busL none 0 0 0) X.out rfl)
        clear ew10' Tw10'
        refine ⟨keepsL_mk (by kernel_rfl) (.cons B.out (.cons F.out .nil)), ?_⟩
        go_simp
        refine wpAnyL_one (i := 9) (by kernel_rfl) ?_
        refine wpOp_do rfl rfl ?_
        go_simp
        refine ⟨keepsL_mk (by kernel_rfl) (.cons B.out (.cons F.out .nil)), ?_⟩
        go_simp
        refine wpAnyL_done (by kernel_rfl) ?_ _
        go_wp2_with fail
        go_meet
        exact ⟨x, A2, c2, n2, rfl, rfl, hn2.out, by omega, O_C2_B, B, X, C1, C2, Q⟩
      · refine wpOp_do rfl rfl ?_
        go_simp
        have X := hide (World.alloc_heap_new w6' (.cells (busL none 0 0 0).toArray 25))
        have zFx : w.heap.size < w6'.heap.size := heap_lt F.out
        have zBx : y < w6'.heap.size := heap_lt B.out
        have O_C1_X := hide (off_new (x := w6'.heap.size) C1.out (by omega))
        have zQx : w.heap.size ≤ w6'.heap.size := Q.out.size
        have q12' : Below w6'.heap.size w6' (w6'.alloc (.cells (busL none 0 0 0).toArray 25)) := (Below.refl _ _).alloc (Nat.le_refl _) _
        replace F := hide (heap_below F.out q12')
        replace B := hide (heap_below B.out q12')
        replace C1 := hide (Rd.next C1.out q12' q12'.size)
        replace Q := hide (below_next Q.out Q.out.size q12')
        clear q12'
        refine ⟨keepsL_mk (by kernel_rfl) (.cons B.out (.cons F.out .nil)), ?_⟩
        change wpAnyL _ _ _ _ _ _ _ _ _ (w6'.alloc (.cells (busL none 0 0 0).toArray 25))
        generalize w6'.alloc (.cells (busL none 0 0 0).toArray 25) = w11' at *
        generalize w6'.heap.size = x at *
        go_simp
        refine wpAnyL_one (i := 3) (by kernel_rfl) ?_
        refine wpOp_do rfl rfl ?_
        have R1 := hide (SU.out A1 c1 w11' C1.out)
        go_simp
        (with_reducible refine (R1.out).mono ?_)
        rintro ew13' w13' ⟨A2, c2, n2, rfl, C2, FC2, hn2, qw13'⟩
        have O_C2_F := hide (show Off A2 (clRows L1).length w.heap.size from off_fresh FC2 (heap_lt F.out))
        have O_C2_B := hide (show Off A2 (clRows L1).length y from off_fresh FC2 (heap_lt B.out))
        have O_C2_X := hide (show Off A2 (clRows L1).length x from off_fresh FC2 (heap_lt X.out))
        replace F := hide (heap_below F.out qw13')
        replace B := hide (heap_below B.out qw13')
        replace X := hide (heap_below X.out qw13')
        replace C1 := hide (Rd.next C1.out qw13' qw13'.size)
        replace Q := hide (below_next Q.out Q.out.size qw13')
        clear qw13'
        replace C2 := hide (show Rd w13' w13'.heap.size A2 23 (clRows L1) from C2)
        replace FC2 := hide FC2
        clear R1
        go_simp
        refine ⟨keepsL_mk (by kernel_rfl) (.cons B.out (.cons F.out .nil)), ?_⟩
        go_simp
        refine wpAnyL_pure (i := 4) (v := .tuple #[.agg (busL A2 L1.length c2 n2).toArray, .int .i64 E]) rfl rfl (by kernel_rfl) (by kernel_rfl) (by kernel_rfl) (by kernel_rfl) (by kernel_rfl) (fun _ _ _ h => h) rfl (fun W => by go_simp) ?_
        go_simp
        refine wpAnyL_pure (i := 5) (v := .agg (busL A2 L1.length c2 n2).toArray) rfl rfl (by kernel_rfl) (by kernel_rfl) (by kernel_rfl) (by kernel_rfl) (by kernel_rfl) (fun _ _ _ h => h) rfl (fun W => by go_simp) ?_
        go_simp
        refine wpAnyL_pure (i := 6) (v := .int .i64 E) rfl rfl (by kernel_rfl) (by kernel_rfl) (by kernel_rfl) (by kernel_rfl) (by kernel_rfl) (fun _ _ _ h => h) rfl (fun W => by go_simp) ?_
        go_simp
        replace hn2 := hide hn2
        refine wpAnyL_one (i := 8) (by kernel_rfl) ?_
        refine wpOp_do rfl rfl ?_
        have Tw14' := hide (show World.there _ x 0 2 from there_heap (cs := busL none 0 0 0) X.out)
        refine wp_store_as 25 (.tmp 11) (.tmp 34) rfl x 0 (busL A2 L1.length c2 n2) (by rfl) (by rfl) (by exact Tw14'.out) (by kernel_rfl) (by simp [Value.oneCell', busL]) ?_
        intro w14' ew14'
        replace F := hide (show w14'.heap[w.heap.size]? = some (.cells (frc f).toArray 31 (0, 0)) by rw [ew14']; exact other_heap (by omega) _ _ _ F.out)
        replace B := hide (show w14'.heap[y]? = some (.cells (busL A1 M c1 11).toArray 25 (0, 0)) by rw [ew14']; exact other_heap (by omega) _ _ _ B.out)
        replace C1 := hide (show Rd w14' w14'.heap.size A1 23 (clRows L0) by rw [ew14']; exact off_set C1.out O_C1_X.out _ _)
        replace C2 := hide (show Rd w14' w14'.heap.size A2 23 (clRows L1) by rw [ew14']; exact off_set C2.out O_C2_X.out _ _)
        replace Q := hide (show Below w.heap.size w w14' by rw [ew14']; exact Q.out.trans (below_setCells _ _ _ (by have := Q.out.size; omega)))
        replace X := hide (show w14'.heap[x]? = some (.cells (busL A2 L1.length c2 n2).toArray 25 (0, 0)) by rw [ew14']; exact whole_heap (busL A2 L1.length c2 n2) (xs := busL none 0 0 0) X.out rfl)
        clear ew14' Tw14'
        refine ⟨keepsL_mk (by kernel_rfl) (.cons B.out (.cons F.out .nil)), ?_⟩
        go_simp
        refine wpAnyL_one (i := 9) (by kernel_rfl) ?_
        refine wpOp_do rfl rfl ?_
        go_simp
        refine ⟨keepsL_mk (by kernel_rfl) (.cons B.out (.cons F.out .nil)), ?_⟩
        go_simp
        refine wpAnyL_done (by kernel_rfl) ?_ _
        go_wp2_with fail
        go_meet
        exact ⟨x, A2, c2, n2, rfl, rfl, hn2.out, by omega, O_C2_B, B, X, C1, C2, Q⟩
    · refine wpOp_do rfl rfl ?_
      go_simp
      have X := hide (World.alloc_heap_new w5' (.cells (busL none 0 0 0).toArray 25))
      have zFx : w.heap.size < w5'.heap.size := heap_lt F.out
      have zBx : y < w5'.heap.size := heap_lt B.out
      have O_C1_X := hide (off_new (x := w5'.heap.size) C1.out (by omega))
      have zQx : w.heap.size ≤ w5'.heap.size := Q.out.size
      have q16' : Below w5'.heap.size w5' (w5'.alloc (.cells (busL none 0 0 0).toArray 25)) := (Below.refl _ _).alloc (Nat.le_refl _) _
      replace F := hide (heap_below F.out q16')
      replace B := hide (heap_below B.out q16')
      replace C1 := hide (Rd.next C1.out q16' q16'.size)
      replace Q := hide (below_next Q.out Q.out.size q16')
      clear q16'
      refine ⟨keepsL_mk (by kernel_rfl) (.cons B.out (.cons F.out .nil)), ?_⟩
      change wpAnyL _ _ _ _ _ _ _ _ _ (w5'.alloc (.cells (busL none 0 0 0).toArray 25))
      generalize w5'.alloc (.cells (busL none 0 0 0).toArray 25) = w15' at *
      generalize w5'.heap.size = x at *
      go_simp
      refine wpAnyL_one (i := 2) (by kernel_rfl) ?_
      refine wpOp_do rfl rfl ?_
      go_simp
      (with_reducible refine (FW.out _).mono ?_)
      rintro ew17' w17' ⟨rfl, qw17'⟩
      replace F := hide (heap_below F.out qw17')
      replace B := hide (heap_below B.out qw17')
      replace X := hide (heap_below X.out qw17')
      replace C1 := hide (Rd.next C1.out qw17' qw17'.size)
      replace Q := hide (below_next Q.out Q.out.size qw17')
      clear qw17'
      go_simp
      refine ⟨keepsL_mk (by kernel_rfl) (.cons B.out (.cons F.out .nil)), ?_⟩
      go_simp
      refine wpAnyL_one (i := 3) (by kernel_rfl) ?_
      refine wpOp_do rfl rfl ?_
      have R1 := hide (SU.out A1 c1 w17' C1.out)
      go_simp
      (with_reducible refine (R1.out).mono ?_)
      rintro ew18' w18' ⟨A2, c2, n2, rfl, C2, FC2, hn2, qw18'⟩
      have O_C2_F := hide (show Off A2 (clRows L1).length w.heap.size from off_fresh FC2 (heap_lt F.out))
      have O_C2_B := hide (show Off A2 (clRows L1).length y from off_fresh FC2 (heap_lt B.out))
      have O_C2_X := hide (show Off A2 (clRows L1).length x from off_fresh FC2 (heap_lt X.out))
      replace F := hide (heap_below F.out qw18')
      replace B := hide (heap_below B.out qw18')
      replace X := hide (heap_below X.out qw18')
      replace C1 := hide (Rd.next C1.out qw18' qw18'.size)
      replace Q := hide (below_next Q.out Q.out.size qw18')
      clear qw18'
      replace C2 := hide (show Rd w18' w18'.heap.size A2 23 (clRows L1) from C2)
      replace FC2 := hide FC2
      clear R1
      go_simp
      refine ⟨keepsL_mk (by kernel_rfl) (.cons B.out (.cons F.out .nil)), ?_⟩
      go_simp
      refine wpAnyL_pure (i := 4) (v := .tuple #[.agg (busL A2 L1.length c2 n2).toArray, .int .i64 E]) rfl rfl (by kernel_rfl) (by kernel_rfl) (by kernel_rfl) (by kernel_rfl) (by kernel_rfl) (fun _ _ _ h => h) rfl (fun W => by go_simp) ?_
      go_simp
      refine wpAnyL_pure (i := 5) (v := .agg (busL A2 L1.length c2 n2).toArray) rfl rfl (by kernel_rfl) (by kernel_rfl) (by kernel_rfl) (by kernel_rfl) (by kernel_rfl) (fun _ _ _ h => h) rfl (fun W => by go_simp) ?_
      go_simp
      refine wpAnyL_pure (i := 6) (v := .int .i64 E) rfl rfl (by kernel_rfl) (by kernel_rfl) (by kernel_rfl) (by kernel_rfl) (by kernel_rfl) (fun _ _ _ h => h) rfl (fun W => by go_simp) ?_
      go_simp
      replace hn2 := hide hn2
      refine wpAnyL_one (i := 8) (by kernel_rfl) ?_
      refine wpOp_do rfl rfl ?_
      have Tw19' := hide (show World.there _ x 0 2 from there_heap (cs := busL none 0 0 0) X.out)
      refine wp_store_as 25 (.tmp 11) (.tmp 34) rfl x 0 (busL A2 L1.length c2 n2) (by rfl) (by rfl) (by exact Tw19'.out) (by kernel_rfl) (by simp [Value.oneCell', busL]) ?_
      intro w19' ew19'
      replace F := hide (show w19'.heap[w.heap.size]? = some (.cells (frc f).toArray 31 (0, 0)) by rw [ew19']; exact other_heap (by omega) _ _ _ F.out)
      replace B := hide (show w19'.heap[y]? = some (.cells (busL A1 M c1 11).toArray 25 (0, 0)) by rw [ew19']; exact other_heap (by omega) _ _ _ B.out)
      replace C1 := hide (show Rd w19' w19'.heap.size A1 23 (clRows L0) by rw [ew19']; exact off_set C1.out O_C1_X.out _ _)
      replace C2 := hide (show Rd w19' w19'.heap.size A2 23 (clRows L1) by rw [ew19']; exact off_set C2.out O_C2_X.out _ _)
      replace Q := hide (show Below w.heap.size w w19' by rw [ew19']; exact Q.out.trans (below_setCells _ _ _ (by have := Q.out.size; omega)))
      replace X := hide (show w19'.heap[x]? = some (.cells (busL A2 L1.length c2 n2).toArray 25 (0, 0)) by rw [ew19']; exact whole_heap (busL A2 L1.length c2 n2) (xs := busL none 0 0 0) X.out rfl)
      clear ew19' Tw19'
      refine ⟨keepsL_mk (by kernel_rfl) (.cons B.out (.cons F.out .nil)), ?_⟩
      go_simp
      refine wpAnyL_one (i := 9) (by kernel_rfl) ?_
      refine wpOp_do rfl rfl ?_
      go_simp
      refine ⟨keepsL_mk (by kernel_rfl) (.cons B.out (.cons F.out .nil)), ?_⟩
      go_simp
      refine wpAnyL_done (by kernel_rfl) ?_ _
      go_wp2_with fail
      go_meet
      exact ⟨x, A2, c2, n2, rfl, rfl, hn2.out, by omega, O_C2_B, B, X, C1, C2, Q⟩
  case rest =>
  clear FW SU F B C1 Q
  obtain ⟨x, A2, c2, n2, rfl, rfl, hn2, hyx, O_C2_B, B, X, C1, C2, Q⟩ := hcut
  go_upto_if 37 with fail
  go_cut [9] (fun v9 W => v9 = .pointer (some ⟨y, 0, none⟩) ∧ ∃ A c l, AllOk l ∧ l.length = M ∧ Hid (W.heap[y]? = some (.cells (busL A M c 11).toArray 25 (0, 0))) ∧ Hid (Rd W W.heap.size A 23 (clRows l)) ∧ Hid (Below w.heap.size w W))
  case first =>
    rcases Int.decEq E 0 with he | he
    case isFalse =>
      have hb : (E == 0) = false := by simpa using he
      clear he
      go_wp2_with fail
      go_meet
      exact ⟨rfl, A1, c1, L0, hok0, hlen0, B, C1, Q⟩
    case isTrue =>
      subst he
      obtain ⟨hokL, hlenL0⟩ := HL.out rfl
      have hlenL := hide hlenL0
      clear hlenL0
      have h11 := hn2 rfl
      subst h11
      have Tw20' := hide (show World.there _ y 0 2 from there_heap (cs := busL A1 M c1 11) B.out)
      go_wp2_with (first | (refine wpList_load_row rfl 25 (.tmp 11) (by rfl) x (by rfl) 25 (busL A2 L1.length c2 11).toArray (0, 0) _ (by exact X.out) Tryz.underlying25 (by rfl) (by kernel_rfl) ?_) | (refine wpList_store_hid (by rfl) 25 (.tmp 9) (.tmp 38) (by rfl) y 0 (busL A2 L1.length c2 11) (by rfl) (by rfl) (by exact Tw20'.out) (by kernel_rfl) (by simp [Value.oneCell', busL]) ?_))
      intro w20' ew20'
      replace X := hide (show w20'.heap[x]? = some (.cells (busL A2 L1.length c2 11).toArray 25 (0, 0)) by rw [ew20'.out]; exact other_heap (by omega) _ _ _ X.out)
      replace C1 := hide (show Rd w20' w20'.heap.size A1 23 (clRows L0) by rw [ew20'.out]; exact off_set C1.out O_C1_B.out _ _)
      replace C2 := hide (show Rd w20' w20'.heap.size A2 23 (clRows L1) by rw [ew20'.out]; exact off_set C2.out O_C2_B.out _ _)
      replace Q := hide (show Below w.heap.size w w20' by rw [ew20'.out]; exact Q.out.trans (below_setCells _ _ _ (by have := Q.out.size; omega)))
      replace B := hide (show w20'.heap[y]? = some (.cells (busL A2 L1.length c2 11).toArray 25 (0, 0)) by rw [ew20'.out]; exact whole_heap (busL A2 L1.length c2 11) (xs := busL A1 M c1 11) B.out rfl)
      clear ew20' Tw20'
      go_wp2_with fail
      rw [hlenL.out] at B
      go_meet
      exact ⟨rfl, A2, c2, L1, hokL, hlenL.out, B, C2, Q⟩
  case rest =>
  clear B X C1 C2 Q O_C1_B O_C2_B HL hn2 hok0 hlen0
  obtain ⟨rfl, A3, c3, l, hok, hlen, B, C3, Q⟩ := hcut
  go_upto_region 6 with fail
  clear ha1 ha2 hz1 hz2
  have hsum : IntKind.i64.wrap ((a : Int) + (z : Int)) = (a : Int) + (z : Int) := IntWalk.i64_in _ (by omega)
  have R1 := (fun A c W (hr : Rd W W.heap.size A 23 (clRows l)) => RU.out l A c 11 (a + z) W hr hok hlen (by omega) (by omega))
  have R2 := (fun A c W (hr : Rd W W.heap.size A 23 (clRows l)) => RU.out l A c 11 a W hr hok hlen (by omega) (by omega))
  have R3 := (fun A c W (hr : Rd W W.heap.size A 23 (clRows (itB l a))) => RU.out (itB l a) A c (11 + a) z W hr (AllOk.it hok a) (by rw [it_len]; exact hlen) (by omega) (by omega))
  have hS1 : (snB l 11 a).length ≤ 1200 := by have := sn_le l 11 a; have h5 : a * l.length ≤ 300 * 4 := Nat.mul_le_mul hla (by omega); omega
  have hS2 : (snB (itB l a) (11 + a) z).length ≤ 1200 := by have := sn_le (itB l a) (11 + a) z; have h5 : z * (itB l a).length ≤ 300 * 4 := Nat.mul_le_mul hlz (by rw [it_len]; omega); omega
  have hT1 : ((a + z : Nat) : Int) = (a : Int) + (z : Int) := by omega
  have hT3 : (11 + (a : Int)) + (z : Int) = 11 + ((a : Int) + (z : Int)) := by omega
  rw [hT1, sn_add, it_add, List.length_append] at R1
  rw [hT3] at R3
  have hl3 : (itB (itB l a) z).length = M := by rw [it_len, it_len]; exact hlen
  have hl2 : (itB l a).length = M := by rw [it_len]; exact hlen
  generalize snB (itB l a) (11 + (a : Int)) z = s2 at *
  generalize snB l 11 a = s1 at *
  generalize itB (itB l a) z = l3 at *
  generalize itB l a = l2 at *
  clear hT1 hT3 RU hok
  replace R1 := hide R1
  replace R2 := hide R2
  replace R3 := hide R3
  have HL1 := hide hlen
  have HL2 := hide hl2
  have HL3 := hide hl3
  clear hlen hl2 hl3
  have R := hide (R1.out A3 c3 wc C3.out)
  go_wp2_with (refine wpList_load_row rfl 25 (.tmp 9) (by rfl) y (by rfl) 25 (busL A3 M c3 11).toArray (0, 0) _ (by exact B.out) Tryz.underlying25 (by rfl) (by kernel_rfl) ?_)
  (with_reducible refine (R.out).mono ?_)
  rintro ew21' w21' ⟨A4, c4, E4, d4, rfl, C4, S4, _, q⟩
  replace C4 := hide C4
  replace S4 := hide (S4.rd (snRows_rows _))
  replace B := hide (heap_below B.out q)
  replace C3 := hide (Rd.next C3.out q q.size)
  replace Q := hide (below_next Q.out Q.out.size q)
  clear q
  clear R R1
  have Y := World.alloc_heap_new w21' (.cells (busL none 0 0 0).toArray 25)
  have zBy2 : y < w21'.heap.size := heap_lt B.out
  have O_C3_Y := hide (off_new (x := w21'.heap.size) C3.out (by omega))
  have O_C4_Y := hide (off_new (x := w21'.heap.size) C4.out (by omega))
  have O_S4_Y := hide (off_new (x := w21'.heap.size) S4.out (by omega))
  have zQy2 : w.heap.size ≤ w21'.heap.size := Q.out.size
  obtain ⟨w23', hw23'⟩ : ∃ wx, wx = w21'.alloc (.cells (busL none 0 0 0).toArray 25) := ⟨_, rfl⟩
  have q22' := hide (show Below w21'.heap.size w21' w23' by rw [hw23']; exact (Below.refl _ _).alloc (Nat.le_refl _) _)
  rw [← hw23'] at Y
  replace Y := hide Y
  have Tw24' := hide (show (w21'.alloc (.cells (busL none 0 0 0).toArray 25)).there w21'.heap.size 0 2 by rw [← hw23']; exact there_heap (cs := busL none 0 0 0) Y.out)
  go_wp2_with (refine wpList_store_hid (by rfl) 25 (.tmp 13) (.tmp 51) (by rfl) w21'.heap.size 0 (busL A4 M c4 (11 + ((a : Int) + (z : Int)))) (by rfl) (by rfl) (by exact Tw24'.out) (by kernel_rfl) (by simp [Value.oneCell', busL]) ?_)
  intro w24' ew24'
  replace ew24' : Hid (w24' = w23'.setCells w21'.heap.size 0 (busL A4 M c4 (11 + ((a : Int) + (z : Int))))) := by rw [hw23']; exact ew24'
  replace Y := hide (show w24'.heap[w21'.heap.size]? = some (.cells (busL A4 M c4 (11 + ((a : Int) + (z : Int)))).toArray 25 (0, 0)) by rw [ew24'.out]; exact whole_heap (busL A4 M c4 (11 + ((a : Int) + (z : Int)))) (xs := busL none 0 0 0) Y.out rfl)
  replace q22' := hide (show Below w21'.heap.size w21' w24' by rw [ew24'.out]; exact q22'.out.trans (below_setCells _ _ _ (by omega)))
  clear ew24' Tw24' hw23'
  replace B := hide (heap_below B.out q22'.out)
  replace C3 := hide (Rd.next C3.out q22'.out q22'.out.size)
  replace C4 := hide (Rd.next C4.out q22'.out q22'.out.size)
  replace S4 := hide (Rd.next S4.out q22'.out q22'.out.size)
  replace Q := hide (below_next Q.out Q.out.size q22'.out)
  clear q22'
  generalize w21'.heap.size = y2 at *
  have R := hide (R2.out A3 c3 w24' C3.out)
  go_wp2_with (refine wpList_load_row rfl 25 (.tmp 9) (by rfl) y (by rfl) 25 (busL A3 M c3 11).toArray (0, 0) _ (by exact B.out) Tryz.underlying25 (by rfl) (by kernel_rfl) ?_)
  (with_reducible refine (R.out).mono ?_)
  rintro ew25' w25' ⟨A5, c5, E5, d5, rfl, C5, OM, OC5, q⟩
  have P_C4 := hide (offB_old (n := s1.length) C4.out OM (Nat.le_refl _))
  have P_S4 := hide (offB_old (n := s1.length) S4.out OM (Nat.le_refl _))
  have P_5 := hide (show OffB A5 (clRows l3).length (Value.slice E5 s1.length d5).ownBlock from OC5.elim (fun o => offB_ty o OM (by decide)) (fun h => by rw [h.2]; exact off_lenB (offB_old C3.out OM (Nat.le_refl _)) (fun e => by rw [clRows_len, HL1.out] at e; omega)))
  have ZB := hide (show w24'.heap.size ≤ w24'.heap.size from Nat.le_refl _)
  have ZW := hide Q.out.size
  clear OC5
  replace C5 := hide C5
  replace OM := hide OM
  replace B := hide (heap_below B.out q)
  replace Y := hide (heap_below Y.out q)
  replace ZB := hide (Nat.le_trans ZB.out q.size)
  replace C3 := hide (Rd.next C3.out q q.size)
  replace C4 := hide (Rd.next C4.out q q.size)
  replace S4 := hide (Rd.next S4.out q q.size)
  replace Q := hide (below_next Q.out Q.out.size q)
  clear q
  clear R R2
  clear C3 O_C3_Y
  clear B 
  have D := World.alloc_heap_new w25' (.cells (busL none 0 0 0).toArray 25)
  have zYy3 : y2 < w25'.heap.size := heap_lt Y.out
  have O_C4_D := hide (off_new (x := w25'.heap.size) C4.out (by omega))
  have O_S4_D := hide (off_new (x := w25'.heap.size) S4.out (by omega))
  have O_C5_D := hide (off_new (x := w25'.heap.size) C5.out (by omega))
  have zQy3 : w.heap.size ≤ w25'.heap.size := Q.out.size
  obtain ⟨w27', hw27'⟩ : ∃ wx, wx = w25'.alloc (.cells (busL none 0 0 0).toArray 25) := ⟨_, rfl⟩
  have q26' := hide (show Below w25'.heap.size w25' w27' by rw [hw27']; exact (Below.refl _ _).alloc (Nat.le_refl _) _)
  rw [← hw27'] at D
  replace D := hide D
  have Tw28' := hide (show (w25'.alloc (.cells (busL none 0 0 0).toArray 25)).there w25'.heap.size 0 2 by rw [← hw27']; exact there_heap (cs := busL none 0 0 0) D.out)
  go_wp2_with (refine wpList_store_hid (by rfl) 25 (.tmp 16) (.tmp 58) (by rfl) w25'.heap.size 0 (busL A5 M c5 (11 + (a : Int))) (by rfl) (by rfl) (by exact Tw28'.out) (by kernel_rfl) (by simp [Value.oneCell', busL]) ?_)
  intro w28' ew28'
  replace ew28' : Hid (w28' = w27'.setCells w25'.heap.size 0 (busL A5 M c5 (11 + (a : Int)))) := by rw [hw27']; exact ew28'
  replace D := hide (show w28'.heap[w25'.heap.size]? = some (.cells (busL A5 M c5 (11 + (a : Int))).toArray 25 (0, 0)) by rw [ew28'.out]; exact whole_heap (busL A5 M c5 (11 + (a : Int))) (xs := busL none 0 0 0) D.out rfl)
  replace q26' := hide (show Below w25'.heap.size w25' w28' by rw [ew28'.out]; exact q26'.out.trans (below_setCells _ _ _ (by omega)))
  clear ew28' Tw28' hw27'
  replace Y := hide (heap_below Y.out q26'.out)
  replace ZB := hide (Nat.le_trans ZB.out q26'.out.size)
  replace OM := hide (OM.out.grown q26'.out)
  replace C4 := hide (Rd.next C4.out q26'.out q26'.out.size)
  replace S4 := hide (Rd.next S4.out q26'.out q26'.out.size)
  replace C5 := hide (Rd.next C5.out q26'.out q26'.out.size)
  replace Q := hide (below_next Q.out Q.out.size q26'.out)
  clear q26'
  generalize w25'.heap.size = y3 at *
  have R := hide (R3.out A5 c5 w28' C5.out)
  go_wp2_with (refine wpList_load_row rfl 25 (.tmp 16) (by rfl) y3 (by rfl) 25 (busL A5 M c5 (11 + (a : Int))).toArray (0, 0) _ (by exact D.out) Tryz.underlying25 (by rfl) (by kernel_rfl) ?_)
  (with_reducible refine (R.out).mono ?_)
  rintro ew29' w29' ⟨A6, c6, E6, d6, rfl, C6, S6, OC6, q⟩
  have P_C6 := hide (show OffB A6 (clRows l3).length (Value.slice E5 s1.length d5).ownBlock from OC6.elim (fun o => offB_new (fresh_own o) OM.out (Nat.le_refl _)) (fun h => by rw [h.2]; exact P_5.out))
  have P_S6 := hide (show OffB E6 (snRows s2).length (Value.slice E5 s1.length d5).ownBlock from offB_new (fresh_own S6) OM.out (Nat.le_refl _))
  clear OC6
  replace C6 := hide C6
  replace S6 := hide (S6.rd (snRows_rows _))
  replace Y := hide (heap_below Y.out q)
  replace D := hide (heap_below D.out q)
  replace ZB := hide (Nat.le_trans ZB.out q.size)
  replace OM := hide (OM.out.grown q)
  replace C4 := hide (Rd.next C4.out q q.size)
  replace S4 := hide (Rd.next S4.out q q.size)
  replace C5 := hide (Rd.next C5.out q q.size)
  replace Q := hide (below_next Q.out Q.out.size q)
  clear q
  clear R R3 P_5
  clear C5 O_C5_D
  clear D O_C4_D O_S4_D
  have U := World.alloc_heap_new w29' (.cells (busL none 0 0 0).toArray 25)
  have zYy4 : y2 < w29'.heap.size := heap_lt Y.out
  have O_C4_U := hide (off_new (x := w29'.heap.size) C4.out (by omega))
  have O_S4_U := hide (off_new (x := w29'.heap.size) S4.out (by omega))
  have O_C6_U := hide (off_new (x := w29'.heap.size) C6.out (by omega))
  have O_S6_U := hide (off_new (x := w29'.heap.size) S6.out (by omega))
  have zQy4 : w.heap.size ≤ w29'.heap.size := Q.out.size
  obtain ⟨w31', hw31'⟩ : ∃ wx, wx = w29'.alloc (.cells (busL none 0 0 0).toArray 25) := ⟨_, rfl⟩
  have q30' := hide (show Below w29'.heap.size w29' w31' by rw [hw31']; exact (Below.refl _ _).alloc (Nat.le_refl _) _)
  rw [← hw31'] at U
  replace U := hide U
  have Tw32' := hide (show (w29'.alloc (.cells (busL none 0 0 0).toArray 25)).there w29'.heap.size 0 2 by rw [← hw31']; exact there_heap (cs := busL none 0 0 0) U.out)
  go_wp2_with (refine wpList_store_hid (by rfl) 25 (.tmp 19) (.tmp 65) (by rfl) w29'.heap.size 0 (busL A6 M c6 (11 + ((a : Int) + (z : Int)))) (by rfl) (by rfl) (by exact Tw32'.out) (by kernel_rfl) (by simp [Value.oneCell', busL]) ?_)
  intro w32' ew32'
  replace ew32' : Hid (w32' = w31'.setCells w29'.heap.size 0 (busL A6 M c6 (11 + ((a : Int) + (z : Int))))) := by rw [hw31']; exact ew32'
  replace U := hide (show w32'.heap[w29'.heap.size]? = some (.cells (busL A6 M c6 (11 + ((a : Int) + (z : Int)))).toArray 25 (0, 0)) by rw [ew32'.out]; exact whole_heap (busL A6 M c6 (11 + ((a : Int) + (z : Int)))) (xs := busL none 0 0 0) U.out rfl)
  replace q30' := hide (show Below w29'.heap.size w29' w32' by rw [ew32'.out]; exact q30'.out.trans (below_setCells _ _ _ (by omega)))
  clear ew32' Tw32' hw31'
  replace Y := hide (heap_below Y.out q30'.out)
  replace ZB := hide (Nat.le_trans ZB.out q30'.out.size)
  replace OM := hide (OM.out.grown q30'.out)
  replace C4 := hide (Rd.next C4.out q30'.out q30'.out.size)
  replace S4 := hide (Rd.next S4.out q30'.out q30'.out.size)
  replace C6 := hide (Rd.next C6.out q30'.out q30'.out.size)
  replace S6 := hide (Rd.next S6.out q30'.out q30'.out.size)
  replace Q := hide (below_next Q.out Q.out.size q30'.out)
  clear q30'
  generalize w29'.heap.size = y4 at *
  have HN1 := hide (show s1.length = (snRows s1).length by rw [snRows_len])
  have HN2 := hide (show s2.length = (snRows s2).length by rw [snRows_len])
  have HBY := hide (show ((snRows s1).length + (snRows s2).length) * 64 ≤ 140737488355328 by rw [snRows_len, snRows_len]; omega)
  have HMX := hide (show (snRows s1).length + (snRows s2).length ≤ maxLen by rw [snRows_len, snRows_len]; unfold maxLen; omega)
  go_wp2_with (at_builtin; refine wpList_append_rows _ rfl _ _ 39 rfl slSn w24'.heap.size _ _ _ (snRows s1) (by rfl) (by exact OM.out) _ _ _ (snRows s2) (by rfl) (by exact S6.out) (by exact snRows_rows _) (by exact snRows_ones _) (by exact HBY.out) (by exact HMX.out) (by exact ZB.out) (by exact HN1.out) (by exact HN2.out) ?_)
  intro A7 c7 w9 oM gM
  replace Y := hide (heap_grown Y.out (by decide) OM.out gM)
  replace U := hide (heap_grown U.out (by decide) OM.out gM)
  replace C4 := hide (rd_grown2 C4.out gM P_C4.out)
  replace S4 := hide (rd_grown2 S4.out gM P_S4.out)
  replace C6 := hide (rd_grown2 C6.out gM P_C6.out)
  replace S6 := hide (rd_grown2 S6.out gM P_S6.out)
  replace Q := hide (below_append Q.out gM OM.out ZW.out Q.out.size)
  have S7 := hide (show Rd w9 w9.heap.size A7 9 (snRows (s1 ++ s2)) by unfold snRows; rw [List.map_append]; exact oM.rd (fun r hr => by rcases List.mem_append.1 hr with hr | hr <;> exact snRows_rows _ r hr))
  clear oM gM OM ZB ZW HN1 HN2 HBY HMX P_C4 P_S4 P_C6 P_S6
  clear S6 O_S6_U
  obtain ⟨y0, y1⟩ := bus_cells Y.out
  obtain ⟨u0, u1⟩ := bus_cells U.out
  go_wp2_with fail
  clear y0 y1 u0 u1
  (with_reducible refine (AL.out _).mono ?_)
  rintro ew33' w33' ⟨rfl, qw33'⟩
  replace Y := hide (heap_below Y.out qw33')
  replace U := hide (heap_below U.out qw33')
  replace C4 := hide (Rd.next C4.out qw33' qw33'.size)
  replace S4 := hide (Rd.next S4.out qw33' qw33'.size)
  replace C6 := hide (Rd.next C6.out qw33' qw33'.size)
  replace S7 := hide (Rd.next S7.out qw33' qw33'.size)
  replace Q := hide (below_next Q.out Q.out.size qw33')
  clear qw33'
  clear AL
  go_wp2_with fail
  have HLN := hide (show (s1 ++ s2).length = s1.length + s2.length from List.length_append)
  generalize s1 ++ s2 = sa at *
  skip
  go_loopw [114] (fun vi W => ∃ k : Nat, k ≤ s1.length + s2.length ∧ vi = .int .i64 k ∧ Hid (W.heap[y2]? = some (.cells (busL A4 M c4 (11 + ((a : Int) + (z : Int)))).toArray 25 (0, 0))) ∧ Hid (W.heap[y4]? = some (.cells (busL A6 M c6 (11 + ((a : Int) + (z : Int)))).toArray 25 (0, 0))) ∧ Hid (Rd W W.heap.size A4 23 (clRows l3)) ∧ Hid (Rd W W.heap.size E4 9 (snRows (sa))) ∧ Hid (Rd W W.heap.size A6 23 (clRows l3)) ∧ Hid (Rd W W.heap.size A7 9 (snRows (sa))) ∧ Hid (Below w.heap.size w W)) (fun vi _ => s1.length + s2.length - (intOf vi).toNat)
  case atStart => exact ⟨0, Nat.zero_le _, rfl, Y, U, C4, S4, C6, S7, Q⟩
  case round =>
    clear Y U C4 S4 C6 S7 Q
    obtain ⟨k, hk, rfl, Y, U, C4, S4, C6, S7, Q⟩ := hrel
    by_cases hlt : k < s1.length + s2.length
    · have hki : (k : Int) < ((s1.length + s2.length : Nat) : Int) := by omega
      have hkN : k < sa.length := by have := HLN.out; omega
      have hk0 : ¬ (k : Int) < 0 := by omega
      obtain ⟨g1, o1, h41, -, r1⟩ := sn_cells S4.out hkN
      obtain ⟨g2, o2, h72, -, r2⟩ := sn_cells S7.out hkN
      have P1 := hide r1
      have P2 := hide r2
      generalize sa[k] = e at *
      subst h41 h72
      clear r1 r2
      go_upto_region 15 with fail
      refine wp_region_L [0, 1, 2, 3, 4, 5, 6, 7, 8] [(3, fun W => W.rangeAt g1 (o1 + k * 9) (sncs e)), (7, fun W => W.rangeAt g2 (o2 + k * 9) (sncs e))] (by kernel_rfl) ?_
      replace P1 := hide (show wr.drew.rangeAt g1 (o1 + k * 9) (sncs e) from P1.out)
      replace P2 := hide (show wr.drew.rangeAt g2 (o2 + k * 9) (sncs e) from P2.out)
      replace Y := hide (show wr.drew.heap[y2]? = some (.cells (busL A4 M c4 (11 + ((a : Int) + (z : Int)))).toArray 25 (0, 0)) from Y.out)
      replace U := hide (show wr.drew.heap[y4]? = some (.cells (busL A6 M c6 (11 + ((a : Int) + (z : Int)))).toArray 25 (0, 0)) from U.out)
      replace C4 := hide (show Rd (wr.drew) (wr.drew).heap.size A4 23 (clRows l3) from C4.out)
      replace S4 := hide (show Rd (wr.drew) (wr.drew).heap.size (some ⟨g1, o1, none⟩) 9 (snRows (sa)) from S4.out)
      replace C6 := hide (show Rd (wr.drew) (wr.drew).heap.size A6 23 (clRows l3) from C6.out)
      replace S7 := hide (show Rd (wr.drew) (wr.drew).heap.size (some ⟨g2, o2, none⟩) 9 (snRows (sa)) from S7.out)
      replace Q := hide (show Below w.heap.size w wr.drew from Q.out.drew)
      generalize wr.drew = w34' at *
      refine wpAnyL_pure (i := 0) (v := .slice (some ⟨g1, o1, none⟩) (s1.length + s2.length) d4) rfl rfl (by kernel_rfl) (by kernel_rfl) (by kernel_rfl) (by kernel_rfl) (by kernel_rfl) (fun _ _ _ h => h) rfl (fun W => by go_simp) ?_
      go_simp
      refine wpAnyL_pure (i := 1) (v := .int .i64 k) rfl rfl (by kernel_rfl) (by kernel_rfl) (by kernel_rfl) (by kernel_rfl) (by kernel_rfl) (fun _ _ _ h => h) rfl (fun W => by go_simp) ?_
      go_simp
      refine wpAnyL_pure (i := 2) (v := .pointer (some ⟨g1, o1 + k * 9, none⟩)) rfl rfl (by kernel_rfl) (by kernel_rfl) (by kernel_rfl) (by kernel_rfl) (by kernel_rfl) (fun _ _ _ h => h) rfl (fun W => by go_simp) ?_
      go_simp
      refine wpAnyL_load (i := 3) (v := .agg (sncs e).toArray) rfl rfl (by kernel_rfl) (by kernel_rfl) (by kernel_rfl) (by kernel_rfl) (by kernel_rfl) (fun _ _ _ h => h) rfl (fun W h => exec_load W g1 (o1 + k * 9) 46 (sncs e) _ h Tryz.underlying46 rfl (by kernel_rfl) _ _ (.tmp 119) (by rfl) (by rfl)) (P1.out) ?_
      go_simp
      refine wpAnyL_pure (i := 4) (v := .slice (some ⟨g2, o2, none⟩) (s1.length + s2.length) c7) rfl rfl (by kernel_rfl) (by kernel_rfl) (by kernel_rfl) (by kernel_rfl) (by kernel_rfl) (fun _ _ _ h => h) rfl (fun W => by go_simp) ?_
      go_simp
      refine wpAnyL_pure (i := 5) (v := .int .i64 k) rfl rfl (by kernel_rfl) (by kernel_rfl) (by kernel_rfl) (by kernel_rfl) (by kernel_rfl) (fun _ _ _ h => h) rfl (fun W => by go_simp) ?_
      go_simp
      refine wpAnyL_pure (i := 6) (v := .pointer (some ⟨g2, o2 + k * 9, none⟩)) rfl rfl (by kernel_rfl) (by kernel_rfl) (by kernel_rfl) (by kernel_rfl) (by kernel_rfl) (fun _ _ _ h => h) rfl (fun W => by go_simp) ?_
      go_simp
      refine wpAnyL_load (i := 7) (v := .agg (sncs e).toArray) rfl rfl (by kernel_rfl) (by kernel_rfl) (by kernel_rfl) (by kernel_rfl) (by kernel_rfl) (fun _ _ _ h => h) rfl (fun W h => exec_load W g2 (o2 + k * 9) 46 (sncs e) _ h Tryz.underlying46 rfl (by kernel_rfl) _ _ (.tmp 123) (by rfl) (by rfl)) (P2.out) ?_
      go_simp
      refine wpAnyL_pure (i := 8) (v := .bool false) rfl rfl (by kernel_rfl) (by kernel_rfl) (by kernel_rfl) (by kernel_rfl) (by kernel_rfl) (fun _ _ _ h => h) rfl (fun W => exec_neq_sn e _ _ (.tmp 120) (.tmp 124) _ (by rfl) (by rfl) (by rfl) W) ?_
      go_simp
      refine wpAnyL_done (by kernel_rfl) ?_ _
      clear P1 P2
      go_wp2_with fail
      go_roundw
      case rel => exact ⟨k + 1, by omega, by go_num, Y, U, C4, S4, C6, S7, Q⟩
      case measure => simp [intOf]; omega
    · obtain rfl : k = s1.length + s2.length := by omega
      clear S4 O_S4_Y O_S4_U
      clear S7 
      obtain ⟨g1, o1, h41, -, -⟩ := ClR.at_ (l := l3) C4.out (k := 0) (by have := HL3.out; omega)
      obtain ⟨g2, o2, h72, -, -⟩ := ClR.at_ (l := l3) C6.out (k := 0) (by have := HL3.out; omega)
      subst h41 h72
      obtain ⟨y0, y1⟩ := bus_cells Y.out
      go_wp2_with fail
      clear y0 y1
      go_loopw [130] (fun vi W => ∃ k : Nat, k ≤ M ∧ vi = .int .i64 k ∧ Hid (W.heap[y2]? = some (.cells (busL (some ⟨g1, o1, none⟩) M c4 (11 + ((a : Int) + (z : Int)))).toArray 25 (0, 0))) ∧ Hid (W.heap[y4]? = some (.cells (busL (some ⟨g2, o2, none⟩) M c6 (11 + ((a : Int) + (z : Int)))).toArray 25 (0, 0))) ∧ Hid (Rd W W.heap.size (some ⟨g1, o1, none⟩) 23 (clRows l3)) ∧ Hid (Rd W W.heap.size (some ⟨g2, o2, none⟩) 23 (clRows l3)) ∧ Hid (Below w.heap.size w W)) (fun vi _ => M - (intOf vi).toNat)
      case atStart => exact ⟨0, Nat.zero_le _, rfl, Y, U, C4, C6, Q⟩
      case round =>
        clear Y U C4 C6 Q
        obtain ⟨k, hk, rfl, Y, U, C4, C6, Q⟩ := hrel
        by_cases hlt : k < M
        · have hki : (k : Int) < (M : Int) := by omega
          have hkN : k < l3.length := by have := HL3.out; omega
          have hk0 : ¬ (k : Int) < 0 := by omega
          obtain ⟨g1', o1', h41, -, r1⟩ := ClR.at_ (l := l3) C4.out hkN
          obtain ⟨g2', o2', h72, -, r2⟩ := ClR.at_ (l := l3) C6.out hkN
          cases h41
          cases h72
          have P1 := hide r1
          have P2 := hide r2
          generalize l3[k] = e at *
          clear r1 r2 hkN
          go_upto_region 21 with fail
          refine wp_region_L [0, 1, 2, 3, 4, 5, 6, 7, 8, 9, 10] [(1, fun W => W.heap[y2]? = some (.cells (busL (some ⟨g1, o1, none⟩) M c4 (11 + ((a : Int) + (z : Int)))).toArray 25 (0, 0))), (4, fun W => W.rangeAt g1 (o1 + k * 23) e.cs), (6, fun W => W.heap[y4]? = some (.cells (busL (some ⟨g2, o2, none⟩) M c6 (11 + ((a : Int) + (z : Int)))).toArray 25 (0, 0))), (9, fun W => W.rangeAt g2 (o2 + k * 23) e.cs)] (by kernel_rfl) ?_
          replace P1 := hide (show wr.drew.rangeAt g1 (o1 + k * 23) e.cs from P1.out)
          replace P2 := hide (show wr.drew.rangeAt g2 (o2 + k * 23) e.cs from P2.out)
          replace Y := hide (show wr.drew.heap[y2]? = some (.cells (busL (some ⟨g1, o1, none⟩) M c4 (11 + ((a : Int) + (z : Int)))).toArray 25 (0, 0)) from Y.out)
          replace U := hide (show wr.drew.heap[y4]? = some (.cells (busL (some ⟨g2, o2, none⟩) M c6 (11 + ((a : Int) + (z : Int)))).toArray 25 (0, 0)) from U.out)
          replace C4 := hide (show Rd (wr.drew) (wr.drew).heap.size (some ⟨g1, o1, none⟩) 23 (clRows l3) from C4.out)
          replace C6 := hide (show Rd (wr.drew) (wr.drew).heap.size (some ⟨g2, o2, none⟩) 23 (clRows l3) from C6.out)
          replace Q := hide (show Below w.heap.size w wr.drew from Q.out.drew)
          generalize wr.drew = w35' at *
          refine wpAnyL_pure (i := 0) (v := .pointer (some ⟨y2, 0, none⟩)) rfl rfl (by kernel_rfl) (by kernel_rfl) (by kernel_rfl) (by kernel_rfl) (by kernel_rfl) (fun _ _ _ h => h) rfl (fun W => by go_simp) ?_
          go_simp
          refine wpAnyL_load (i := 1) (v := .slice (some ⟨g1, o1, none⟩) M c4) rfl rfl (by kernel_rfl) (by kernel_rfl) (by kernel_rfl) (by kernel_rfl) (by kernel_rfl) (fun _ _ _ h => h) rfl (fun W h => by have h0 : W.cell? ⟨y2, 0, none⟩ = some (.slice (some ⟨g1, o1, none⟩) M c4) := (by simp [World.cell?, h, busL]); clear h; go_simp) (Y.out) ?_
          go_simp
          refine wpAnyL_pure (i := 2) (v := .int .i64 k) rfl rfl (by kernel_rfl) (by kernel_rfl) (by kernel_rfl) (by kernel_rfl) (by kernel_rfl) (fun _ _ _ h => h) rfl (fun W => by go_simp) ?_
          go_simp
          refine wpAnyL_pure (i := 3) (v := .pointer (some ⟨g1, o1 + k * 23, none⟩)) rfl rfl (by kernel_rfl) (by kernel_rfl) (by kernel_rfl) (by kernel_rfl) (by kernel_rfl) (fun _ _ _ h => h) rfl (fun W => by go_simp) ?_
          go_simp
          refine wpAnyL_load (i := 4) (v := .agg e.cs.toArray) rfl rfl (by kernel_rfl) (by kernel_rfl) (by kernel_rfl) (by kernel_rfl) (by kernel_rfl) (fun _ _ _ h => h) rfl (fun W h => exec_load W g1 (o1 + k * 23) 53 e.cs _ h Tryz.underlying53 rfl (by kernel_rfl) _ _ (.tmp 136) (by rfl) (by rfl)) (P1.out) ?_
          go_simp
          refine wpAnyL_pure (i := 5) (v := .pointer (some ⟨y4, 0, none⟩)) rfl rfl (by kernel_rfl) (by kernel_rfl) (by kernel_rfl) (by kernel_rfl) (by kernel_rfl) (fun _ _ _ h => h) rfl (fun W => by go_simp) ?_
          go_simp
          refine wpAnyL_load (i := 6) (v := .slice (some ⟨g2, o2, none⟩) M c6) rfl rfl (by kernel_rfl) (by kernel_rfl) (by kernel_rfl) (by kernel_rfl) (by kernel_rfl) (fun _ _ _ h => h) rfl (fun W h => by have h0 : W.cell? ⟨y4, 0, none⟩ = some (.slice (some ⟨g2, o2, none⟩) M c6) := (by simp [World.cell?, h, busL]); clear h; go_simp) (U.out) ?_
          go_simp
          refine wpAnyL_pure (i := 7) (v := .int .i64 k) rfl rfl (by kernel_rfl) (by kernel_rfl) (by kernel_rfl) (by kernel_rfl) (by kernel_rfl) (fun _ _ _ h => h) rfl (fun W => by go_simp) ?_
          go_simp
          refine wpAnyL_pure (i := 8) (v := .pointer (some ⟨g2, o2 + k * 23, none⟩)) rfl rfl (by kernel_rfl) (by kernel_rfl) (by kernel_rfl) (by kernel_rfl) (by kernel_rfl) (fun _ _ _ h => h) rfl (fun W => by go_simp) ?_
          go_simp
          refine wpAnyL_load (i := 9) (v := .agg e.cs.toArray) rfl rfl (by kernel_rfl) (by kernel_rfl) (by kernel_rfl) (by kernel_rfl) (by kernel_rfl) (fun _ _ _ h => h) rfl (fun W h => exec_load W g2 (o2 + k * 23) 53 e.cs _ h Tryz.underlying53 rfl (by kernel_rfl) _ _ (.tmp 141) (by rfl) (by rfl)) (P2.out) ?_
          go_simp
          refine wpAnyL_pure (i := 10) (v := .bool false) rfl rfl (by kernel_rfl) (by kernel_rfl) (by kernel_rfl) (by kernel_rfl) (by kernel_rfl) (fun _ _ _ h => h) rfl (fun W => exec_neq_cl e _ _ (.tmp 137) (.tmp 142) _ (by rfl) (by rfl) (by rfl) W) ?_
          go_simp
          refine wpAnyL_done (by kernel_rfl) ?_ _
          clear P1 P2
          go_wp2_with fail
          refine ⟨⟨_, _, _, ⟨k + 1, by omega, by go_num⟩, rfl, rfl, rfl⟩, ?_⟩
          simp [intOf]; omega
        · obtain rfl : M = k := by omega
          go_wp2_with fail
          go_ret
          exact ⟨rfl, Q.out⟩
end Go.Proofs.YtjfgapljfbkfiaaGreatDoor
