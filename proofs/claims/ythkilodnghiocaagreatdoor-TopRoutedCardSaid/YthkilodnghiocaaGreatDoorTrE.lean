/- pdur.Put of a router of one path. -/
import Derived.Test.YthkilodnghiocaaGreatDoorTrD
namespace Go.Proofs.YthkilodnghiocaaGreatDoor
open Go.ChangeShapes Go.WideShapes Go.ChangeAt Go.RowKit

theorem own_besideT {W : World} {base : Nat} {e : TypeId} {sz : Nat} {A : Option Addr} {c : Nat} {R : List (List Value)} {x : Nat} (h : Own W base e sz A c R) (hx : ∀ g off, A = some ⟨g, off, none⟩ → g ≠ x) (o : Nat) (vs : List Value) : Own (W.setCells x o vs) base e sz A c R := by
  have k := Kp.set (S := fun k => k = x) W x o vs rfl
  refine World.ownsRow.kept h (row := some x) ⟨k.os, k.tape, k.output, k.size, fun i hi hr => k.block i hi (fun e => hr (by rw [e]))⟩ ?_
  rcases h.2 with ⟨hv, _⟩ | ⟨g1, cap, cur, hv, _, _⟩
  · simp only [Value.slice.injEq] at hv
    obtain ⟨rfl, _, _⟩ := hv
    simp [Value.ownBlock]
  · simp only [Value.slice.injEq] at hv
    obtain ⟨rfl, _, _⟩ := hv
    have := hx g1 0 rfl
    simp [Value.ownBlock]
    omega

theorem own_gtT {W : World} {base e sz g c : Nat} {R : List (List Value)} (h : Own W base e sz (some ⟨g, 0, none⟩) c R) (hn : 0 < R.length) : g < W.heap.size := by
  obtain ⟨g2, e2, _, h2⟩ := Own.ofLen h hn
  cases e2
  exact h2
theorem own_rg {W : World} {base g c : Nat} {A : Option Addr} {n k : Nat} (h : Own W base 27 6 (some ⟨g, 0, none⟩) c [ptc (pt1 A n k)]) : W.rangeAt g 3 (rgL A n k) := fun j v hv => by
  have := own_pt h (3 + j) v (by
    match j, hv with
    | 0, hv => exact hv
    | 1, hv => exact hv
    | 2, hv => exact hv
    | j + 3, hv => simp [rgL] at hv)
  simpa using this

set_option maxRecDepth 100000 in
set_option maxHeartbeats 16000000 in
theorem put1_full (x : ByteArray) (l : List ByteArray) (PA OA A : Option Addr) (pc oc c pc1 N g fb rb db lb tb : Nat) (w0 w : World) (F : Hid (w.heap[fb]? = some (.cells #[.int .i64 1] 3 (0, 0)))) (R : Hid (w.heap[rb]? = some (.cells (rtL PA pc OA oc).toArray 31 (0, 0)))) (D : Hid (w.heap[db]? = some (.cells #[.string x] 9 (0, 0)))) (L : Hid (w.heap[lb]? = some (.cells #[.int .i64 0] 3 (0, 0)))) (T : Hid (w.heap[tb]? = some (.cells #[.int .i64 0] 3 (0, 0)))) (OP : Hid (Own w N 27 6 (some ⟨g, 0, none⟩) pc1 [ptc (pt1 A l.length c)])) (HI : Hid (StR w0 w0.heap.size A l)) (HO : Hid (Rd w0 w0.heap.size OA 1 [[.bool true]])) (Q : Hid (Below w0.heap.size w0 w)) (hz : rb < fb ∧ fb < db ∧ db < w0.heap.size ∧ w0.heap.size ≤ tb ∧ tb < lb ∧ lb < N ∧ N ≤ g) (hl : l.length = 4) :
    Calls Tryz.prog 12 #[.pointer (some ⟨g, 0, none⟩), .pointer (some ⟨fb, 0, none⟩), .pointer (some ⟨rb, 0, none⟩), .pointer (some ⟨db, 0, none⟩), .pointer (some ⟨lb, 0, none⟩), .pointer (some ⟨tb, 0, none⟩)] w fun e w' => e = .returned (.tuple #[]) ∧ Hid (w'.heap[rb]? = some (.cells (rtL PA pc OA oc).toArray 31 (0, 0))) ∧ Hid (w'.heap[lb]? = some (.cells #[.int .i64 1] 3 (0, 0))) ∧ Hid (w'.heap[tb]? = some (.cells #[.int .i64 0] 3 (0, 0))) ∧ Hid (Own w' N 27 6 (some ⟨g, 0, none⟩) pc1 [ptc (pt1 A l.length c)]) ∧ Hid (Below w0.heap.size w0 w') := by
  replace hl := hide hl
  obtain ⟨z0, z1, z2, z3, z4, z5, z6⟩ := hz
  obtain ⟨ob, oo, hOA, hob, hrow⟩ := HO.out (by simp)
  have O0 := hide (show w.cell? ⟨ob, oo, none⟩ = some (.bool true) from cellBelow Q.out hob (by have := hrow 0 _ 0 _ rfl rfl; simpa using this))
  clear hrow
  subst hOA
  go_enter Tryz.func12, Tryz.ntmps12
  go_upto_region 0 with fail
  have P0 := hide (show w.cell? ⟨g, 0, none⟩ = some (.int .i64 1) from own_pt OP.out 0 _ rfl)
  have P2 := hide (show w.cell? ⟨g, 2, none⟩ = some (.int .i64 0) from own_pt OP.out 2 _ rfl)
  refine wp_region_L [0, 1, 2, 3, 4, 5, 6, 7, 8, 9, 10, 11, 12, 13, 14, 15, 16] [(3, fun W => W.cell? ⟨g, 0, none⟩ = some (.int .i64 1)), (4, fun W => W.heap[fb]? = some (.cells ([.int .i64 1]).toArray 3 (0, 0))), (8, fun W => W.heap[rb]? = some (.cells (rtL PA pc (some ⟨ob, oo, none⟩) oc).toArray 31 (0, 0))), (12, fun W => W.cell? ⟨g, 2, none⟩ = some (.int .i64 0)), (14, fun W => W.cell? ⟨ob, oo, none⟩ = some (.bool true))] (by kernel_rfl) ?_
  replace F := hide (show w.drew.heap[fb]? = some (.cells ([.int .i64 1]).toArray 3 (0, 0)) from F.out)
  replace R := hide (show w.drew.heap[rb]? = some (.cells (rtL PA pc (some ⟨ob, oo, none⟩) oc).toArray 31 (0, 0)) from R.out)
  replace D := hide (show w.drew.heap[db]? = some (.cells ([.string x]).toArray 9 (0, 0)) from D.out)
  replace L := hide (show w.drew.heap[lb]? = some (.cells ([.int .i64 0]).toArray 3 (0, 0)) from L.out)
  replace T := hide (show w.drew.heap[tb]? = some (.cells ([.int .i64 0]).toArray 3 (0, 0)) from T.out)
  replace OP := hide (show Own (w.drew) N 27 6 (some ⟨g, 0, none⟩) pc1 [ptc (pt1 A l.length c)] from (OP.out.grown ((Below.refl w.heap.size w).drew)))
  replace P0 := hide (show (w.drew).cell? ⟨g, 0, none⟩ = some (.int .i64 1) from P0.out)
  replace P2 := hide (show (w.drew).cell? ⟨g, 2, none⟩ = some (.int .i64 0) from P2.out)
  replace O0 := hide (show (w.drew).cell? ⟨ob, oo, none⟩ = some (.bool true) from O0.out)
  replace Q := hide (show Below w0.heap.size w0 w.drew from Q.out.drew)
  generalize w.drew = w1' at *
  refine wpAnyL_pure (i := 0) (v := .pointer (some ⟨g, 0, none⟩)) rfl rfl (by kernel_rfl) (by kernel_rfl) (by kernel_rfl) (by kernel_rfl) (by kernel_rfl) (fun _ _ _ h => h) rfl (fun W => by go_simp) ?_
  go_simp
  refine wpAnyL_pure (i := 1) (v := .pointer (some ⟨g, 0, none⟩)) rfl rfl (by kernel_rfl) (by kernel_rfl) (by kernel_rfl) (by kernel_rfl) (by kernel_rfl) (fun _ _ _ h => h) rfl (fun W => by go_simp) ?_
  go_simp
  refine wpAnyL_pure (i := 2) (v := .pointer (some ⟨g, 0, none⟩)) rfl rfl (by kernel_rfl) (by kernel_rfl) (by kernel_rfl) (by kernel_rfl) (by kernel_rfl) (fun _ _ _ h => h) rfl (fun W => by go_simp) ?_
  go_simp
  refine wpAnyL_load (i := 3) (v := .int .i64 1) rfl rfl (by kernel_rfl) (by kernel_rfl) (by kernel_rfl) (by kernel_rfl) (by kernel_rfl) (fun _ _ _ h => h) rfl (fun W h => by (have hc0 := h; clear h; go_simp)) (P0.out) ?_
  go_simp
  refine wpAnyL_load (i := 4) (v := .int .i64 1) rfl rfl (by kernel_rfl) (by kernel_rfl) (by kernel_rfl) (by kernel_rfl) (by kernel_rfl) (fun _ _ _ h => h) rfl (fun W h => by (have hc0 : W.cell? ⟨fb, 0, none⟩ = some (.int .i64 1) := by simp [World.cell?, h]); clear h; go_simp) (F.out) ?_
  go_simp
  refine wpAnyL_pure (i := 5) (v := .bool false) rfl rfl (by kernel_rfl) (by kernel_rfl) (by kernel_rfl) (by kernel_rfl) (by kernel_rfl) (fun _ _ _ h => h) rfl (fun W => by go_simp) ?_
  go_simp
  refine wpAnyL_pure (i := 6) (v := .bool false) rfl rfl (by kernel_rfl) (by kernel_rfl) (by kernel_rfl) (by kernel_rfl) (by kernel_rfl) (fun _ _ _ h => h) rfl (fun W => by go_simp) ?_
  go_simp
  refine wpAnyL_pureG (i := 7) (v := .pointer (some ⟨rb, 1, none⟩)) rfl rfl (by kernel_rfl) (by kernel_rfl) (by kernel_rfl) (by kernel_rfl) (by kernel_rfl) (fun _ _ _ h => h) (by kernel_rfl) (fun W => by go_simp) ?_
  go_simp
  refine wpAnyL_loadG (i := 8) (v := .slice (some ⟨ob, oo, none⟩) 1 oc) rfl rfl (by kernel_rfl) (by kernel_rfl) (by kernel_rfl) (by kernel_rfl) (by kernel_rfl) (fun _ _ _ h => h) (by kernel_rfl) (fun W h => by (have hc0 := (two_cellsT h).2; clear h; go_simp)) (R.out) ?_
  go_simp
  refine wpAnyL_pureG (i := 9) (v := .pointer (some ⟨g, 0, none⟩)) rfl rfl (by kernel_rfl) (by kernel_rfl) (by kernel_rfl) (by kernel_rfl) (by kernel_rfl) (fun _ _ _ h => h) (by kernel_rfl) (fun W => by go_simp) ?_
  go_simp
  refine wpAnyL_pureG (i := 10) (v := .pointer (some ⟨g, 0, none⟩)) rfl rfl (by kernel_rfl) (by kernel_rfl) (by kernel_rfl) (by kernel_rfl) (by kernel_rfl) (fun _ _ _ h => h) (by kernel_rfl) (fun W => by go_simp) ?_
  go_simp
  refine wpAnyL_pureG (i := 11) (v := .pointer (some ⟨g, 2, none⟩)) rfl rfl (by kernel_rfl) (by kernel_rfl) (by kernel_rfl) (by kernel_rfl) (by kernel_rfl) (fun _ _ _ h => h) (by kernel_rfl) (fun W => by go_simp) ?_
  go_simp
  refine wpAnyL_loadG (i := 12) (v := .int .i64 0) rfl rfl (by kernel_rfl) (by kernel_rfl) (by kernel_rfl) (by kernel_rfl) (by kernel_rfl) (fun _ _ _ h => h) (by kernel_rfl) (fun W h => by (have hc0 := h; clear h; go_simp)) (P2.out) ?_
  go_simp
  refine wpAnyL_pureG (i := 13) (v := .pointer (some ⟨ob, oo, none⟩)) rfl rfl (by kernel_rfl) (by kernel_rfl) (by kernel_rfl) (by kernel_rfl) (by kernel_rfl) (fun _ _ _ h => h) (by kernel_rfl) (fun W => by go_simp) ?_
  go_simp
  refine wpAnyL_loadG (i := 14) (v := .bool true) rfl rfl (by kernel_rfl) (by kernel_rfl) (by kernel_rfl) (by kernel_rfl) (by kernel_rfl) (fun _ _ _ h => h) (by kernel_rfl) (fun W h => by (have hc0 := h; clear h; go_simp)) (O0.out) ?_
  go_simp
  refine wpAnyL_pureG (i := 15) (v := .bool false) rfl rfl (by kernel_rfl) (by kernel_rfl) (by kernel_rfl) (by kernel_rfl) (by kernel_rfl) (fun _ _ _ h => h) (by kernel_rfl) (fun W => by go_simp) ?_
  go_simp
  refine wpAnyL_pure (i := 16) (v := .bool false) rfl rfl (by kernel_rfl) (by kernel_rfl) (by kernel_rfl) (by kernel_rfl) (by kernel_rfl) (fun _ _ _ h => h) rfl (fun W => by go_simp) ?_
  go_simp
  refine wpAnyL_done (by kernel_rfl) ?_ _
  clear P0 P2 O0
  go_upto_region 1 with fail
  have PR := hide (own_rg OP.out)
  refine wp_region_L [0, 1, 2, 3, 4, 6, 7, 8, 9] [(3, fun W => W.rangeAt g 3 (rgL A l.length c)), (4, fun W => W.heap[db]? = some (.cells ([.string x]).toArray 9 (0, 0)))] (by kernel_rfl) ?_
  replace F := hide (show w1'.drew.heap[fb]? = some (.cells ([.int .i64 1]).toArray 3 (0, 0)) from F.out)
  replace R := hide (show w1'.drew.heap[rb]? = some (.cells (rtL PA pc (some ⟨ob, oo, none⟩) oc).toArray 31 (0, 0)) from R.out)
  replace D := hide (show w1'.drew.heap[db]? = some (.cells ([.string x]).toArray 9 (0, 0)) from D.out)
  replace L := hide (show w1'.drew.heap[lb]? = some (.cells ([.int .i64 0]).toArray 3 (0, 0)) from L.out)
  replace T := hide (show w1'.drew.heap[tb]? = some (.cells ([.int .i64 0]).toArray 3 (0, 0)) from T.out)
  replace OP := hide (show Own (w1'.drew) N 27 6 (some ⟨g, 0, none⟩) pc1 [ptc (pt1 A l.length c)] from (OP.out.grown ((Below.refl w1'.heap.size w1').drew)))
  replace PR := hide (show (w1'.drew).rangeAt g 3 (rgL A l.length c) from PR.out)
  replace Q := hide (show Below w0.heap.size w0 w1'.drew from Q.out.drew)
  generalize w1'.drew = w2' at *
  refine wpAnyL_pure (i := 0) (v := .pointer (some ⟨g, 0, none⟩)) rfl rfl (by kernel_rfl) (by kernel_rfl) (by kernel_rfl) (by kernel_rfl) (by kernel_rfl) (fun _ _ _ h => h) rfl (fun W => by go_simp) ?_
  go_simp
  refine wpAnyL_pure (i := 1) (v := .pointer (some ⟨g, 0, none⟩)) rfl rfl (by kernel_rfl) (by kernel_rfl) (by kernel_rfl) (by kernel_rfl) (by kernel_rfl) (fun _ _ _ h => h) rfl (fun W => by go_simp) ?_
  go_simp
  refine wpAnyL_pure (i := 2) (v := .pointer (some ⟨g, 3, none⟩)) rfl rfl (by kernel_rfl) (by kernel_rfl) (by kernel_rfl) (by kernel_rfl) (by kernel_rfl) (fun _ _ _ h => h) rfl (fun W => by go_simp) ?_
  go_simp
  refine wpAnyL_load (i := 3) (v := .agg (rgL A l.length c).toArray) rfl rfl (by kernel_rfl) (by kernel_rfl) (by kernel_rfl) (by kernel_rfl) (by kernel_rfl) (fun _ _ _ h => h) rfl (fun W h => exec_load W g 3 25 (rgL A l.length c) _ h Tryz.underlying25 rfl (by kernel_rfl) _ _ (.tmp 30) (by rfl) (by rfl)) (PR.out) ?_
  go_simp
  refine wpAnyL_load (i := 4) (v := .string x) rfl rfl (by kernel_rfl) (by kernel_rfl) (by kernel_rfl) (by kernel_rfl) (by kernel_rfl) (fun _ _ _ h => h) rfl (fun W h => by (have hc0 : W.cell? ⟨db, 0, none⟩ = some (.string x) := by simp [World.cell?, h]); clear h; go_simp) (D.out) ?_
  go_simp
  clear PR
  refine wpAnyL_two (i := 5) (k := 10) (by kernel_rfl) ?_ ?_
  · refine wpOp_do rfl rfl ?_
    go_simp
    have C1 := hide (rgPut_full l A c x w2' hl.out)
    (with_reducible refine C1.out.mono ?_)
    rintro ew3' w3' ⟨⟨_, rfl, rfl⟩, qw3'⟩
    have zW := Q.out.size
    clear C1
    replace F := hide (heap_below F.out qw3')
    replace R := hide (heap_below R.out qw3')
    replace D := hide (heap_below D.out qw3')
    replace L := hide (heap_below L.out qw3')
    replace T := hide (heap_below T.out qw3')
    replace OP := hide ((OP.out.grown qw3'))
    replace Q := hide (below_next Q.out Q.out.size qw3')
    clear qw3'
    go_simp
    refine ⟨keepsL_mk (by kernel_rfl) (.cons (own_rg OP.out) (.cons (by exact D.out) .nil)), ?_⟩
    go_simp
    refine wpAnyL_pure (i := 6) (v := .tuple #[.agg ([.slice none 0 0, .int .i64 0, .bool false]).toArray, .int .i64 0, .int .i64 20]) rfl rfl (by kernel_rfl) (by kernel_rfl) (by kernel_rfl) (by kernel_rfl) (by kernel_rfl) (fun _ _ _ h => h) rfl (fun W => by go_simp) ?_
    go_simp
    refine wpAnyL_pure (i := 7) (v := .agg ([.slice none 0 0, .int .i64 0, .bool false]).toArray) rfl rfl (by kernel_rfl) (by kernel_rfl) (by kernel_rfl) (by kernel_rfl) (by kernel_rfl) (fun _ _ _ h => h) rfl (fun W => by go_simp) ?_
    go_simp
    refine wpAnyL_pure (i := 8) (v := .int .i64 0) rfl rfl (by kernel_rfl) (by kernel_rfl) (by kernel_rfl) (by kernel_rfl) (by kernel_rfl) (fun _ _ _ h => h) rfl (fun W => by go_simp) ?_
    go_simp
    refine wpAnyL_pure (i := 9) (v := .int .i64 20) rfl rfl (by kernel_rfl) (by kernel_rfl) (by kernel_rfl) (by kernel_rfl) (by kernel_rfl) (fun _ _ _ h => h) rfl (fun W => by go_simp) ?_
    go_simp
    refine wpAnyL_one (i := 10) (by kernel_rfl) ?_
    refine wpOp_do rfl rfl ?_
    go_simp
    have X := hide (World.alloc_heap_new w3' (.cells ([.slice none 0 0, .int .i64 0, .bool false]).toArray 25))
    have zFxr : fb < w3'.heap.size := heap_lt F.out
    have zRxr : rb < w3'.heap.size := heap_lt R.out
    have zDxr : db < w3'.heap.size := heap_lt D.out
    have zLxr : lb < w3'.heap.size := heap_lt L.out
    have zTxr : tb < w3'.heap.size := heap_lt T.out
    have zOPxr := own_gtT OP.out (by simp)
    have zQxr : w0.heap.size ≤ w3'.heap.size := Q.out.size
    have q5' : Below w3'.heap.size w3' (w3'.alloc (.cells ([.slice none 0 0, .int .i64 0, .bool false]).toArray 25)) := (Below.refl _ _).alloc (Nat.le_refl _) _
    replace F := hide (heap_below F.out q5')
    replace R := hide (heap_below R.out q5')
    replace D := hide (heap_below D.out q5')
    replace L := hide (heap_below L.out q5')
    replace T := hide (heap_below T.out q5')
    replace OP := hide ((OP.out.grown q5'))
    replace Q := hide (below_next Q.out Q.out.size q5')
    clear q5'
    refine ⟨keepsL_mk (by kernel_rfl) (.cons (own_rg OP.out) (.cons (by exact D.out) .nil)), ?_⟩
    change wpAnyL _ _ _ _ _ _ _ _ _ (w3'.alloc (.cells ([.slice none 0 0, .int .i64 0, .bool false]).toArray 25))
    generalize w3'.alloc (.cells ([.slice none 0 0, .int .i64 0, .bool false]).toArray 25) = w4' at *
    generalize w3'.heap.size = xr at *
    go_simp
    refine wpAnyL_one (i := 11) (by kernel_rfl) ?_
    refine wpOp_do rfl rfl ?_
    have Tw6' := hide (show World.there _ xr 0 3 from there_heap (cs := [.slice none 0 0, .int .i64 0, .bool false]) X.out)
    refine wp_store_as 25 (.tmp 7) (.tmp 34) rfl xr 0 ([.slice none 0 0, .int .i64 0, .bool false]) (by rfl) (by rfl) (by exact Tw6'.out) (by kernel_rfl) (by simp [Value.oneCell', rgL]) ?_
    intro w6' ew6'
    replace F := hide (show w6'.heap[fb]? = some (.cells ([.int .i64 1]).toArray 3 (0, 0)) by rw [ew6']; exact other_heap (by omega) _ _ _ F.out)
    replace R := hide (show w6'.heap[rb]? = some (.cells (rtL PA pc (some ⟨ob, oo, none⟩) oc).toArray 31 (0, 0)) by rw [ew6']; exact other_heap (by omega) _ _ _ R.out)
    replace D := hide (show w6'.heap[db]? = some (.cells ([.string x]).toArray 9 (0, 0)) by rw [ew6']; exact other_heap (by omega) _ _ _ D.out)
    replace L := hide (show w6'.heap[lb]? = some (.cells ([.int .i64 0]).toArray 3 (0, 0)) by rw [ew6']; exact other_heap (by omega) _ _ _ L.out)
    replace T := hide (show w6'.heap[tb]? = some (.cells ([.int .i64 0]).toArray 3 (0, 0)) by rw [ew6']; exact other_heap (by omega) _ _ _ T.out)
    replace OP := hide (show Own w6' N 27 6 (some ⟨g, 0, none⟩) pc1 [ptc (pt1 A l.length c)] by rw [ew6']; exact own_besideT OP.out (fun g9 off e => by cases e; omega) _ _)
    replace Q := hide (show Below w0.heap.size w0 w6' by rw [ew6']; exact Q.out.trans (below_setCells _ _ _ (by have := Q.out.size; omega)))
    replace X := hide (show w6'.heap[xr]? = some (.cells ([.slice none 0 0, .int .i64 0, .bool false]).toArray 25 (0, 0)) by rw [ew6']; exact whole_heap ([.slice none 0 0, .int .i64 0, .bool false]) (xs := [.slice none 0 0, .int .i64 0, .bool false]) X.out rfl)
    clear ew6' Tw6'
    refine ⟨keepsL_all (by kernel_rfl) (by kernel_rfl), ?_⟩
    go_simp
    refine wpAnyL_one (i := 12) (by kernel_rfl) ?_
    refine wpOp_do rfl rfl ?_
    go_simp
    refine ⟨keepsL_all (by kernel_rfl) (by kernel_rfl), ?_⟩
    go_simp
    refine wpAnyL_one (i := 13) (by kernel_rfl) ?_
    refine wpOp_do rfl rfl ?_
    go_simp
    refine ⟨keepsL_all (by kernel_rfl) (by kernel_rfl), ?_⟩
    go_simp
    refine wpAnyL_done (by kernel_rfl) ?_ _
    clear X 
    have l0 : w6'.cell? ⟨lb, 0, none⟩ = some (.int .i64 0) := by simp [World.cell?, L.out]
    have hfz : w6'.frozen? ⟨lb, 0, none⟩ = false := by simp [World.frozen?, L.out]
    go_upto_region 3 with fail
    go_wp2_with fail
    obtain ⟨w7', ew7'⟩ : ∃ wq, wq = w6'.setCell ⟨lb, 0, none⟩ (.int .i64 1) := ⟨_, rfl⟩
    rw [← ew7']
    replace F := hide (show w7'.heap[fb]? = some (.cells ([.int .i64 1]).toArray 3 (0, 0)) by rw [ew7']; exact other_heap (by omega) ([.int .i64 1]) 0 _ F.out)
    replace R := hide (show w7'.heap[rb]? = some (.cells (rtL PA pc (some ⟨ob, oo, none⟩) oc).toArray 31 (0, 0)) by rw [ew7']; exact other_heap (by omega) ([.int .i64 1]) 0 _ R.out)
    replace D := hide (show w7'.heap[db]? = some (.cells ([.string x]).toArray 9 (0, 0)) by rw [ew7']; exact other_heap (by omega) ([.int .i64 1]) 0 _ D.out)
    replace T := hide (show w7'.heap[tb]? = some (.cells ([.int .i64 0]).toArray 3 (0, 0)) by rw [ew7']; exact other_heap (by omega) ([.int .i64 1]) 0 _ T.out)
    replace OP := hide (show Own w7' N 27 6 (some ⟨g, 0, none⟩) pc1 [ptc (pt1 A l.length c)] by rw [ew7']; exact own_besideT (x := lb) OP.out (fun g9 off e => by cases e; omega) 0 ([.int .i64 1]))
    replace Q := hide (show Below w0.heap.size w0 w7' by rw [ew7']; exact Q.out.trans (below_setCells ([.int .i64 1]) 0 _ (by omega)))
    replace L := hide (show w7'.heap[lb]? = some (.cells ([.int .i64 1]).toArray 3 (0, 0)) by rw [ew7']; exact set_heap ([.int .i64 1]) ([.int .i64 0]) 0 _ L.out)
    clear ew7'
    refine bodyPost_ret (results_none (by rfl) _ _ _) rfl ⟨rfl, R, L, T, OP, Q⟩
  · refine wpOp_do rfl rfl ?_
    go_simp
    have X := hide (World.alloc_heap_new w2' (.cells ([.slice none 0 0, .int .i64 0, .bool false]).toArray 25))
    have zFxr : fb < w2'.heap.size := heap_lt F.out
    have zRxr : rb < w2'.heap.size := heap_lt R.out
    have zDxr : db < w2'.heap.size := heap_lt D.out
    have zLxr : lb < w2'.heap.size := heap_lt L.out
    have zTxr : tb < w2'.heap.size := heap_lt T.out
    have zOPxr := own_gtT OP.out (by simp)
    have zQxr : w0.heap.size ≤ w2'.heap.size := Q.out.size
    have q9' : Below w2'.heap.size w2' (w2'.alloc (.cells ([.slice none 0 0, .int .i64 0, .bool false]).toArray 25)) := (Below.refl _ _).alloc (Nat.le_refl _) _
    replace F := hide (heap_below F.out q9')
    replace R := hide (heap_below R.out q9')
    replace D := hide (heap_below D.out q9')
    replace L := hide (heap_below L.out q9')
    replace T := hide (heap_below T.out q9')
    replace OP := hide ((OP.out.grown q9'))
    replace Q := hide (below_next Q.out Q.out.size q9')
    clear q9'
    refine ⟨keepsL_mk (by kernel_rfl) (.cons (own_rg OP.out) (.cons (by exact D.out) .nil)), ?_⟩
    change wpAnyL _ _ _ _ _ _ _ _ _ (w2'.alloc (.cells ([.slice none 0 0, .int .i64 0, .bool false]).toArray 25))
    generalize w2'.alloc (.cells ([.slice none 0 0, .int .i64 0, .bool false]).toArray 25) = w8' at *
    generalize w2'.heap.size = xr at *
    go_simp
    refine wpAnyL_one (i := 5) (by kernel_rfl) ?_
    refine wpOp_do rfl rfl ?_
    go_simp
    have C1 := hide (rgPut_full l A c x w8' hl.out)
    (with_reducible refine C1.out.mono ?_)
    rintro ew10' w10' ⟨⟨_, rfl, rfl⟩, qw10'⟩
    have zW := Q.out.size
    clear C1
    replace F := hide (heap_below F.out qw10')
    replace R := hide (heap_below R.out qw10')
    replace D := hide (heap_below D.out qw10')
    replace L := hide (heap_below L.out qw10')
    replace T := hide (heap_below T.out qw10')
    replace X := hide (heap_below X.out qw10')
    replace OP := hide ((OP.out.grown qw10'))
    replace Q := hide (below_next Q.out Q.out.size qw10')
    clear qw10'
    go_simp
    refine ⟨keepsL_mk (by kernel_rfl) (.cons (own_rg OP.out) (.cons (by exact D.out) .nil)), ?_⟩
    go_simp
    refine wpAnyL_pure (i := 6) (v := .tuple #[.agg ([.slice none 0 0, .int .i64 0, .bool false]).toArray, .int .i64 0, .int .i64 20]) rfl rfl (by kernel_rfl) (by kernel_rfl) (by kernel_rfl) (by kernel_rfl) (by kernel_rfl) (fun _ _ _ h => h) rfl (fun W => by go_simp) ?_
    go_simp
    refine wpAnyL_pure (i := 7) (v := .agg ([.slice none 0 0, .int .i64 0, .bool false]).toArray) rfl rfl (by kernel_rfl) (by kernel_rfl) (by kernel_rfl) (by kernel_rfl) (by kernel_rfl) (fun _ _ _ h => h) rfl (fun W => by go_simp) ?_
    go_simp
    refine wpAnyL_pure (i := 8) (v := .int .i64 0) rfl rfl (by kernel_rfl) (by kernel_rfl) (by kernel_rfl) (by kernel_rfl) (by kernel_rfl) (fun _ _ _ h => h) rfl (fun W => by go_simp) ?_
    go_simp
    refine wpAnyL_pure (i := 9) (v := .int .i64 20) rfl rfl (by kernel_rfl) (by kernel_rfl) (by kernel_rfl) (by kernel_rfl) (by kernel_rfl) (fun _ _ _ h => h) rfl (fun W => by go_simp) ?_
    go_simp
    refine wpAnyL_one (i := 11) (by kernel_rfl) ?_
    refine wpOp_do rfl rfl ?_
    have Tw11' := hide (show World.there _ xr 0 3 from there_heap (cs := [.slice none 0 0, .int .i64 0, .bool false]) X.out)
    refine wp_store_as 25 (.tmp 7) (.tmp 34) rfl xr 0 ([.slice none 0 0, .int .i64 0, .bool false]) (by rfl) (by rfl) (by exact Tw11'.out) (by kernel_rfl) (by simp [Value.oneCell', rgL]) ?_
    intro w11' ew11'
    replace F := hide (show w11'.heap[fb]? = some (.cells ([.int .i64 1]).toArray 3 (0, 0)) by rw [ew11']; exact other_heap (by omega) _ _ _ F.out)
    replace R := hide (show w11'.heap[rb]? = some (.cells (rtL PA pc (some ⟨ob, oo, none⟩) oc).toArray 31 (0, 0)) by rw [ew11']; exact other_heap (by omega) _ _ _ R.out)
    replace D := hide (show w11'.heap[db]? = some (.cells ([.string x]).toArray 9 (0, 0)) by rw [ew11']; exact other_heap (by omega) _ _ _ D.out)
    replace L := hide (show w11'.heap[lb]? = some (.cells ([.int .i64 0]).toArray 3 (0, 0)) by rw [ew11']; exact other_heap (by omega) _ _ _ L.out)
    replace T := hide (show w11'.heap[tb]? = some (.cells ([.int .i64 0]).toArray 3 (0, 0)) by rw [ew11']; exact other_heap (by omega) _ _ _ T.out)
    replace OP := hide (show Own w11' N 27 6 (some ⟨g, 0, none⟩) pc1 [ptc (pt1 A l.length c)] by rw [ew11']; exact own_besideT OP.out (fun g9 off e => by cases e; omega) _ _)
    replace Q := hide (show Below w0.heap.size w0 w11' by rw [ew11']; exact Q.out.trans (below_setCells _ _ _ (by have := Q.out.size; omega)))
    replace X := hide (show w11'.heap[xr]? = some (.cells ([.slice none 0 0, .int .i64 0, .bool false]).toArray 25 (0, 0)) by rw [ew11']; exact whole_heap ([.slice none 0 0, .int .i64 0, .bool false]) (xs := [.slice none 0 0, .int .i64 0, .bool false]) X.out rfl)
    clear ew11' Tw11'
    refine ⟨keepsL_all (by kernel_rfl) (by kernel_rfl), ?_⟩
    go_simp
    refine wpAnyL_one (i := 12) (by kernel_rfl) ?_
    refine wpOp_do rfl rfl ?_
    go_simp
    refine ⟨keepsL_all (by kernel_rfl) (by kernel_rfl), ?_⟩
    go_simp
    refine wpAnyL_one (i := 13) (by kernel_rfl) ?_
    refine wpOp_do rfl rfl ?_
    go_simp
    refine ⟨keepsL_all (by kernel_rfl) (by kernel_rfl), ?_⟩
    go_simp
    refine wpAnyL_done (by kernel_rfl) ?_ _
    clear X 
    have l0 : w11'.cell? ⟨lb, 0, none⟩ = some (.int .i64 0) := by simp [World.cell?, L.out]
    have hfz : w11'.frozen? ⟨lb, 0, none⟩ = false := by simp [World.frozen?, L.out]
    go_upto_region 3 with fail
    go_wp2_with fail
    obtain ⟨w12', ew12'⟩ : ∃ wq, wq = w11'.setCell ⟨lb, 0, none⟩ (.int .i64 1) := ⟨_, rfl⟩
    rw [← ew12']
    replace F := hide (show w12'.heap[fb]? = some (.cells ([.int .i64 1]).toArray 3 (0, 0)) by rw [ew12']; exact other_heap (by omega) ([.int .i64 1]) 0 _ F.out)
    replace R := hide (show w12'.heap[rb]? = some (.cells (rtL PA pc (some ⟨ob, oo, none⟩) oc).toArray 31 (0, 0)) by rw [ew12']; exact other_heap (by omega) ([.int .i64 1]) 0 _ R.out)
    replace D := hide (show w12'.heap[db]? = some (.cells ([.string x]).toArray 9 (0, 0)) by rw [ew12']; exact other_heap (by omega) ([.int .i64 1]) 0 _ D.out)
    replace T := hide (show w12'.heap[tb]? = some (.cells ([.int .i64 0]).toArray 3 (0, 0)) by rw [ew12']; exact other_heap (by omega) ([.int .i64 1]) 0 _ T.out)
    replace OP := hide (show Own w12' N 27 6 (some ⟨g, 0, none⟩) pc1 [ptc (pt1 A l.length c)] by rw [ew12']; exact own_besideT (x := lb) OP.out (fun g9 off e => by cases e; omega) 0 ([.int .i64 1]))
    replace Q := hide (show Below w0.heap.size w0 w12' by rw [ew12']; exact Q.out.trans (below_setCells ([.int .i64 1]) 0 _ (by omega)))
    replace L := hide (show w12'.heap[lb]? = some (.cells ([.int .i64 1]).toArray 3 (0, 0)) by rw [ew12']; exact set_heap ([.int .i64 1]) ([.int .i64 0]) 0 _ L.out)
    clear ew12'
    refine bodyPost_ret (results_none (by rfl) _ _ _) rfl ⟨rfl, R, L, T, OP, Q⟩

set_option maxRecDepth 100000 in
set_option maxHeartbeats 16000000 in
theorem put1_ok (x : ByteArray) (l : List ByteArray) (PA OA A : Option Addr) (pc oc c pc1 N g fb rb db lb tb : Nat) (w0 w : World) (F : Hid (w.heap[fb]? = some (.cells #[.int .i64 1] 3 (0, 0)))) (R : Hid (w.heap[rb]? = some (.cells (rtL PA pc OA oc).toArray 31 (0, 0)))) (D : Hid (w.heap[db]? = some (.cells #[.string x] 9 (0, 0)))) (L : Hid (w.heap[lb]? = some (.cells #[.int .i64 0] 3 (0, 0)))) (T : Hid (w.heap[tb]? = some (.cells #[.int .i64 0] 3 (0, 0)))) (OP : Hid (Own w N 27 6 (some ⟨g, 0, none⟩) pc1 [ptc (pt1 A l.length c)])) (HI : Hid (StR w0 w0.heap.size A l)) (HO : Hid (Rd w0 w0.heap.size OA 1 [[.bool true]])) (Q : Hid (Below w0.heap.size w0 w)) (hz : rb < fb ∧ fb < db ∧ db < w0.heap.size ∧ w0.heap.size ≤ tb ∧ tb < lb ∧ lb < N ∧ N ≤ g) (hl : l.length < 4) (hc : l.length ≤ c) :
    Calls Tryz.prog 12 #[.pointer (some ⟨g, 0, none⟩), .pointer (some ⟨fb, 0, none⟩), .pointer (some ⟨rb, 0, none⟩), .pointer (some ⟨db, 0, none⟩), .pointer (some ⟨lb, 0, none⟩), .pointer (some ⟨tb, 0, none⟩)] w fun e w' => ∃ A' c', e = .returned (.tuple #[]) ∧ Hid (w'.heap[rb]? = some (.cells (rtL PA pc OA oc).toArray 31 (0, 0))) ∧ Hid (w'.heap[lb]? = some (.cells #[.int .i64 0] 3 (0, 0))) ∧ Hid (w'.heap[tb]? = some (.cells #[.int .i64 1] 3 (0, 0))) ∧ Hid (Own w' N 27 6 (some ⟨g, 0, none⟩) pc1 [ptc (pt1 A' (l.length + 1) c')]) ∧ Hid (Own w' N 9 1 A' c' (stRow (l ++ [x]))) ∧ Hid (Below w0.heap.size w0 w') := by
  replace hl := hide hl
  replace hc := hide hc
  obtain ⟨z0, z1, z2, z3, z4, z5, z6⟩ := hz
  obtain ⟨ob, oo, hOA, hob, hrow⟩ := HO.out (by simp)
  have O0 := hide (show w.cell? ⟨ob, oo, none⟩ = some (.bool true) from cellBelow Q.out hob (by have := hrow 0 _ 0 _ rfl rfl; simpa using this))
  clear hrow
  subst hOA
  go_enter Tryz.func12, Tryz.ntmps12
  go_upto_region 0 with fail
  have P0 := hide (show w.cell? ⟨g, 0, none⟩ = some (.int .i64 1) from own_pt OP.out 0 _ rfl)
  have P2 := hide (show w.cell? ⟨g, 2, none⟩ = some (.int .i64 0) from own_pt OP.out 2 _ rfl)
  refine wp_region_L [0, 1, 2, 3, 4, 5, 6, 7, 8, 9, 10, 11, 12, 13, 14, 15, 16] [(3, fun W => W.cell? ⟨g, 0, none⟩ = some (.int .i64 1)), (4, fun W => W.heap[fb]? = some (.cells ([.int .i64 1]).toArray 3 (0, 0))), (8, fun W => W.heap[rb]? = some (.cells (rtL PA pc (some ⟨ob, oo, none⟩) oc).toArray 31 (0, 0))), (12, fun W => W.cell? ⟨g, 2, none⟩ = some (.int .i64 0)), (14, fun W => W.cell? ⟨ob, oo, none⟩ = some (.bool true))] (by kernel_rfl) ?_
  replace F := hide (show w.drew.heap[fb]? = some (.cells ([.int .i64 1]).toArray 3 (0, 0)) from F.out)
  replace R := hide (show w.drew.heap[rb]? = some (.cells (rtL PA pc (some ⟨ob, oo, none⟩) oc).toArray 31 (0, 0)) from R.out)
  replace D := hide (show w.drew.heap[db]? = some (.cells ([.string x]).toArray 9 (0, 0)) from D.out)
  replace L := hide (show w.drew.heap[lb]? = some (.cells ([.int .i64 0]).toArray 3 (0, 0)) from L.out)
  replace T := hide (show w.drew.heap[tb]? = some (.cells ([.int .i64 0]).toArray 3 (0, 0)) from T.out)
  replace OP := hide (show Own (w.drew) N 27 6 (some ⟨g, 0, none⟩) pc1 [ptc (pt1 A l.length c)] from (OP.out.grown ((Below.refl w.heap.size w).drew)))
  replace P0 := hide (show (w.drew).cell? ⟨g, 0, none⟩ = some (.int .i64 1) from P0.out)
  replace P2 := hide (show (w.drew).cell? ⟨g, 2, none⟩ = some (.int .i64 0) from P2.out)
  replace O0 := hide (show (w.drew).cell? ⟨ob, oo, none⟩ = some (.bool true) from O0.out)
  replace Q := hide (show Below w0.heap.size w0 w.drew from Q.out.drew)
  generalize w.drew = w1' at *
  refine wpAnyL_pure (i := 0) (v := .pointer (some ⟨g, 0, none⟩)) rfl rfl (by kernel_rfl) (by kernel_rfl) (by kernel_rfl) (by kernel_rfl) (by kernel_rfl) (fun _ _ _ h => h) rfl (fun W => by go_simp) ?_
  go_simp
  refine wpAnyL_pure (i := 1) (v := .pointer (some ⟨g, 0, none⟩)) rfl rfl (by kernel_rfl) (by kernel_rfl) (by kernel_rfl) (by kernel_rfl) (by kernel_rfl) (fun _ _ _ h => h) rfl (fun W => by go_simp) ?_
  go_simp
  refine wpAnyL_pure (i := 2) (v := .pointer (some ⟨g, 0, none⟩)) rfl rfl (by kernel_rfl) (by kernel_rfl) (by kernel_rfl) (by kernel_rfl) (by kernel_rfl) (fun _ _ _ h => h) rfl (fun W => by go_simp) ?_
  go_simp
  refine wpAnyL_load (i := 3) (v := .int .i64 1) rfl rfl (by kernel_rfl) (by kernel_rfl) (by kernel_rfl) (by kernel_rfl) (by kernel_rfl) (fun _ _ _ h => h) rfl (fun W h => by (have hc0 := h; clear h; go_simp)) (P0.out) ?_
  go_simp
  refine wpAnyL_load (i := 4) (v := .int .i64 1) rfl rfl (by kernel_rfl) (by kernel_rfl) (by kernel_rfl) (by kernel_rfl) (by kernel_rfl) (fun _ _ _ h => h) rfl (fun W h => by (have hc0 : W.cell? ⟨fb, 0, none⟩ = some (.int .i64 1) := by simp [World.cell?, h]); clear h; go_simp) (F.out) ?_
  go_simp
  refine wpAnyL_pure (i := 5) (v := .bool false) rfl rfl (by kernel_rfl) (by kernel_rfl) (by kernel_rfl) (by kernel_rfl) (by kernel_rfl) (fun _ _ _ h => h) rfl (fun W => by go_simp) ?_
  go_simp
  refine wpAnyL_pure (i := 6) (v := .bool false) rfl rfl (by kernel_rfl) (by kernel_rfl) (by kernel_rfl) (by kernel_rfl) (by kernel_rfl) (fun _ _ _ h => h) rfl (fun W => by go_simp) ?_
  go_simp
  refine wpAnyL_pureG (i := 7) (v := .pointer (some ⟨rb, 1, none⟩)) rfl rfl (by kernel_rfl) (by kernel_rfl) (by kernel_rfl) (by kernel_rfl) (by kernel_rfl) (fun _ _ _ h => h) (by kernel_rfl) (fun W => by go_simp) ?_
  go_simp
  refine wpAnyL_loadG (i := 8) (v := .slice (some ⟨ob, oo, none⟩) 1 oc) rfl rfl (by kernel_rfl) (by kernel_rfl) (by kernel_rfl) (by kernel_rfl) (by kernel_rfl) (fun _ _ _ h => h) (by kernel_rfl) (fun W h => by (have hc0 := (two_cellsT h).2; clear h; go_simp)) (R.out) ?_
  go_simp
  refine wpAnyL_pureG (i := 9) (v := .pointer (some ⟨g, 0, none⟩)) rfl rfl (by kernel_rfl) (by kernel_rfl) (by kernel_rfl) (by kernel_rfl) (by kernel_rfl) (fun _ _ _ h => h) (by kernel_rfl) (fun W => by go_simp) ?_
  go_simp
  refine wpAnyL_pureG (i := 10) (v := .pointer (some ⟨g, 0, none⟩)) rfl rfl (by kernel_rfl) (by kernel_rfl) (by kernel_rfl) (by kernel_rfl) (by kernel_rfl) (fun _ _ _ h => h) (by kernel_rfl) (fun W => by go_simp) ?_
  go_simp
  refine wpAnyL_pureG (i := 11) (v := .pointer (some ⟨g, 2, none⟩)) rfl rfl (by kernel_rfl) (by kernel_rfl) (by kernel_rfl) (by kernel_rfl) (by kernel_rfl) (fun _ _ _ h => h) (by kernel_rfl) (fun W => by go_simp) ?_
  go_simp
  refine wpAnyL_loadG (i := 12) (v := .int .i64 0) rfl rfl (by kernel_rfl) (by kernel_rfl) (by kernel_rfl) (by kernel_rfl) (by kernel_rfl) (fun _ _ _ h => h) (by kernel_rfl) (fun W h => by (have hc0 := h; clear h; go_simp)) (P2.out) ?_
  go_simp
  refine wpAnyL_pureG (i := 13) (v := .pointer (some ⟨ob, oo, none⟩)) rfl rfl (by kernel_rfl) (by kernel_rfl) (by kernel_rfl) (by kernel_rfl) (by kernel_rfl) (fun _ _ _ h => h) (by kernel_rfl) (fun W => by go_simp) ?_
  go_simp
  refine wpAnyL_loadG (i := 14) (v := .bool true) rfl rfl (by kernel_rfl) (by kernel_rfl) (by kernel_rfl) (by kernel_rfl) (by kernel_rfl) (fun _ _ _ h => h) (by kernel_rfl) (fun W h => by (have hc0 := h; clear h; go_simp)) (O0.out) ?_
  go_simp
  refine wpAnyL_pureG (i := 15) (v := .bool false) rfl rfl (by kernel_rfl) (by kernel_rfl) (by kernel_rfl) (by kernel_rfl) (by kernel_rfl) (fun _ _ _ h => h) (by kernel_rfl) (fun W => by go_simp) ?_
  go_simp
  refine wpAnyL_pure (i := 16) (v := .bool false) rfl rfl (by kernel_rfl) (by kernel_rfl) (by kernel_rfl) (by kernel_rfl) (by kernel_rfl) (fun _ _ _ h => h) rfl (fun W => by go_simp) ?_
  go_simp
  refine wpAnyL_done (by kernel_rfl) ?_ _
  clear P0 P2 O0
  go_upto_region 1 with fail
  have PR := hide (own_rg OP.out)
  refine wp_region_L [0, 1, 2, 3, 4, 6, 7, 8, 9] [(3, fun W => W.rangeAt g 3 (rgL A l.length c)), (4, fun W => W.heap[db]? = some (.cells ([.string x]).toArray 9 (0, 0)))] (by kernel_rfl) ?_
  replace F := hide (show w1'.drew.heap[fb]? = some (.cells ([.int .i64 1]).toArray 3 (0, 0)) from F.out)
  replace R := hide (show w1'.drew.heap[rb]? = some (.cells (rtL PA pc (some ⟨ob, oo, none⟩) oc).toArray 31 (0, 0)) from R.out)
  replace D := hide (show w1'.drew.heap[db]? = some (.cells ([.string x]).toArray 9 (0, 0)) from D.out)
  replace L := hide (show w1'.drew.heap[lb]? = some (.cells ([.int .i64 0]).toArray 3 (0, 0)) from L.out)
  replace T := hide (show w1'.drew.heap[tb]? = some (.cells ([.int .i64 0]).toArray 3 (0, 0)) from T.out)
  replace OP := hide (show Own (w1'.drew) N 27 6 (some ⟨g, 0, none⟩) pc1 [ptc (pt1 A l.length c)] from (OP.out.grown ((Below.refl w1'.heap.size w1').drew)))
  replace PR := hide (show (w1'.drew).rangeAt g 3 (rgL A l.length c) from PR.out)
  replace Q := hide (show Below w0.heap.size w0 w1'.drew from Q.out.drew)
  generalize w1'.drew = w2' at *
  refine wpAnyL_pure (i := 0) (v := .pointer (some ⟨g, 0, none⟩)) rfl rfl (by kernel_rfl) (by kernel_rfl) (by kernel_rfl) (by kernel_rfl) (by kernel_rfl) (fun _ _ _ h => h) rfl (fun W => by go_simp) ?_
  go_simp
  refine wpAnyL_pure (i := 1) (v := .pointer (some ⟨g, 0, none⟩)) rfl rfl (by kernel_rfl) (by kernel_rfl) (by kernel_rfl) (by kernel_rfl) (by kernel_rfl) (fun _ _ _ h => h) rfl (fun W => by go_simp) ?_
  go_simp
  refine wpAnyL_pure (i := 2) (v := .pointer (some ⟨g, 3, none⟩)) rfl rfl (by kernel_rfl) (by kernel_rfl) (by kernel_rfl) (by kernel_rfl) (by kernel_rfl) (fun _ _ _ h => h) rfl (fun W => by go_simp) ?_
  go_simp
  refine wpAnyL_load (i := 3) (v := .agg (rgL A l.length c).toArray) rfl rfl (by kernel_rfl) (by kernel_rfl) (by kernel_rfl) (by kernel_rfl) (by kernel_rfl) (fun _ _ _ h => h) rfl (fun W h => exec_load W g 3 25 (rgL A l.length c) _ h Tryz.underlying25 rfl (by kernel_rfl) _ _ (.tmp 30) (by rfl) (by rfl)) (PR.out) ?_
  go_simp
  refine wpAnyL_load (i := 4) (v := .string x) rfl rfl (by kernel_rfl) (by kernel_rfl) (by kernel_rfl) (by kernel_rfl) (by kernel_rfl) (fun _ _ _ h => h) rfl (fun W h => by (have hc0 : W.cell? ⟨db, 0, none⟩ = some (.string x) := by simp [World.cell?, h]); clear h; go_simp) (D.out) ?_
  go_simp
  clear PR
  refine wpAnyL_two (i := 5) (k := 10) (by kernel_rfl) ?_ ?_
  · refine wpOp_do rfl rfl ?_
    go_simp
    have C1 := hide (rgPut_ok l A c x w2' (Rd.next HI.out Q.out Q.out.size) hl.out hc.out)
    (with_reducible refine C1.out.mono ?_)
    rintro ew3' w3' ⟨A', c', rfl, oS, qw3'⟩
    have zW := Q.out.size
    clear C1
    obtain ⟨gs, rfl, gs1, gs2⟩ := Own.ofLen oS (by simp [stRow])
    have zg := own_gtT OP.out (by simp)
    have ztb := heap_lt T.out
    have zlb := heap_lt L.out
    obtain ⟨NS, hNS⟩ : ∃ NS, NS = w2'.heap.size := ⟨_, rfl⟩
    rw [← hNS] at oS gs1 zg ztb zlb
    replace hNS := hide hNS
    have OS := hide oS
    clear oS gs2
    replace F := hide (heap_below F.out qw3')
    replace R := hide (heap_below R.out qw3')
    replace D := hide (heap_below D.out qw3')
    replace L := hide (heap_below L.out qw3')
    replace T := hide (heap_below T.out qw3')
    replace OP := hide ((OP.out.grown qw3'))
    replace Q := hide (below_next Q.out Q.out.size qw3')
    clear qw3'
    go_simp
    refine ⟨keepsL_mk (by kernel_rfl) (.cons (own_rg OP.out) (.cons (by exact D.out) .nil)), ?_⟩
    go_simp
    refine wpAnyL_pure (i := 6) (v := .tuple #[.agg (rgL (some ⟨gs, 0, none⟩) (l.length + 1) c').toArray, .int .i64 0, .int .i64 0]) rfl rfl (by kernel_rfl) (by kernel_rfl) (by kernel_rfl) (by kernel_rfl) (by kernel_rfl) (fun _ _ _ h => h) rfl (fun W => by go_simp) ?_
    go_simp
    refine wpAnyL_pure (i := 7) (v := .agg (rgL (some ⟨gs, 0, none⟩) (l.length + 1) c').toArray) rfl rfl (by kernel_rfl) (by kernel_rfl) (by kernel_rfl) (by kernel_rfl) (by kernel_rfl) (fun _ _ _ h => h) rfl (fun W => by go_simp) ?_
    go_simp
    refine wpAnyL_pure (i := 8) (v := .int .i64 0) rfl rfl (by kernel_rfl) (by kernel_rfl) (by kernel_rfl) (by kernel_rfl) (by kernel_rfl) (fun _ _ _ h => h) rfl (fun W => by go_simp) ?_
    go_simp
    refine wpAnyL_pure (i := 9) (v := .int .i64 0) rfl rfl (by kernel_rfl) (by kernel_rfl) (by kernel_rfl) (by kernel_rfl) (by kernel_rfl) (fun _ _ _ h => h) rfl (fun W => by go_simp) ?_
    go_simp
    refine wpAnyL_one (i := 10) (by kernel_rfl) ?_
    refine wpOp_do rfl rfl ?_
    go_simp
    have X := hide (World.alloc_heap_new w3' (.cells ([.slice none 0 0, .int .i64 0, .bool false]).toArray 25))
    have zFxr : fb < w3'.heap.size := heap_lt F.out
    have zRxr : rb < w3'.heap.size := heap_lt R.out
    have zDxr : db < w3'.heap.size := heap_lt D.out
    have zLxr : lb < w3'.heap.size := heap_lt L.out
    have zTxr : tb < w3'.heap.size := heap_lt T.out
    have zOPxr := own_gtT OP.out (by simp)
    have zOSxr := own_gtT OS.out (by simp [stRow])
    have zQxr : w0.heap.size ≤ w3'.heap.size := Q.out.size
    have q5' : Below w3'.heap.size w3' (w3'.alloc (.cells ([.slice none 0 0, .int .i64 0, .bool false]).toArray 25)) := (Below.refl _ _).alloc (Nat.le_refl _) _
    replace F := hide (heap_below F.out q5')
    replace R := hide (heap_below R.out q5')
    replace D := hide (heap_below D.out q5')
    replace L := hide (heap_below L.out q5')
    replace T := hide (heap_below T.out q5')
    replace OP := hide ((OP.out.grown q5'))
    replace OS := hide ((OS.out.grown q5'))
    replace Q := hide (below_next Q.out Q.out.size q5')
    clear q5'
    refine ⟨keepsL_mk (by kernel_rfl) (.cons (own_rg OP.out) (.cons (by exact D.out) .nil)), ?_⟩
    change wpAnyL _ _ _ _ _ _ _ _ _ (w3'.alloc (.cells ([.slice none 0 0, .int .i64 0, .bool false]).toArray 25))
    generalize w3'.alloc (.cells ([.slice none 0 0, .int .i64 0, .bool false]).toArray 25) = w4' at *
    generalize w3'.heap.size = xr at *
    go_simp
    refine wpAnyL_one (i := 11) (by kernel_rfl) ?_
    refine wpOp_do rfl rfl ?_
    have Tw6' := hide (show World.there _ xr 0 3 from there_heap (cs := [.slice none 0 0, .int .i64 0, .bool false]) X.out)
    refine wp_store_as 25 (.tmp 7) (.tmp 34) rfl xr 0 (rgL (some ⟨gs, 0, none⟩) (l.length + 1) c') (by rfl) (by rfl) (by exact Tw6'.out) (by kernel_rfl) (by simp [Value.oneCell', rgL]) ?_
    intro w6' ew6'
    replace F := hide (show w6'.heap[fb]? = some (.cells ([.int .i64 1]).toArray 3 (0, 0)) by rw [ew6']; exact other_heap (by omega) _ _ _ F.out)
    replace R := hide (show w6'.heap[rb]? = some (.cells (rtL PA pc (some ⟨ob, oo, none⟩) oc).toArray 31 (0, 0)) by rw [ew6']; exact other_heap (by omega) _ _ _ R.out)
    replace D := hide (show w6'.heap[db]? = some (.cells ([.string x]).toArray 9 (0, 0)) by rw [ew6']; exact other_heap (by omega) _ _ _ D.out)
    replace L := hide (show w6'.heap[lb]? = some (.cells ([.int .i64 0]).toArray 3 (0, 0)) by rw [ew6']; exact other_heap (by omega) _ _ _ L.out)
    replace T := hide (show w6'.heap[tb]? = some (.cells ([.int .i64 0]).toArray 3 (0, 0)) by rw [ew6']; exact other_heap (by omega) _ _ _ T.out)
    replace OP := hide (show Own w6' N 27 6 (some ⟨g, 0, none⟩) pc1 [ptc (pt1 A l.length c)] by rw [ew6']; exact own_besideT OP.out (fun g9 off e => by cases e; omega) _ _)
    replace OS := hide (show Own w6' NS 9 1 (some ⟨gs, 0, none⟩) c' (stRow (l ++ [x])) by rw [ew6']; exact own_besideT OS.out (fun g9 off e => by cases e; omega) _ _)
    replace Q := hide (show Below w0.heap.size w0 w6' by rw [ew6']; exact Q.out.trans (below_setCells _ _ _ (by have := Q.out.size; omega)))
    replace X := hide (show w6'.heap[xr]? = some (.cells (rgL (some ⟨gs, 0, none⟩) (l.length + 1) c').toArray 25 (0, 0)) by rw [ew6']; exact whole_heap (rgL (some ⟨gs, 0, none⟩) (l.length + 1) c') (xs := [.slice none 0 0, .int .i64 0, .bool false]) X.out rfl)
    clear ew6' Tw6'
    refine ⟨keepsL_all (by kernel_rfl) (by kernel_rfl), ?_⟩
    go_simp
    refine wpAnyL_one (i := 12) (by kernel_rfl) ?_
    refine wpOp_do rfl rfl ?_
    go_simp
    refine ⟨keepsL_all (by kernel_rfl) (by kernel_rfl), ?_⟩
    go_simp
    refine wpAnyL_one (i := 13) (by kernel_rfl) ?_
    refine wpOp_do rfl rfl ?_
    go_simp
    refine ⟨keepsL_all (by kernel_rfl) (by kernel_rfl), ?_⟩
    go_simp
    refine wpAnyL_done (by kernel_rfl) ?_ _
    have TH := hide (show World.there w6' g 3 3 from fun j hj => by have h := OP.out.there (ptRow_rows _) (k := 0) (by simp) (3 + j) (by omega); simpa [Nat.add_comm, Nat.add_left_comm] using h)
    go_wp2_with (first | (refine wpList_load_row rfl 25 (.tmp 7) (by rfl) xr (by rfl) 25 (rgL (some ⟨gs, 0, none⟩) (l.length + 1) c').toArray (0, 0) _ (by exact X.out) Tryz.underlying25 (by rfl) (by kernel_rfl) ?_) | (refine wpList_store_hid (by rfl) 25 (.tmp 44) (.tmp 42) (by rfl) g 3 (rgL (some ⟨gs, 0, none⟩) (l.length + 1) c') (by rfl) (by rfl) (by exact TH.out) (by kernel_rfl) (by simp [Value.oneCell', rgL]) ?_))
    intro w7' ew7'
    clear TH
    clear X 
    replace F := hide (show w7'.heap[fb]? = some (.cells ([.int .i64 1]).toArray 3 (0, 0)) by rw [ew7'.out]; exact other_heap (by omega) _ _ _ F.out)
    replace R := hide (show w7'.heap[rb]? = some (.cells (rtL PA pc (some ⟨ob, oo, none⟩) oc).toArray 31 (0, 0)) by rw [ew7'.out]; exact other_heap (by omega) _ _ _ R.out)
    replace D := hide (show w7'.heap[db]? = some (.cells ([.string x]).toArray 9 (0, 0)) by rw [ew7'.out]; exact other_heap (by omega) _ _ _ D.out)
    replace L := hide (show w7'.heap[lb]? = some (.cells ([.int .i64 0]).toArray 3 (0, 0)) by rw [ew7'.out]; exact other_heap (by omega) _ _ _ L.out)
    replace T := hide (show w7'.heap[tb]? = some (.cells ([.int .i64 0]).toArray 3 (0, 0)) by rw [ew7'.out]; exact other_heap (by omega) _ _ _ T.out)
    replace OS := hide (show Own w7' NS 9 1 (some ⟨gs, 0, none⟩) c' (stRow (l ++ [x])) by rw [ew7'.out]; exact own_besideT OS.out (fun g9 off e => by cases e; omega) _ _)
    replace OP := hide (show Own w7' N 27 6 (some ⟨g, 0, none⟩) pc1 [ptc (pt1 (some ⟨gs, 0, none⟩) (l.length + 1) c')] by rw [ew7'.out]; exact own_ring OP.out)
    replace Q := hide (show Below w0.heap.size w0 w7' by rw [ew7'.out]; exact Q.out.trans (below_setCells _ _ _ (by omega)))
    clear ew7'
    go_upto_region 5 with fail
    refine wp_region_L [0, 1, 2, 3, 4] [(0, fun W => W.heap[tb]? = some (.cells ([.int .i64 0]).toArray 3 (0, 0))), (2, fun W => W.heap[lb]? = some (.cells ([.int .i64 0]).toArray 3 (0, 0)))] (by kernel_rfl) ?_
    replace F := hide (show w7'.drew.heap[fb]? = some (.cells ([.int .i64 1]).toArray 3 (0, 0)) from F.out)
    replace R := hide (show w7'.drew.heap[rb]? = some (.cells (rtL PA pc (some ⟨ob, oo, none⟩) oc).toArray 31 (0, 0)) from R.out)
    replace D := hide (show w7'.drew.heap[db]? = some (.cells ([.string x]).toArray 9 (0, 0)) from D.out)
    replace L := hide (show w7'.drew.heap[lb]? = some (.cells ([.int .i64 0]).toArray 3 (0, 0)) from L.out)
    replace T := hide (show w7'.drew.heap[tb]? = some (.cells ([.int .i64 0]).toArray 3 (0, 0)) from T.out)
    replace OP := hide (show Own (w7'.drew) N 27 6 (some ⟨g, 0, none⟩) pc1 [ptc (pt1 (some ⟨gs, 0, none⟩) (l.length + 1) c')] from (OP.out.grown ((Below.refl w7'.heap.size w7').drew)))
    replace OS := hide (show Own (w7'.drew) NS 9 1 (some ⟨gs, 0, none⟩) c' (stRow (l ++ [x])) from (OS.out.grown ((Below.refl w7'.heap.size w7').drew)))
    replace Q := hide (show Below w0.heap.size w0 w7'.drew from Q.out.drew)
    generalize w7'.drew = w8' at *
    refine wpAnyL_load (i := 0) (v := .int .i64 0) rfl rfl (by kernel_rfl) (by kernel_rfl) (by kernel_rfl) (by kernel_rfl) (by kernel_rfl) (fun _ _ _ h => h) rfl (fun W h => by (have hc0 : W.cell? ⟨tb, 0, none⟩ = some (.int .i64 0) := by simp [World.cell?, h]); clear h; go_simp) (T.out) ?_
    have hw1 : IntKind.i64.wrap 1 = 1 := IntWalk.i64_in _ (by omega)
    have hw0 : IntKind.i64.wrap 0 = 0 := IntWalk.i64_in _ (by omega)
    go_simp
    refine wpAnyL_pure (i := 1) (v := .int .i64 1) rfl rfl (by kernel_rfl) (by kernel_rfl) (by kernel_rfl) (by kernel_rfl) (by kernel_rfl) (fun _ _ _ h => h) rfl (fun W => by go_simp) ?_
    go_simp
    refine wpAnyL_load (i := 2) (v := .int .i64 0) rfl rfl (by kernel_rfl) (by kernel_rfl) (by kernel_rfl) (by kernel_rfl) (by kernel_rfl) (fun _ _ _ h => h) rfl (fun W h => by (have hc0 : W.cell? ⟨lb, 0, none⟩ = some (.int .i64 0) := by simp [World.cell?, h]); clear h; go_simp) (L.out) ?_
    go_simp
    refine wpAnyL_pure (i := 3) (v := .int .i64 0) rfl rfl (by kernel_rfl) (by kernel_rfl) (by kernel_rfl) (by kernel_rfl) (by kernel_rfl) (fun _ _ _ h => h) rfl (fun W => by go_simp) ?_
    go_simp
    refine wpAnyL_pure (i := 4) (v := .int .i64 0) rfl rfl (by kernel_rfl) (by kernel_rfl) (by kernel_rfl) (by kernel_rfl) (by kernel_rfl) (fun _ _ _ h => h) rfl (fun W => by go_simp) ?_
    go_simp
    refine wpAnyL_one (i := 5) (by kernel_rfl) ?_
    refine wpOp_do rfl rfl ?_
    have y0 : w8'.cell? ⟨tb, 0, none⟩ = some (.int .i64 0) := by simp [World.cell?, T.out]
    have f1 : w8'.frozen? ⟨tb, 0, none⟩ = false := by simp [World.frozen?, T.out]
    go_simp
    clear y0 f1
    have LK := hide (show (w8'.setCell ⟨tb, 0, none⟩ (.int .i64 1)).heap[lb]? = some (.cells #[.int .i64 0] 3 (0, 0)) from other_heap (by omega) [.int .i64 1] 0 w8' L.out)
    refine ⟨keepsL_mk (by kernel_rfl) (.past (by kernel_rfl) (.cons (by exact LK.out) .nil)), ?_⟩
    clear LK
    obtain ⟨w9', ew9'⟩ : ∃ wq, wq = w8'.setCell ⟨tb, 0, none⟩ (.int .i64 1) := ⟨_, rfl⟩
    rw [← ew9']
    replace F := hide (show w9'.heap[fb]? = some (.cells ([.int .i64 1]).toArray 3 (0, 0)) by rw [ew9']; exact other_heap (by omega) ([.int .i64 1]) 0 _ F.out)
    replace R := hide (show w9'.heap[rb]? = some (.cells (rtL PA pc (some ⟨ob, oo, none⟩) oc).toArray 31 (0, 0)) by rw [ew9']; exact other_heap (by omega) ([.int .i64 1]) 0 _ R.out)
    replace D := hide (show w9'.heap[db]? = some (.cells ([.string x]).toArray 9 (0, 0)) by rw [ew9']; exact other_heap (by omega) ([.int .i64 1]) 0 _ D.out)
    replace L := hide (show w9'.heap[lb]? = some (.cells ([.int .i64 0]).toArray 3 (0, 0)) by rw [ew9']; exact other_heap (by omega) ([.int .i64 1]) 0 _ L.out)
    replace OP := hide (show Own w9' N 27 6 (some ⟨g, 0, none⟩) pc1 [ptc (pt1 (some ⟨gs, 0, none⟩) (l.length + 1) c')] by rw [ew9']; exact own_besideT (x := tb) OP.out (fun g9 off e => by cases e; omega) 0 ([.int .i64 1]))
    replace OS := hide (show Own w9' NS 9 1 (some ⟨gs, 0, none⟩) c' (stRow (l ++ [x])) by rw [ew9']; exact own_besideT (x := tb) OS.out (fun g9 off e => by cases e; omega) 0 ([.int .i64 1]))
    replace Q := hide (show Below w0.heap.size w0 w9' by rw [ew9']; exact Q.out.trans (below_setCells ([.int .i64 1]) 0 _ (by omega)))
    replace T := hide (show w9'.heap[tb]? = some (.cells ([.int .i64 1]).toArray 3 (0, 0)) by rw [ew9']; exact set_heap ([.int .i64 1]) ([.int .i64 0]) 0 _ T.out)
    clear ew9'
    go_simp
    refine wpAnyL_one (i := 6) (by kernel_rfl) ?_
    refine wpOp_do rfl rfl ?_
    have y0 : w9'.cell? ⟨lb, 0, none⟩ = some (.int .i64 0) := by simp [World.cell?, L.out]
    have f1 : w9'.frozen? ⟨lb, 0, none⟩ = false := by simp [World.frozen?, L.out]
    go_simp
    clear y0 f1
    refine ⟨keepsL_all (by kernel_rfl) (by kernel_rfl), ?_⟩
    obtain ⟨w10', ew10'⟩ : ∃ wq, wq = w9'.setCell ⟨lb, 0, none⟩ (.int .i64 0) := ⟨_, rfl⟩
    rw [← ew10']
    replace F := hide (show w10'.heap[fb]? = some (.cells ([.int .i64 1]).toArray 3 (0, 0)) by rw [ew10']; exact other_heap (by omega) ([.int .i64 0]) 0 _ F.out)
    replace R := hide (show w10'.heap[rb]? = some (.cells (rtL PA pc (some ⟨ob, oo, none⟩) oc).toArray 31 (0, 0)) by rw [ew10']; exact other_heap (by omega) ([.int .i64 0]) 0 _ R.out)
    replace D := hide (show w10'.heap[db]? = some (.cells ([.string x]).toArray 9 (0, 0)) by rw [ew10']; exact other_heap (by omega) ([.int .i64 0]) 0 _ D.out)
    replace T := hide (show w10'.heap[tb]? = some (.cells ([.int .i64 1]).toArray 3 (0, 0)) by rw [ew10']; exact other_heap (by omega) ([.int .i64 0]) 0 _ T.out)
    replace OP := hide (show Own w10' N 27 6 (some ⟨g, 0, none⟩) pc1 [ptc (pt1 (some ⟨gs, 0, none⟩) (l.length + 1) c')] by rw [ew10']; exact own_besideT (x := lb) OP.out (fun g9 off e => by cases e; omega) 0 ([.int .i64 0]))
    replace OS := hide (show Own w10' NS 9 1 (some ⟨gs, 0, none⟩) c' (stRow (l ++ [x])) by rw [ew10']; exact own_besideT (x := lb) OS.out (fun g9 off e => by cases e; omega) 0 ([.int .i64 0]))
    replace Q := hide (show Below w0.heap.size w0 w10' by rw [ew10']; exact Q.out.trans (below_setCells ([.int .i64 0]) 0 _ (by omega)))
    replace L := hide (show w10'.heap[lb]? = some (.cells ([.int .i64 0]).toArray 3 (0, 0)) by rw [ew10']; exact set_heap ([.int .i64 0]) ([.int .i64 0]) 0 _ L.out)
    clear ew10'
    go_simp
    refine wpAnyL_done (by kernel_rfl) ?_ _
    go_end0
    exact ⟨_, c', rfl, R, L, T, OP, hide (Own.mono OS.out (by omega)), Q⟩
  · refine wpOp_do rfl rfl ?_
    go_simp
    have X := hide (World.alloc_heap_new w2' (.cells ([.slice none 0 0, .int .i64 0, .bool false]).toArray 25))
    have zFxr : fb < w2'.heap.size := heap_lt F.out
    have zRxr : rb < w2'.heap.size := heap_lt R.out
    have zDxr : db < w2'.heap.size := heap_lt D.out
    have zLxr : lb < w2'.heap.size := heap_lt L.out
    have zTxr : tb < w2'.heap.size := heap_lt T.out
    have zOPxr := own_gtT OP.out (by simp)
    have zQxr : w0.heap.size ≤ w2'.heap.size := Q.out.size
    have q12' : Below w2'.heap.size w2' (w2'.alloc (.cells ([.slice none 0 0, .int .i64 0, .bool false]).toArray 25)) := (Below.refl _ _).alloc (Nat.le_refl _) _
    replace F := hide (heap_below F.out q12')
    replace R := hide (heap_below R.out q12')
    replace D := hide (heap_below D.out q12')
    replace L := hide (heap_below L.out q12')
    replace T := hide (heap_below T.out q12')
    replace OP := hide ((OP.out.grown q12'))
    replace Q := hide (below_next Q.out Q.out.size q12')
    clear q12'
    refine ⟨keepsL_mk (by kernel_rfl) (.cons (own_rg OP.out) (.cons (by exact D.out) .nil)), ?_⟩
    change wpAnyL _ _ _ _ _ _ _ _ _ (w2'.alloc (.cells ([.slice none 0 0, .int .i64 0, .bool false]).toArray 25))
    generalize w2'.alloc (.cells ([.slice none 0 0, .int .i64 0, .bool false]).toArray 25) = w11' at *
    generalize w2'.heap.size = xr at *
    go_simp
    refine wpAnyL_one (i := 5) (by kernel_rfl) ?_
    refine wpOp_do rfl rfl ?_
    go_simp
    have C1 := hide (rgPut_ok l A c x w11' (Rd.next HI.out Q.out Q.out.size) hl.out hc.out)
    (with_reducible refine C1.out.mono ?_)
    rintro ew13' w13' ⟨A', c', rfl, oS, qw13'⟩
    have zW := Q.out.size
    clear C1
    obtain ⟨gs, rfl, gs1, gs2⟩ := Own.ofLen oS (by simp [stRow])
    have zg := own_gtT OP.out (by simp)
    have ztb := heap_lt T.out
    have zlb := heap_lt L.out
    have zxr := heap_lt X.out
    obtain ⟨NS, hNS⟩ : ∃ NS, NS = w11'.heap.size := ⟨_, rfl⟩
    rw [← hNS] at oS gs1 zg ztb zlb zxr
    replace hNS := hide hNS
    have OS := hide oS
    clear oS gs2
    replace F := hide (heap_below F.out qw13')
    replace R := hide (heap_below R.out qw13')
    replace D := hide (heap_below D.out qw13')
    replace L := hide (heap_below L.out qw13')
    replace T := hide (heap_below T.out qw13')
    replace X := hide (heap_below X.out qw13')
    replace OP := hide ((OP.out.grown qw13'))
    replace Q := hide (below_next Q.out Q.out.size qw13')
    clear qw13'
    go_simp
    refine ⟨keepsL_mk (by kernel_rfl) (.cons (own_rg OP.out) (.cons (by exact D.out) .nil)), ?_⟩
    go_simp
    refine wpAnyL_pure (i := 6) (v := .tuple #[.agg (rgL (some ⟨gs, 0, none⟩) (l.length + 1) c').toArray, .int .i64 0, .int .i64 0]) rfl rfl (by kernel_rfl) (by kernel_rfl) (by kernel_rfl) (by kernel_rfl) (by kernel_rfl) (fun _ _ _ h => h) rfl (fun W => by go_simp) ?_
    go_simp
    refine wpAnyL_pure (i := 7) (v := .agg (rgL (some ⟨gs, 0, none⟩) (l.length + 1) c').toArray) rfl rfl (by kernel_rfl) (by kernel_rfl) (by kernel_rfl) (by kernel_rfl) (by kernel_rfl) (fun _ _ _ h => h) rfl (fun W => by go_simp) ?_
    go_simp
    refine wpAnyL_pure (i := 8) (v := .int .i64 0) rfl rfl (by kernel_rfl) (by kernel_rfl) (by kernel_rfl) (by kernel_rfl) (by kernel_rfl) (fun _ _ _ h => h) rfl (fun W => by go_simp) ?_
    go_simp
    refine wpAnyL_pure (i := 9) (v := .int .i64 0) rfl rfl (by kernel_rfl) (by kernel_rfl) (by kernel_rfl) (by kernel_rfl) (by kernel_rfl) (fun _ _ _ h => h) rfl (fun W => by go_simp) ?_
    go_simp
    refine wpAnyL_one (i := 11) (by kernel_rfl) ?_
    refine wpOp_do rfl rfl ?_
    have Tw14' := hide (show World.there _ xr 0 3 from there_heap (cs := [.slice none 0 0, .int .i64 0, .bool false]) X.out)
    refine wp_store_as 25 (.tmp 7) (.tmp 34) rfl xr 0 (rgL (some ⟨gs, 0, none⟩) (l.length + 1) c') (by rfl) (by rfl) (by exact Tw14'.out) (by kernel_rfl) (by simp [Value.oneCell', rgL]) ?_
    intro w14' ew14'
    replace F := hide (show w14'.heap[fb]? = some (.cells ([.int .i64 1]).toArray 3 (0, 0)) by rw [ew14']; exact other_heap (by omega) _ _ _ F.out)
    replace R := hide (show w14'.heap[rb]? = some (.cells (rtL PA pc (some ⟨ob, oo, none⟩) oc).toArray 31 (0, 0)) by rw [ew14']; exact other_heap (by omega) _ _ _ R.out)
    replace D := hide (show w14'.heap[db]? = some (.cells ([.string x]).toArray 9 (0, 0)) by rw [ew14']; exact other_heap (by omega) _ _ _ D.out)
    replace L := hide (show w14'.heap[lb]? = some (.cells ([.int .i64 0]).toArray 3 (0, 0)) by rw [ew14']; exact other_heap (by omega) _ _ _ L.out)
    replace T := hide (show w14'.heap[tb]? = some (.cells ([.int .i64 0]).toArray 3 (0, 0)) by rw [ew14']; exact other_heap (by omega) _ _ _ T.out)
    replace OP := hide (show Own w14' N 27 6 (some ⟨g, 0, none⟩) pc1 [ptc (pt1 A l.length c)] by rw [ew14']; exact own_besideT OP.out (fun g9 off e => by cases e; omega) _ _)
    replace OS := hide (show Own w14' NS 9 1 (some ⟨gs, 0, none⟩) c' (stRow (l ++ [x])) by rw [ew14']; exact own_besideT OS.out (fun g9 off e => by cases e; omega) _ _)
    replace Q := hide (show Below w0.heap.size w0 w14' by rw [ew14']; exact Q.out.trans (below_setCells _ _ _ (by have := Q.out.size; omega)))
    replace X := hide (show w14'.heap[xr]? = some (.cells (rgL (some ⟨gs, 0, none⟩) (l.length + 1) c').toArray 25 (0, 0)) by rw [ew14']; exact whole_heap (rgL (some ⟨gs, 0, none⟩) (l.length + 1) c') (xs := [.slice none 0 0, .int .i64 0, .bool false]) X.out rfl)
    clear ew14' Tw14'
    refine ⟨keepsL_all (by kernel_rfl) (by kernel_rfl), ?_⟩
    go_simp
    refine wpAnyL_one (i := 12) (by kernel_rfl) ?_
    refine wpOp_do rfl rfl ?_
    go_simp
    refine ⟨keepsL_all (by kernel_rfl) (by kernel_rfl), ?_⟩
    go_simp
    refine wpAnyL_one (i := 13) (by kernel_rfl) ?_
    refine wpOp_do rfl rfl ?_
    go_simp
    refine ⟨keepsL_all (by kernel_rfl) (by kernel_rfl), ?_⟩
    go_simp
    refine wpAnyL_done (by kernel_rfl) ?_ _
    have TH := hide (show World.there w14' g 3 3 from fun j hj => by have h := OP.out.there (ptRow_rows _) (k := 0) (by simp) (3 + j) (by omega); simpa [Nat.add_comm, Nat.add_left_comm] using h)
    go_wp2_with (first | (refine wpList_load_row rfl 25 (.tmp 7) (by rfl) xr (by rfl) 25 (rgL (some ⟨gs, 0, none⟩) (l.length + 1) c').toArray (0, 0) _ (by exact X.out) Tryz.underlying25 (by rfl) (by kernel_rfl) ?_) | (refine wpList_store_hid (by rfl) 25 (.tmp 44) (.tmp 42) (by rfl) g 3 (rgL (some ⟨gs, 0, none⟩) (l.length + 1) c') (by rfl) (by rfl) (by exact TH.out) (by kernel_rfl) (by simp [Value.oneCell', rgL]) ?_))
    intro w15' ew15'
    clear TH
    clear X 
    replace F := hide (show w15'.heap[fb]? = some (.cells ([.int .i64 1]).toArray 3 (0, 0)) by rw [ew15'.out]; exact other_heap (by omega) _ _ _ F.out)
    replace R := hide (show w15'.heap[rb]? = some (.cells (rtL PA pc (some ⟨ob, oo, none⟩) oc).toArray 31 (0, 0)) by rw [ew15'.out]; exact other_heap (by omega) _ _ _ R.out)
    replace D := hide (show w15'.heap[db]? = some (.cells ([.string x]).toArray 9 (0, 0)) by rw [ew15'.out]; exact other_heap (by omega) _ _ _ D.out)
    replace L := hide (show w15'.heap[lb]? = some (.cells ([.int .i64 0]).toArray 3 (0, 0)) by rw [ew15'.out]; exact other_heap (by omega) _ _ _ L.out)
    replace T := hide (show w15'.heap[tb]? = some (.cells ([.int .i64 0]).toArray 3 (0, 0)) by rw [ew15'.out]; exact other_heap (by omega) _ _ _ T.out)
    replace OS := hide (show Own w15' NS 9 1 (some ⟨gs, 0, none⟩) c' (stRow (l ++ [x])) by rw [ew15'.out]; exact own_besideT OS.out (fun g9 off e => by cases e; omega) _ _)
    replace OP := hide (show Own w15' N 27 6 (some ⟨g, 0, none⟩) pc1 [ptc (pt1 (some ⟨gs, 0, none⟩) (l.length + 1) c')] by rw [ew15'.out]; exact own_ring OP.out)
    replace Q := hide (show Below w0.heap.size w0 w15' by rw [ew15'.out]; exact Q.out.trans (below_setCells _ _ _ (by omega)))
    clear ew15'
    go_upto_region 5 with fail
    refine wp_region_L [0, 1, 2, 3, 4] [(0, fun W => W.heap[tb]? = some (.cells ([.int .i64 0]).toArray 3 (0, 0))), (2, fun W => W.heap[lb]? = some (.cells ([.int .i64 0]).toArray 3 (0, 0)))] (by kernel_rfl) ?_
    replace F := hide (show w15'.drew.heap[fb]? = some (.cells ([.int .i64 1]).toArray 3 (0, 0)) from F.out)
    replace R := hide (show w15'.drew.heap[rb]? = some (.cells (rtL PA pc (some ⟨ob, oo, none⟩) oc).toArray 31 (0, 0)) from R.out)
    replace D := hide (show w15'.drew.heap[db]? = some (.cells ([.string x]).toArray 9 (0, 0)) from D.out)
    replace L := hide (show w15'.drew.heap[lb]? = some (.cells ([.int .i64 0]).toArray 3 (0, 0)) from L.out)
    replace T := hide (show w15'.drew.heap[tb]? = some (.cells ([.int .i64 0]).toArray 3 (0, 0)) from T.out)
    replace OP := hide (show Own (w15'.drew) N 27 6 (some ⟨g, 0, none⟩) pc1 [ptc (pt1 (some ⟨gs, 0, none⟩) (l.length + 1) c')] from (OP.out.grown ((Below.refl w15'.heap.size w15').drew)))
    replace OS := hide (show Own (w15'.drew) NS 9 1 (some ⟨gs, 0, none⟩) c' (stRow (l ++ [x])) from (OS.out.grown ((Below.refl w15'.heap.size w15').drew)))
    replace Q := hide (show Below w0.heap.size w0 w15'.drew from Q.out.drew)
    generalize w15'.drew = w16' at *
    refine wpAnyL_load (i := 0) (v := .int .i64 0) rfl rfl (by kernel_rfl) (by kernel_rfl) (by kernel_rfl) (by kernel_rfl) (by kernel_rfl) (fun _ _ _ h => h) rfl (fun W h => by (have hc0 : W.cell? ⟨tb, 0, none⟩ = some (.int .i64 0) := by simp [World.cell?, h]); clear h; go_simp) (T.out) ?_
    have hw1 : IntKind.i64.wrap 1 = 1 := IntWalk.i64_in _ (by omega)
    have hw0 : IntKind.i64.wrap 0 = 0 := IntWalk.i64_in _ (by omega)
    go_simp
    refine wpAnyL_pure (i := 1) (v := .int .i64 1) rfl rfl (by kernel_rfl) (by kernel_rfl) (by kernel_rfl) (by kernel_rfl) (by kernel_rfl) (fun _ _ _ h => h) rfl (fun W => by go_simp) ?_
    go_simp
    refine wpAnyL_load (i := 2) (v := .int .i64 0) rfl rfl (by kernel_rfl) (by kernel_rfl) (by kernel_rfl) (by kernel_rfl) (by kernel_rfl) (fun _ _ _ h => h) rfl (fun W h => by (have hc0 : W.cell? ⟨lb, 0, none⟩ = some (.int .i64 0) := by simp [World.cell?, h]); clear h; go_simp) (L.out) ?_
    go_simp
    refine wpAnyL_pure (i := 3) (v := .int .i64 0) rfl rfl (by kernel_rfl) (by kernel_rfl) (by kernel_rfl) (by kernel_rfl) (by kernel_rfl) (fun _ _ _ h => h) rfl (fun W => by go_simp) ?_
    go_simp
    refine wpAnyL_pure (i := 4) (v := .int .i64 0) rfl rfl (by kernel_rfl) (by kernel_rfl) (by kernel_rfl) (by kernel_rfl) (by kernel_rfl) (fun _ _ _ h => h) rfl (fun W => by go_simp) ?_
    go_simp
    refine wpAnyL_one (i := 5) (by kernel_rfl) ?_
    refine wpOp_do rfl rfl ?_
    have y0 : w16'.cell? ⟨tb, 0, none⟩ = some (.int .i64 0) := by simp [World.cell?, T.out]
    have f1 : w16'.frozen? ⟨tb, 0, none⟩ = false := by simp [World.frozen?, T.out]
    go_simp
    clear y0 f1
    have LK := hide (show (w16'.setCell ⟨tb, 0, none⟩ (.int .i64 1)).heap[lb]? = some (.cells #[.int .i64 0] 3 (0, 0)) from other_heap (by omega) [.int .i64 1] 0 w16' L.out)
    refine ⟨keepsL_mk (by kernel_rfl) (.past (by kernel_rfl) (.cons (by exact LK.out) .nil)), ?_⟩
    clear LK
    obtain ⟨w17', ew17'⟩ : ∃ wq, wq = w16'.setCell ⟨tb, 0, none⟩ (.int .i64 1) := ⟨_, rfl⟩
    rw [← ew17']
    replace F := hide (show w17'.heap[fb]? = some (.cells ([.int .i64 1]).toArray 3 (0, 0)) by rw [ew17']; exact other_heap (by omega) ([.int .i64 1]) 0 _ F.out)
    replace R := hide (show w17'.heap[rb]? = some (.cells (rtL PA pc (some ⟨ob, oo, none⟩) oc).toArray 31 (0, 0)) by rw [ew17']; exact other_heap (by omega) ([.int .i64 1]) 0 _ R.out)
    replace D := hide (show w17'.heap[db]? = some (.cells ([.string x]).toArray 9 (0, 0)) by rw [ew17']; exact other_heap (by omega) ([.int .i64 1]) 0 _ D.out)
    replace L := hide (show w17'.heap[lb]? = some (.cells ([.int .i64 0]).toArray 3 (0, 0)) by rw [ew17']; exact other_heap (by omega) ([.int .i64 1]) 0 _ L.out)
    replace OP := hide (show Own w17' N 27 6 (some ⟨g, 0, none⟩) pc1 [ptc (pt1 (some ⟨gs, 0, none⟩) (l.length + 1) c')] by rw [ew17']; exact own_besideT (x := tb) OP.out (fun g9 off e => by cases e; omega) 0 ([.int .i64 1]))
    replace OS := hide (show Own w17' NS 9 1 (some ⟨gs, 0, none⟩) c' (stRow (l ++ [x])) by rw [ew17']; exact own_besideT (x := tb) OS.out (fun g9 off e => by cases e; omega) 0 ([.int .i64 1]))
    replace Q := hide (show Below w0.heap.size w0 w17' by rw [ew17']; exact Q.out.trans (below_setCells ([.int .i64 1]) 0 _ (by omega)))
    replace T := hide (show w17'.heap[tb]? = some (.cells ([.int .i64 1]).toArray 3 (0, 0)) by rw [ew17']; exact set_heap ([.int .i64 1]) ([.int .i64 0]) 0 _ T.out)
    clear ew17'
    go_simp
    refine wpAnyL_one (i := 6) (by kernel_rfl) ?_
    refine wpOp_do rfl rfl ?_
    have y0 : w17'.cell? ⟨lb, 0, none⟩ = some (.int .i64 0) := by simp [World.cell?, L.out]
    have f1 : w17'.frozen? ⟨lb, 0, none⟩ = false := by simp [World.frozen?, L.out]
    go_simp
    clear y0 f1
    refine ⟨keepsL_all (by kernel_rfl) (by kernel_rfl), ?_⟩
    obtain ⟨w18', ew18'⟩ : ∃ wq, wq = w17'.setCell ⟨lb, 0, none⟩ (.int .i64 0) := ⟨_, rfl⟩
    rw [← ew18']
    replace F := hide (show w18'.heap[fb]? = some (.cells ([.int .i64 1]).toArray 3 (0, 0)) by rw [ew18']; exact other_heap (by omega) ([.int .i64 0]) 0 _ F.out)
    replace R := hide (show w18'.heap[rb]? = some (.cells (rtL PA pc (some ⟨ob, oo, none⟩) oc).toArray 31 (0, 0)) by rw [ew18']; exact other_heap (by omega) ([.int .i64 0]) 0 _ R.out)
    replace D := hide (show w18'.heap[db]? = some (.cells ([.string x]).toArray 9 (0, 0)) by rw [ew18']; exact other_heap (by omega) ([.int .i64 0]) 0 _ D.out)
    replace T := hide (show w18'.heap[tb]? = some (.cells ([.int .i64 1]).toArray 3 (0, 0)) by rw [ew18']; exact other_heap (by omega) ([.int .i64 0]) 0 _ T.out)
    replace OP := hide (show Own w18' N 27 6 (some ⟨g, 0, none⟩) pc1 [ptc (pt1 (some ⟨gs, 0, none⟩) (l.length + 1) c')] by rw [ew18']; exact own_besideT (x := lb) OP.out (fun g9 off e => by cases e; omega) 0 ([.int .i64 0]))
    replace OS := hide (show Own w18' NS 9 1 (some ⟨gs, 0, none⟩) c' (stRow (l ++ [x])) by rw [ew18']; exact own_besideT (x := lb) OS.out (fun g9 off e => by cases e; omega) 0 ([.int .i64 0]))
    replace Q := hide (show Below w0.heap.size w0 w18' by rw [ew18']; exact Q.out.trans (below_setCells ([.int .i64 0]) 0 _ (by omega)))
    replace L := hide (show w18'.heap[lb]? = some (.cells ([.int .i64 0]).toArray 3 (0, 0)) by rw [ew18']; exact set_heap ([.int .i64 0]) ([.int .i64 0]) 0 _ L.out)
    clear ew18'
    go_simp
    refine wpAnyL_done (by kernel_rfl) ?_ _
    go_end0
    exact ⟨_, c', rfl, R, L, T, OP, hide (Own.mono OS.out (by omega)), Q⟩
end Go.Proofs.YthkilodnghiocaaGreatDoor
