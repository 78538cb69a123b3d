/- group.Take, Give, Set, Get of values that may be; filter.Step. -/
import Derived.Test.YtnhegnneohpkaaaGreatCmE
import Derived.Test.YtnhegnneohpkaaaGreatMgOff
import Derived.Test.YtnhegnneohpkaaaGreatMgFlB
namespace Go.Proofs.YtnhegnneohpkaaaGreat
open Go.ChangeShapes Go.WideShapes Go.ChangeAt Go.RowKit
open CM PD SG

def grI (S G : Iv) (times : Int) : List Value := [S.v, G.v, .int .i64 times]
theorem gr_cells {W : World} {B : Nat} {S G : Iv} {times : Int} {t : TypeId} {fz : Nat × Nat} (h : W.heap[B]? = some (.cells (grI S G times).toArray t fz)) :
    W.cell? ⟨B, 0, none⟩ = some (.slice S.a S.l.length S.c) ∧ W.cell? ⟨B, 1, none⟩ = some (.slice G.a G.l.length G.c) ∧ W.cell? ⟨B, 2, none⟩ = some (.int .i64 times) := by
  simp [World.cell?, h, grI, Iv.v]
theorem gr_free {W : World} {B : Nat} {S G : Iv} {times : Int} {t : TypeId} (h : W.heap[B]? = some (.cells (grI S G times).toArray t (0, 0))) (j : Nat) : W.frozen? ⟨B, j, none⟩ = false := by simp [World.frozen?, h]
theorem grRight_l (S G : Iv) (times : Int) (w : World) (h : grB S.l.length G.l.length times = true) : Calls Tryz.prog 50 #[.agg (grI S G times).toArray] w fun e w' => e = .returned (.bool true) ∧ Below w.heap.size w w' := by
  have := grRight_any S.a G.a S.l.length S.c G.l.length G.c times w
  rwa [h] at this
theorem grB_iff {n m : Nat} {times : Int} : grB n m times = true ↔ (1 ≤ n ∧ n ≤ 16) ∧ m = n ∧ 0 ≤ times ∧ times ≤ 1099511627776 := by
  unfold grB mayG
  simp only [Bool.and_eq_true, decide_eq_true_eq]
theorem cloneI_l (l : List Int) (A : Option Addr) (c : Nat) (w : World) (hr : InR w w.heap.size A l) (hl : l.length ≤ 1000) :
    Calls Tryz.prog 48 #[.slice A l.length c] w fun e w' => ∃ A' c', e = .returned (.slice A' l.length c') ∧ Rd w' w'.heap.size A' 1 (inRow l) ∧ Fresh w.heap.size A' ∧ Below w.heap.size w w' := by
  refine (cloneI_any l A c w hr (by omega)).mono ?_
  rintro e w' ⟨⟨A', c', rfl, ow⟩, q⟩
  exact ⟨A', c', rfl, inOwn_rd ow, fresh_own ow, q⟩
def zGr : List Value := grI .zero .zero 0
theorem in_set (l : List Int) (k : Nat) (v : Int) : inRow (l.set k v) = (inRow l).set k [.int .i64 v] := by unfold inRow; rw [List.map_set]
/-- What is known of values that were laid anew. -/
def NewIv (l : List Int) (N : Nat) (A : Iv) (W : World) : Prop := A.l = l ∧ Rd W W.heap.size A.a 1 (inRow l) ∧ Fresh N A.a
theorem NewIv.ok {l : List Int} {N : Nat} {A : Iv} {W : World} (h : NewIv l N A W) (hm : ∀ v ∈ l, lim v) (hn : l.length ≤ 1000) : A.Ok W := by
  obtain ⟨rfl, h2, _⟩ := h
  exact ⟨h2, hm, hn⟩

set_option maxRecDepth 100000 in
set_option maxHeartbeats 8000000 in
theorem grTake_ok (S G V : Iv) (times : Int) (w : World) (hr : grB S.l.length G.l.length times = true) (hV : InR w w.heap.size V.a V.l) (hl : V.l.length = S.l.length) (ht : times < 1099511627776) :
    Calls Tryz.prog 37 #[.agg (grI S G times).toArray, .slice V.a V.l.length V.c] w fun e w' => ∃ A B : Iv, e = .returned (.tuple #[.agg (grI A B (times + 1)).toArray, .int .i64 0]) ∧ NewIv V.l w.heap.size A w' ∧ NewIv V.l w.heap.size B w' ∧ Below w.heap.size w w' := by
  obtain ⟨w0, hw0⟩ : ∃ w0, w0 = (w.alloc (.cells (grI S G times).toArray 35)).alloc (.cells zGr.toArray 35) := ⟨_, rfl⟩
  have B := hide (heap_below (World.alloc_heap_new w (.cells (grI S G times).toArray 35)) ((Below.refl _ (w.alloc (.cells (grI S G times).toArray 35))).alloc (Nat.le_refl _) (.cells zGr.toArray 35)))
  have R := hide (World.alloc_heap_new (w.alloc (.cells (grI S G times).toArray 35)) (.cells zGr.toArray 35))
  have Q : Hid (Below w.heap.size w w0) := by rw [hw0]; exact hide (((Below.refl w.heap.size w).alloc (Nat.le_refl _) (.cells (grI S G times).toArray 35)).alloc (by simp; try omega) (.cells zGr.toArray 35))
  rw [← hw0] at B R
  simp only [World.size_alloc] at R
  have RT := hide (grRight_l S G times w0 hr)
  have hr2 := grB_iff.1 hr
  have CL := hide (fun (W : World) (q : Below w.heap.size w W) => cloneI_l V.l V.a V.c W (Rd.next hV q q.size) (by omega))
  have hw1 : IntKind.i64.wrap (times + 1) = times + 1 := IntWalk.i64_in _ (by omega)
  have hle : ((V.l.length : Int) != (S.l.length : Int)) = false := by rw [hl]; simp
  have hle2 : (V.l.length : Int) = (S.l.length : Int) := by rw [hl]
  have ht2 : ¬ 1099511627776 ≤ times := by omega
  clear hr hV hl ht hr2
  go_enter Tryz.func37, Tryz.ntmps37
  go_upto_region 1 with fail
  change Code.wp _ _ _ _ ((w.alloc (.cells (grI S G times).toArray 35)).alloc (.cells zGr.toArray 35))
  rw [← hw0]
  clear hw0
  go_wp2_with (refine wpList_load_row rfl 35 (.tmp 2) (by rfl) w.heap.size (by rfl) 35 (grI S G times).toArray (0, 0) _ (by exact B.out) Tryz.underlying35 (by rfl) (by kernel_rfl) ?_)
  (with_reducible refine (RT.out).mono ?_)
  rintro ew1' w1' ⟨rfl, qw1'⟩
  replace B := hide (heap_below B.out qw1')
  replace R := hide (heap_below R.out qw1')
  replace Q := hide (below_next Q.out Q.out.size qw1')
  clear qw1'
  clear RT
  obtain ⟨c0, c1, c2⟩ := gr_cells B.out
  go_upto_region 3 with fail
  clear c0 c1 c2
  refine wp_region_L [0, 2, 4, 5, 6, 7] [(5, fun W => W.heap[w.heap.size]? = some (.cells (grI S G times).toArray 35 (0, 0)))] (by kernel_rfl) ?_
  replace B := hide (show w1'.drew.heap[w.heap.size]? = some (.cells (grI S G times).toArray 35 (0, 0)) from B.out)
  replace R := hide (show w1'.drew.heap[w.heap.size + 1]? = some (.cells zGr.toArray 35 (0, 0)) from R.out)
  replace Q := hide (show Below w.heap.size w w1'.drew from Q.out.drew)
  generalize w1'.drew = w2' at *
  refine wpAnyL_pure (i := 0) (v := .slice V.a V.l.length V.c) rfl rfl (by kernel_rfl) (by kernel_rfl) (by kernel_rfl) (by kernel_rfl) (by kernel_rfl) (fun _ _ _ h => h) rfl (fun W => by go_simp) ?_
  go_simp
  refine wpAnyL_pure (i := 2) (v := .slice V.a V.l.length V.c) rfl rfl (by kernel_rfl) (by kernel_rfl) (by kernel_rfl) (by kernel_rfl) (by kernel_rfl) (fun _ _ _ h => h) rfl (fun W => by go_simp) ?_
  go_simp
  refine wpAnyL_pure (i := 4) (v := .pointer (some ⟨w.heap.size, 2, none⟩)) rfl rfl (by kernel_rfl) (by kernel_rfl) (by kernel_rfl) (by kernel_rfl) (by kernel_rfl) (fun _ _ _ h => h) rfl (fun W => by go_simp) ?_
  go_simp
  refine wpAnyL_load (i := 5) (v := .int .i64 times) rfl rfl (by kernel_rfl) (by kernel_rfl) (by kernel_rfl) (by kernel_rfl) (by kernel_rfl) (fun _ _ _ h => h) rfl (fun W h => by have h0 : W.cell? ⟨w.heap.size, 2, none⟩ = some (.int .i64 times) := (gr_cells h).2.2; clear h; go_simp) (B.out) ?_
  go_simp
  refine wpAnyL_pure (i := 6) (v := .int .i64 (times + 1)) rfl rfl (by kernel_rfl) (by kernel_rfl) (by kernel_rfl) (by kernel_rfl) (by kernel_rfl) (fun _ _ _ h => h) rfl (fun W => by go_simp) ?_
  go_simp
  refine wpAnyL_one (i := 1) (by kernel_rfl) ?_
  refine wpOp_do rfl rfl ?_
  go_simp
  have R1 := hide (CL.out w2' Q.out)
  have zqRA := Q.out.size
  (with_reducible refine (R1.out).mono ?_)
  rintro ew3' w3' ⟨A1, c1, rfl, RA, FRA, qw3'⟩
  have O_RA_B := hide (show Off A1 (inRow V.l).length w.heap.size from off_fresh FRA (heap_lt B.out))
  have O_RA_R := hide (show Off A1 (inRow V.l).length (w.heap.size + 1) from off_fresh FRA (heap_lt R.out))
  replace B := hide (heap_below B.out qw3')
  replace R := hide (heap_below R.out qw3')
  replace Q := hide (below_next Q.out Q.out.size qw3')
  clear qw3'
  replace RA := hide (show Rd w3' w3'.heap.size A1 1 (inRow V.l) from RA)
  replace FRA := hide FRA
  clear R1
  replace FRA := hide (FRA.out.mono zqRA)
  clear zqRA
  go_simp
  refine ⟨keepsL_mk (by kernel_rfl) (.cons B.out .nil), ?_⟩
  go_simp
  refine wpAnyL_one (i := 3) (by kernel_rfl) ?_
  refine wpOp_do rfl rfl ?_
  go_simp
  have R1 := hide (CL.out w3' Q.out)
  have zqRB := Q.out.size
  (with_reducible refine (R1.out).mono ?_)
  rintro ew4' w4' ⟨A2, c2, rfl, RB, FRB, qw4'⟩
  have O_RB_B := hide (show Off A2 (inRow V.l).length w.heap.size from off_fresh FRB (heap_lt B.out))
  have O_RB_R := hide (show Off A2 (inRow V.l).length (w.heap.size + 1) from off_fresh FRB (heap_lt R.out))
  replace B := hide (heap_below B.out qw4')
  replace R := hide (heap_below R.out qw4')
  replace RA := hide (Rd.next RA.out qw4' qw4'.size)
  replace Q := hide (below_next Q.out Q.out.size qw4')
  clear qw4'
  replace RB := hide (show Rd w4' w4'.heap.size A2 1 (inRow V.l) from RB)
  replace FRB := hide FRB
  clear R1
  replace FRB := hide (FRB.out.mono zqRB)
  clear zqRB
  go_simp
  refine ⟨keepsL_mk (by kernel_rfl) (.cons B.out .nil), ?_⟩
  go_simp
  refine wpAnyL_pure (i := 7) (v := .agg #[.slice A1 V.l.length c1, .slice A2 V.l.length c2, .int .i64 (times + 1)]) rfl rfl (by kernel_rfl) (by kernel_rfl) (by kernel_rfl) (by kernel_rfl) (by kernel_rfl) (fun _ _ _ h => h) rfl (fun W => by go_simp) ?_
  go_simp
  refine wpAnyL_one (i := 8) (by kernel_rfl) ?_
  refine wpOp_do rfl rfl ?_
  have Tw5' := hide (show World.there _ (w.heap.size + 1) 0 3 from there_heap (cs := zGr) R.out)
  refine wp_store_as 35 (.tmp 4) (.tmp 30) rfl (w.heap.size + 1) 0 (grI ⟨V.l, A1, c1⟩ ⟨V.l, A2, c2⟩ (times + 1)) (by rfl) (by rfl) (by exact Tw5'.out) (by kernel_rfl) (by simp [Value.oneCell', grI, Iv.v]) ?_
  intro w5' ew5'
  replace B := hide (show w5'.heap[w.heap.size]? = some (.cells (grI S G times).toArray 35 (0, 0)) by rw [ew5']; exact other_heap (by omega) _ _ _ B.out)
  replace RA := hide (show Rd w5' w5'.heap.size A1 1 (inRow V.l) by rw [ew5']; exact off_set RA.out O_RA_R.out _ _)
  replace RB := hide (show Rd w5' w5'.heap.size A2 1 (inRow V.l) by rw [ew5']; exact off_set RB.out O_RB_R.out _ _)
  replace Q := hide (show Below w.heap.size w w5' by rw [ew5']; exact Q.out.trans (below_setCells _ _ _ (by have := Q.out.size; omega)))
  replace R := hide (show w5'.heap[w.heap.size + 1]? = some (.cells (grI ⟨V.l, A1, c1⟩ ⟨V.l, A2, c2⟩ (times + 1)).toArray 35 (0, 0)) by rw [ew5']; exact whole_heap (grI ⟨V.l, A1, c1⟩ ⟨V.l, A2, c2⟩ (times + 1)) (xs := zGr) R.out rfl)
  clear ew5' Tw5'
  refine ⟨keepsL_all (by kernel_rfl) (by kernel_rfl), ?_⟩
  go_simp
  refine wpAnyL_one (i := 9) (by kernel_rfl) ?_
  refine wpOp_do rfl rfl ?_
  go_simp
  refine ⟨keepsL_all (by kernel_rfl) (by kernel_rfl), ?_⟩
  go_simp
  refine wpAnyL_done (by kernel_rfl) ?_ _
  go_wp2_with fail
  refine bodyPost_ret (results_cell_tmp (by rfl) _ w5' (w.heap.size + 1) 35 (grI ⟨V.l, A1, c1⟩ ⟨V.l, A2, c2⟩ (times + 1)).toArray (0, 0) _ (.int .i64 0) (by rfl) (by rfl) R.out Tryz.underlying35 (by rfl) (by kernel_rfl)) rfl ⟨⟨V.l, A1, c1⟩, ⟨V.l, A2, c2⟩, rfl, ⟨rfl, RA.out, FRA.out⟩, ⟨rfl, RB.out, FRB.out⟩, Q.out⟩

set_option maxRecDepth 100000 in
set_option maxHeartbeats 8000000 in
theorem grGive_ok (S G : Iv) (times : Int) (w : World) (hr : grB S.l.length G.l.length times = true) (hS : InR w w.heap.size S.a S.l) (ht : times < 1099511627776) :
    Calls Tryz.prog 29 #[.agg (grI S G times).toArray] w fun e w' => ∃ A B : Iv, e = .returned (.tuple #[.agg (grI A B (times + 1)).toArray, .int .i64 0]) ∧ NewIv S.l w.heap.size A w' ∧ NewIv S.l w.heap.size B w' ∧ Below w.heap.size w w' := by
  obtain ⟨w0, hw0⟩ : ∃ w0, w0 = (w.alloc (.cells (grI S G times).toArray 35)).alloc (.cells zGr.toArray 35) := ⟨_, rfl⟩
  have B := hide (heap_below (World.alloc_heap_new w (.cells (grI S G times).toArray 35)) ((Below.refl _ (w.alloc (.cells (grI S G times).toArray 35))).alloc (Nat.le_refl _) (.cells zGr.toArray 35)))
  have R := hide (World.alloc_heap_new (w.alloc (.cells (grI S G times).toArray 35)) (.cells zGr.toArray 35))
  have Q : Hid (Below w.heap.size w w0) := by rw [hw0]; exact hide (((Below.refl w.heap.size w).alloc (Nat.le_refl _) (.cells (grI S G times).toArray 35)).alloc (by simp; try omega) (.cells zGr.toArray 35))
  rw [← hw0] at B R
  simp only [World.size_alloc] at R
  have TK := hide (grTake_ok S G S times w0 hr (Rd.next hS Q.out Q.out.size) rfl ht)
  have HOF := hide (fun (A : Option Addr) (n : Nat) (h : Fresh w0.heap.size A) => off_fresh (n := n) h (heap_lt R.out))
  have HZ := hide (show w.heap.size ≤ w0.heap.size from Q.out.size)
  clear hr hS ht
  obtain ⟨c0, c1, c2⟩ := gr_cells B.out
  go_enter Tryz.func29, Tryz.ntmps29
  go_upto_region 1 with fail
  change Code.wp _ _ _ _ ((w.alloc (.cells (grI S G times).toArray 35)).alloc (.cells zGr.toArray 35))
  rw [← hw0]
  clear hw0
  go_wp2_with (refine wpList_load_row rfl 35 (.tmp 1) (by rfl) w.heap.size (by rfl) 35 (grI S G times).toArray (0, 0) _ (by exact B.out) Tryz.underlying35 (by rfl) (by kernel_rfl) ?_)
  clear c0 c1 c2
  (with_reducible refine (TK.out).mono ?_)
  rintro e1 w1 ⟨A, B', rfl, ⟨a1, RA, FA⟩, ⟨b1, RB, FB⟩, q⟩
  replace RA := hide RA
  replace RB := hide RB
  replace B := hide (heap_below B.out q)
  replace R := hide (heap_below R.out q)
  replace Q := hide (below_next Q.out Q.out.size q)
  clear q
  clear TK
  have O_RA_R := hide (HOF.out A.a (inRow S.l).length FA)
  have O_RB_R := hide (HOF.out B'.a (inRow S.l).length FB)
  have FFA := hide (FA.mono HZ.out)
  have FFB := hide (FB.mono HZ.out)
  have HA1 := hide a1
  have HB1 := hide b1
  clear FA FB HOF a1 b1
  have Tw1' := hide (show World.there _ (w.heap.size + 1) 0 3 from there_heap (cs := zGr) R.out)
  go_wp2_with (refine wpList_store_hid (by rfl) 35 (.tmp 2) (.tmp 8) (by rfl) (w.heap.size + 1) 0 (grI A B' (times + 1)) (by rfl) (by rfl) (by exact Tw1'.out) (by kernel_rfl) (by simp [Value.oneCell', grI, Iv.v]) ?_)
  intro w1' ew1'
  replace B := hide (show w1'.heap[w.heap.size]? = some (.cells (grI S G times).toArray 35 (0, 0)) by rw [ew1'.out]; exact other_heap (by omega) _ _ _ B.out)
  replace RA := hide (show Rd w1' w1'.heap.size A.a 1 (inRow S.l) by rw [ew1'.out]; exact off_set RA.out O_RA_R.out _ _)
  replace RB := hide (show Rd w1' w1'.heap.size B'.a 1 (inRow S.l) by rw [ew1'.out]; exact off_set RB.out O_RB_R.out _ _)
  replace Q := hide (show Below w.heap.size w w1' by rw [ew1'.out]; exact Q.out.trans (below_setCells _ _ _ (by have := Q.out.size; omega)))
  replace R := hide (show w1'.heap[w.heap.size + 1]? = some (.cells (grI A B' (times + 1)).toArray 35 (0, 0)) by rw [ew1'.out]; exact whole_heap (grI A B' (times + 1)) (xs := zGr) R.out rfl)
  clear ew1' Tw1'
  go_wp2_with fail
  refine bodyPost_ret (results_cell_tmp (by rfl) _ w1' (w.heap.size + 1) 35 (grI A B' (times + 1)).toArray (0, 0) _ (.int .i64 0) (by rfl) (by rfl) R.out Tryz.underlying35 (by rfl) (by kernel_rfl)) rfl ⟨A, B', rfl, ⟨HA1.out, RA.out, FFA.out⟩, ⟨HB1.out, RB.out, FFB.out⟩, Q.out⟩

set_option maxRecDepth 100000 in
set_option maxHeartbeats 8000000 in
theorem grHas_any (A : Option Addr) (n c : Nat) (k : Int) (w : World) :
    Calls Tryz.prog 65 #[.slice A n c, .int .i64 k] w fun e w' => e = .returned (.bool (decide (0 ≤ k ∧ k < n))) ∧ Below w.heap.size w w' := by
  by_cases h0 : 0 ≤ k
  · by_cases h1 : k < (n : Int)
    · rw [decide_eq_true (⟨h0, h1⟩ : 0 ≤ k ∧ k < n)]
      go_enter Tryz.func65, Tryz.ntmps65
      go_wp2
      go_ret
      exact ⟨by simp [h0, h1], Below.refl _ _⟩
    · rw [decide_eq_false (fun h => h1 h.2)]
      go_enter Tryz.func65, Tryz.ntmps65
      go_wp2
      go_ret
      exact ⟨by simp [h1], Below.refl _ _⟩
  · rw [decide_eq_false (fun h => h0 h.1)]
    go_enter Tryz.func65, Tryz.ntmps65
    go_wp2
    go_ret
    exact ⟨by simp [h0], Below.refl _ _⟩

set_option maxRecDepth 100000 in
set_option maxHeartbeats 8000000 in
theorem grGet_ok (S G : Iv) (times : Int) (k : Nat) (w : World) (hr : grB S.l.length G.l.length times = true) (hG : InR w w.heap.size G.a G.l) (hk : k < G.l.length) :
    Calls Tryz.prog 39 #[.agg (grI S G times).toArray, .int .i64 k] w fun e w' => e = .returned (.tuple #[.int .i64 G.l[k], .int .i64 0]) ∧ Below w.heap.size w w' := by
  obtain ⟨w0, hw0⟩ : ∃ w0, w0 = w.alloc (.cells (grI S G times).toArray 35) := ⟨_, rfl⟩
  have B := hide (World.alloc_heap_new w (.cells (grI S G times).toArray 35))
  have Q : Hid (Below w.heap.size w w0) := by rw [hw0]; exact hide ((Below.refl w.heap.size w).alloc (Nat.le_refl _) (.cells (grI S G times).toArray 35))
  rw [← hw0] at B
  have RT := hide (grRight_l S G times w0 hr)
  have HS := hide (fun W => show Calls Tryz.prog 65 #[.slice G.a G.l.length G.c, .int .i64 k] W fun e w' => e = .returned (.bool true) ∧ Below W.heap.size W w' from by
    have := grHas_any G.a G.l.length G.c k W
    rwa [decide_eq_true (show 0 ≤ (k : Int) ∧ (k : Int) < G.l.length by omega)] at this)
  obtain ⟨b, off, hA, hb, hc⟩ := hG (by unfold inRow; rw [List.length_map]; omega)
  have cv := hc k [.int .i64 G.l[k]] 0 (.int .i64 G.l[k]) (by unfold inRow; rw [List.getElem?_map, List.getElem?_eq_getElem hk]; rfl) rfl
  rw [Nat.mul_one, Nat.add_zero] at cv
  have CV := hide (fun (W : World) (q : Below w.heap.size w W) => cellBelow q hb cv)
  have hk0 : ¬ (k : Int) < 0 := by omega
  have hk1 : (k : Int) < (G.l.length : Int) := by omega
  generalize G.l[k] = v at *
  clear hr hG cv hc hb
  go_enter Tryz.func39, Tryz.ntmps39
  go_upto_region 1 with fail
  change Code.wp _ _ _ _ (w.alloc (.cells (grI S G times).toArray 35))
  rw [← hw0]
  clear hw0
  go_wp2_with (refine wpList_load_row rfl 35 (.tmp 2) (by rfl) w.heap.size (by rfl) 35 (grI S G times).toArray (0, 0) _ (by exact B.out) Tryz.underlying35 (by rfl) (by kernel_rfl) ?_)
  (with_reducible refine (RT.out).mono ?_)
  rintro ew1' w1' ⟨rfl, qw1'⟩
  replace B := hide (heap_below B.out qw1')
  replace Q := hide (below_next Q.out Q.out.size qw1')
  clear qw1'
  clear RT
  obtain ⟨c0, c1, c2⟩ := gr_cells B.out
  rw [hA] at c1 HS
  go_wp2_with fail
  clear c0 c1 c2
  (with_reducible refine (HS.out _).mono ?_)
  rintro ew2' w2' ⟨rfl, qw2'⟩
  replace B := hide (heap_below B.out qw2')
  replace Q := hide (below_next Q.out Q.out.size qw2')
  clear qw2'
  clear HS
  obtain ⟨c0, c1, c2⟩ := gr_cells B.out
  rw [hA] at c1
  have cv := CV.out w2' Q.out
  go_wp2_with fail
  refine bodyPost_ret (v := .tuple #[.int .i64 v, .int .i64 0]) (by simp [results, Tryz.results39, go_sem]) rfl ⟨rfl, Q.out⟩

set_option maxRecDepth 100000 in
set_option maxHeartbeats 8000000 in
theorem grSet_ok (S G : Iv) (times : Int) (k : Nat) (v : Int) (w : World) (hr : grB S.l.length G.l.length times = true) (hS : InR w w.heap.size S.a S.l) (hk : k < S.l.length) :
    Calls Tryz.prog 27 #[.agg (grI S G times).toArray, .int .i64 k, .int .i64 v] w fun e w' => ∃ A : Iv, e = .returned (.tuple #[.agg (grI A G times).toArray, .int .i64 0]) ∧ NewIv (S.l.set k v) w.heap.size A w' ∧ Below w.heap.size w w' := by
  obtain ⟨w0, hw0⟩ : ∃ w0, w0 = (w.alloc (.cells (grI S G times).toArray 35)).alloc (.cells zGr.toArray 35) := ⟨_, rfl⟩
  have B := hide (heap_below (World.alloc_heap_new w (.cells (grI S G times).toArray 35)) ((Below.refl _ (w.alloc (.cells (grI S G times).toArray 35))).alloc (Nat.le_refl _) (.cells zGr.toArray 35)))
  have R := hide (World.alloc_heap_new (w.alloc (.cells (grI S G times).toArray 35)) (.cells zGr.toArray 35))
  have Q : Hid (Below w.heap.size w w0) := by rw [hw0]; exact hide (((Below.refl w.heap.size w).alloc (Nat.le_refl _) (.cells (grI S G times).toArray 35)).alloc (by simp; try omega) (.cells zGr.toArray 35))
  rw [← hw0] at B R
  simp only [World.size_alloc] at R
  have RT := hide (grRight_l S G times w0 hr)
  have HS := hide (fun W => show Calls Tryz.prog 65 #[.slice S.a S.l.length S.c, .int .i64 k] W fun e w' => e = .returned (.bool true) ∧ Below W.heap.size W w' from by
    have := grHas_any S.a S.l.length S.c k W
    rwa [decide_eq_true (show 0 ≤ (k : Int) ∧ (k : Int) < S.l.length by omega)] at this)
  have hr2 := grB_iff.1 hr
  have CL := hide (fun (W : World) (q : Below w.heap.size w W) => cloneI_any S.l S.a S.c W (Rd.next hS q q.size) (by omega))
  have hk0 : ¬ (k : Int) < 0 := by omega
  have hk1 : (k : Int) < (S.l.length : Int) := by omega
  have HK := hide hk
  clear hr hS hr2 hk
  go_enter Tryz.func27, Tryz.ntmps27
  go_upto_region 1 with fail
  change Code.wp _ _ _ _ ((w.alloc (.cells (grI S G times).toArray 35)).alloc (.cells zGr.toArray 35))
  rw [← hw0]
  clear hw0
  go_wp2_with (refine wpList_load_row rfl 35 (.tmp 3) (by rfl) w.heap.size (by rfl) 35 (grI S G times).toArray (0, 0) _ (by exact B.out) Tryz.underlying35 (by rfl) (by kernel_rfl) ?_)
  (with_reducible refine (RT.out).mono ?_)
  rintro ew1' w1' ⟨rfl, qw1'⟩
  replace B := hide (heap_below B.out qw1')
  replace R := hide (heap_below R.out qw1')
  replace Q := hide (below_next Q.out Q.out.size qw1')
  clear qw1'
  clear RT
  obtain ⟨c0, c1, c2⟩ := gr_cells B.out
  go_wp2_with fail
  clear c0 c1 c2
  (with_reducible refine (HS.out _).mono ?_)
  rintro ew2' w2' ⟨rfl, qw2'⟩
  replace B := hide (heap_below B.out qw2')
  replace R := hide (heap_below R.out qw2')
  replace Q := hide (below_next Q.out Q.out.size qw2')
  clear qw2'
  clear HS
  obtain ⟨c0, c1, c2⟩ := gr_cells B.out
  have R1 := hide (CL.out w2' Q.out)
  have zB1 := heap_lt B.out
  have zR1 := heap_lt R.out
  have zq1 := Q.out.size
  go_wp2_with fail
  clear c0 c1 c2 CL
  (with_reducible refine (R1.out).mono ?_)
  rintro e5 w5 ⟨⟨A5, c5, rfl, ow⟩, q⟩
  obtain ⟨g, rfl, hg1, hg2⟩ := Own.ofLen ow (by unfold inRow; rw [List.length_map]; have := HK.out; omega)
  have OW := hide ow
  replace B := hide (heap_below B.out q)
  replace R := hide (heap_below R.out q)
  replace Q := hide (below_next Q.out Q.out.size q)
  clear q
  clear R1 ow
  obtain ⟨c0, c1, c2⟩ := gr_cells B.out
  have fr := gr_free B.out 0
  go_upto_region 4 with fail
  clear c0 c1 c2 fr
  obtain ⟨w6, e6⟩ : ∃ w6, w6 = w5.setCell ⟨w.heap.size, 0, none⟩ (.slice (some ⟨g, 0, none⟩) S.l.length c5) := ⟨_, rfl⟩
  rw [← e6]
  replace R := hide (show w6.heap[w.heap.size + 1]? = some (.cells zGr.toArray 35 (0, 0)) by rw [e6]; exact other_heap (by omega) [.slice (some ⟨g, 0, none⟩) S.l.length c5] 0 _ R.out)
  replace OW := hide (show Own w6 w2'.heap.size 2 1 (some ⟨g, 0, none⟩) c5 (inRow S.l) by rw [e6]; exact own_setCells (by omega) [.slice (some ⟨g, 0, none⟩) S.l.length c5] 0 _ OW.out)
  replace B := hide (show w6.heap[w.heap.size]? = some (.cells (grI ⟨S.l, some ⟨g, 0, none⟩, c5⟩ G times).toArray 35 (0, 0)) by rw [e6]; exact set_heap [.slice (some ⟨g, 0, none⟩) S.l.length c5] (grI S G times) 0 _ B.out)
  replace Q := hide (show Below w.heap.size w w6 by rw [e6]; exact Q.out.trans (below_setCells [.slice (some ⟨g, 0, none⟩) S.l.length c5] 0 _ (by omega)))
  clear e6
  obtain ⟨c0, c1, c2⟩ := gr_cells B.out
  have y0 : w6.cell? ⟨g, k, none⟩ = some (.int .i64 S.l[k]) := by
    have h := own_at OW.out (fun r hr => by unfold inRow at hr; obtain ⟨x, _, rfl⟩ := List.mem_map.1 hr; rfl) (k := k) (j := 0) (row := [.int .i64 S.l[k]]) (v := .int .i64 S.l[k]) (by unfold inRow; rw [List.getElem?_map, List.getElem?_eq_getElem HK.out]; rfl) rfl
    rwa [Nat.mul_one, Nat.add_zero] at h
  have y1 : w6.frozen? ⟨g, k, none⟩ = false := World.ownsRow.frozenAt OW.out k
  go_upto_region 5 with fail
  clear c0 c1 c2 y0 y1
  obtain ⟨w7, e7⟩ : ∃ w7, w7 = w6.setCell ⟨g, k, none⟩ (.int .i64 v) := ⟨_, rfl⟩
  rw [← e7]
  have RA := hide (show Rd w7 w7.heap.size (some ⟨g, 0, none⟩) 1 (inRow (S.l.set k v)) by
    have h := (OW.out.setRow (k := k) (row := [.int .i64 v]) (fun r hr => by unfold inRow at hr; obtain ⟨x, _, rfl⟩ := List.mem_map.1 hr; rfl) (by unfold inRow; rw [List.length_map]; exact HK.out) rfl).1
    rw [Nat.mul_one, ← in_set] at h
    rw [e7]
    exact inOwn_rd h)
  replace R := hide (show w7.heap[w.heap.size + 1]? = some (.cells zGr.toArray 35 (0, 0)) by rw [e7]; exact other_heap (by omega) [.int .i64 v] k _ R.out)
  replace B := hide (show w7.heap[w.heap.size]? = some (.cells (grI ⟨S.l, some ⟨g, 0, none⟩, c5⟩ G times).toArray 35 (0, 0)) by rw [e7]; exact other_heap (by omega) [.int .i64 v] k _ B.out)
  replace Q := hide (show Below w.heap.size w w7 by rw [e7]; exact Q.out.trans (below_setCells [.int .i64 v] k _ (by omega)))
  clear e7 OW
  have O_RA_R := hide (show Off (some ⟨g, 0, none⟩) (inRow (S.l.set k v)).length (w.heap.size + 1) from .inr fun g2 off e => by cases e; omega)
  have Tw3' := hide (show World.there _ (w.heap.size + 1) 0 3 from there_heap (cs := zGr) R.out)
  go_wp2_with (first | (refine wpList_load_row rfl 35 (.tmp 3) (by rfl) w.heap.size (by rfl) 35 (grI ⟨S.l, some ⟨g, 0, none⟩, c5⟩ G times).toArray (0, 0) _ (by exact B.out) Tryz.underlying35 (by rfl) (by kernel_rfl) ?_) | (refine wpList_store_hid (by rfl) 35 (.tmp 6) (.tmp 28) (by rfl) (w.heap.size + 1) 0 (grI ⟨S.l, some ⟨g, 0, none⟩, c5⟩ G times) (by rfl) (by rfl) (by exact Tw3'.out) (by kernel_rfl) (by simp [Value.oneCell', grI, Iv.v]) ?_))
  intro w3' ew3'
  replace B := hide (show w3'.heap[w.heap.size]? = some (.cells (grI ⟨S.l, some ⟨g, 0, none⟩, c5⟩ G times).toArray 35 (0, 0)) by rw [ew3'.out]; exact other_heap (by omega) _ _ _ B.out)
  replace RA := hide (show Rd w3' w3'.heap.size (some ⟨g, 0, none⟩) 1 (inRow (S.l.set k v)) by rw [ew3'.out]; exact off_set RA.out O_RA_R.out _ _)
  replace Q := hide (show Below w.heap.size w w3' by rw [ew3'.out]; exact Q.out.trans (below_setCells _ _ _ (by have := Q.out.size; omega)))
  replace R := hide (show w3'.heap[w.heap.size + 1]? = some (.cells (grI ⟨S.l, some ⟨g, 0, none⟩, c5⟩ G times).toArray 35 (0, 0)) by rw [ew3'.out]; exact whole_heap (grI ⟨S.l, some ⟨g, 0, none⟩, c5⟩ G times) (xs := zGr) R.out rfl)
  clear ew3' Tw3'
  go_wp2_with fail
  refine bodyPost_ret (results_cell_tmp (by rfl) _ w3' (w.heap.size + 1) 35 (grI ⟨S.l, some ⟨g, 0, none⟩, c5⟩ G times).toArray (0, 0) _ (.int .i64 0) (by rfl) (by rfl) R.out Tryz.underlying35 (by rfl) (by kernel_rfl)) rfl ⟨⟨S.l.set k v, some ⟨g, 0, none⟩, c5⟩, by unfold grI Iv.v; dsimp only; rw [List.length_set], ⟨rfl, RA.out, fun g2 off e => by cases e; omega⟩, Q.out⟩

def flStep (f : Flt) (v : Int) : Flt := { f with count := f.count + 1, old := if fltP f v then v else f.old }
theorem flc_free {W : World} {B : Nat} {f : Flt} {t : TypeId} (h : W.heap[B]? = some (.cells (flcL f).toArray t (0, 0))) (j : Nat) : W.frozen? ⟨B, j, none⟩ = false := by simp [World.frozen?, h]

set_option maxRecDepth 100000 in
set_option maxHeartbeats 8000000 in
theorem flStep_ok (f : Flt) (v : Int) (w : World) (hf : fltB f = true) (hc : f.count < 1099511627776) :
    Calls Tryz.prog 67 #[.agg (flcL f).toArray, .int .i64 v] w fun e w' => e = .returned (.tuple #[.agg (flcL (flStep f v)).toArray, .bool (fltP f v), .int .i64 0]) ∧ Below w.heap.size w w' := by
  obtain ⟨w0, hw0⟩ : ∃ w0, w0 = (w.alloc (.cells (flcL f).toArray 29)).alloc (.cells (flcL zFlt).toArray 29) := ⟨_, rfl⟩
  have B := hide (heap_below (World.alloc_heap_new w (.cells (flcL f).toArray 29)) ((Below.refl _ (w.alloc (.cells (flcL f).toArray 29))).alloc (Nat.le_refl _) (.cells (flcL zFlt).toArray 29)))
  have R := hide (World.alloc_heap_new (w.alloc (.cells (flcL f).toArray 29)) (.cells (flcL zFlt).toArray 29))
  have Q : Hid (Below w.heap.size w w0) := by rw [hw0]; exact hide (((Below.refl w.heap.size w).alloc (Nat.le_refl _) (.cells (flcL f).toArray 29)).alloc (by simp; try omega) (.cells (flcL zFlt).toArray 29))
  rw [← hw0] at B R
  simp only [World.size_alloc] at R
  have PS := hide (fun W => show Calls Tryz.prog 59 #[.agg (flcL f).toArray, .int .i64 v] W fun e w' => e = .returned (.tuple #[.bool (fltP f v), .int .i64 0]) ∧ Below W.heap.size W w' from passes_ok f v W hf)
  have hcc := fltB_iff.1 hf
  have hw1 : IntKind.i64.wrap (f.count + 1) = f.count + 1 := IntWalk.i64_in _ (by omega)
  have hc2 : ¬ 1099511627776 ≤ f.count := by omega
  have HST := hide (show flStep f v = { f with count := f.count + 1, old := if fltP f v then v else f.old } from rfl)
  obtain ⟨st, hst⟩ : ∃ st, st = flStep f v := ⟨_, rfl⟩
  rw [← hst] at HST ⊢
  generalize fltP f v = p at *
  clear hf hc hcc hst
  go_enter Tryz.func67, Tryz.ntmps67
  go_upto_region 1 with fail
  change Code.wp _ _ _ _ ((w.alloc (.cells (flcL f).toArray 29)).alloc (.cells (flcL zFlt).toArray 29))
  rw [← hw0]
  clear hw0
  go_wp2_with (refine wpList_load_row rfl 29 (.tmp 2) (by rfl) w.heap.size (by rfl) 29 (flcL f).toArray (0, 0) _ (by exact B.out) Tryz.underlying29 (by rfl) (by kernel_rfl) ?_)
  (with_reducible refine (PS.out _).mono ?_)
  rintro ew1' w1' ⟨rfl, qw1'⟩
  replace B := hide (heap_below B.out qw1')
  replace R := hide (heap_below R.out qw1')
  replace Q := hide (below_next Q.out Q.out.size qw1')
  clear qw1'
  clear PS
  obtain ⟨c0, c1, c2, c3, c4, c5, c6, c7, c8⟩ := fl_cells B.out
  have fr := flc_free B.out
  go_upto_region 5 with fail
  obtain ⟨w5, e5⟩ : ∃ w5, w5 = w1'.setCell ⟨w.heap.size, 8, none⟩ (.int .i64 (f.count + 1)) := ⟨_, rfl⟩
  rw [← e5]
  clear c0 c1 c2 c3 c4 c5 c6 c7 c8 fr
  replace R := hide (show w5.heap[w.heap.size + 1]? = some (.cells (flcL zFlt).toArray 29 (0, 0)) by rw [e5]; exact other_heap (by omega) [.int .i64 (f.count + 1)] 8 _ R.out)
  replace B := hide (show w5.heap[w.heap.size]? = some (.cells (flcL { f with count := f.count + 1 }).toArray 29 (0, 0)) by rw [e5]; exact set_heap [.int .i64 (f.count + 1)] (flcL f) 8 _ B.out)
  replace Q := hide (show Below w.heap.size w w5 by rw [e5]; exact Q.out.trans (below_setCells [.int .i64 (f.count + 1)] 8 _ (by omega)))
  clear e5
  cases p with
  | false =>
    have E := hide (show st = { f with count := f.count + 1 } by rw [HST.out]; rfl)
    rw [← E.out] at B
    have Tw2' := hide (show World.there _ (w.heap.size + 1) 0 9 from there_heap (cs := flcL zFlt) R.out)
    go_wp2_with (first | (refine wpList_load_row rfl 29 (.tmp 2) (by rfl) w.heap.size (by rfl) 29 (flcL st).toArray (0, 0) _ (by exact B.out) Tryz.underlying29 (by rfl) (by kernel_rfl) ?_) | (refine wpList_store_hid (by rfl) 29 (.tmp 4) (.tmp 30) (by rfl) (w.heap.size + 1) 0 (flcL st) (by rfl) (by rfl) (by exact Tw2'.out) (by kernel_rfl) (by simp [Value.oneCell', flcL]) ?_))
    intro w2' ew2'
    replace B := hide (show w2'.heap[w.heap.size]? = some (.cells (flcL st).toArray 29 (0, 0)) by rw [ew2'.out]; exact other_heap (by omega) _ _ _ B.out)
    replace Q := hide (show Below w.heap.size w w2' by rw [ew2'.out]; exact Q.out.trans (below_setCells _ _ _ (by have := Q.out.size; omega)))
    replace R := hide (show w2'.heap[w.heap.size + 1]? = some (.cells (flcL st).toArray 29 (0, 0)) by rw [ew2'.out]; exact whole_heap (flcL st) (xs := flcL zFlt) R.out rfl)
    clear ew2' Tw2'
    go_wp2_with fail
    refine bodyPost_ret (results_cell_tmp2 (by rfl) _ w2' (w.heap.size + 1) 29 (flcL st).toArray (0, 0) _ (.bool false) (.int .i64 0) (by rfl) (by rfl) (by rfl) R.out Tryz.underlying29 (by rfl) (by kernel_rfl)) rfl ⟨rfl, Q.out⟩
  | true =>
    have E := hide (show st = { f with count := f.count + 1, old := v } by rw [HST.out]; rfl)
    obtain ⟨c0, c1, c2, c3, c4, c5, c6, c7, c8⟩ := fl_cells B.out
    have fr := flc_free B.out
    go_upto_region 7 with fail
    obtain ⟨w6, e6⟩ : ∃ w6, w6 = w5.setCell ⟨w.heap.size, 7, none⟩ (.int .i64 v) := ⟨_, rfl⟩
    rw [← e6]
    clear c0 c1 c2 c3 c4 c5 c6 c7 c8 fr
    replace R := hide (show w6.heap[w.heap.size + 1]? = some (.cells (flcL zFlt).toArray 29 (0, 0)) by rw [e6]; exact other_heap (by omega) [.int .i64 v] 7 _ R.out)
    replace B := hide (show w6.heap[w.heap.size]? = some (.cells (flcL st).toArray 29 (0, 0)) by rw [e6, E.out]; exact set_heap [.int .i64 v] (flcL { f with count := f.count + 1 }) 7 _ B.out)
    replace Q := hide (show Below w.heap.size w w6 by rw [e6]; exact Q.out.trans (below_setCells [.int .i64 v] 7 _ (by omega)))
    clear e6
    have Tw3' := hide (show World.there _ (w.heap.size + 1) 0 9 from there_heap (cs := flcL zFlt) R.out)
    go_wp2_with (first | (refine wpList_load_row rfl 29 (.tmp 2) (by rfl) w.heap.size (by rfl) 29 (flcL st).toArray (0, 0) _ (by exact B.out) Tryz.underlying29 (by rfl) (by kernel_rfl) ?_) | (refine wpList_store_hid (by rfl) 29 (.tmp 4) (.tmp 30) (by rfl) (w.heap.size + 1) 0 (flcL st) (by rfl) (by rfl) (by exact Tw3'.out) (by kernel_rfl) (by simp [Value.oneCell', flcL]) ?_))
    intro w3' ew3'
    replace B := hide (show w3'.heap[w.heap.size]? = some (.cells (flcL st).toArray 29 (0, 0)) by rw [ew3'.out]; exact other_heap (by omega) _ _ _ B.out)
    replace Q := hide (show Below w.heap.size w w3' by rw [ew3'.out]; exact Q.out.trans (below_setCells _ _ _ (by have := Q.out.size; omega)))
    replace R := hide (show w3'.heap[w.heap.size + 1]? = some (.cells (flcL st).toArray 29 (0, 0)) by rw [ew3'.out]; exact whole_heap (flcL st) (xs := flcL zFlt) R.out rfl)
    clear ew3' Tw3'
    go_wp2_with fail
    refine bodyPost_ret (results_cell_tmp2 (by rfl) _ w3' (w.heap.size + 1) 29 (flcL st).toArray (0, 0) _ (.bool true) (.int .i64 0) (by rfl) (by rfl) (by rfl) R.out Tryz.underlying29 (by rfl) (by kernel_rfl)) rfl ⟨rfl, Q.out⟩
end Go.Proofs.YtnhegnneohpkaaaGreat
