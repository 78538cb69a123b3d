/- Walks of count.rest, count.Step of what is off. -/
import Derived.Test.YtjfgapljfbkfiaaDoorMgCtM
namespace Go.Proofs.YtjfgapljfbkfiaaDoor
open Go.ChangeShapes Go.WideShapes Go.ChangeAt Go.RowKit Go.Maps
open FP (Fr)

/-- Of one that is off. -/
def restL (what rs : Int) : List Value := if what = 7 then cnL 0 0 (!(rs - 1 == 0)) (rs - 1) else cnL 0 0 true rs

set_option maxRecDepth 100000 in
set_option maxHeartbeats 8000000 in
theorem cntRest_any (what rs : Int) (w : World) (h1 : 1 ≤ rs) (h2 : rs ≤ 128) :
    Calls Tryd.prog 73 #[.agg (cnL 0 0 true rs).toArray, .int .i64 what] w fun e w' => e = .returned (.agg (restL what rs).toArray) ∧ Below w.heap.size w w' := by
  obtain ⟨w0, hw0⟩ : ∃ w0, w0 = (w.alloc (.cells (cnL 0 0 true rs).toArray 27)).alloc (.cells (cnL 0 0 false 0).toArray 27) := ⟨_, rfl⟩
  have step : ∀ (W : World) (o : Obj), Below W.heap.size W (W.alloc o) := fun W o => (Below.refl _ _).alloc (Nat.le_refl _) _
  have B0 := hide (heap_below (World.alloc_heap_new w (.cells (cnL 0 0 true rs).toArray 27)) (step _ (.cells (cnL 0 0 false 0).toArray 27)))
  have R0 := hide (World.alloc_heap_new (w.alloc (.cells (cnL 0 0 true rs).toArray 27)) (.cells (cnL 0 0 false 0).toArray 27))
  have Q0 : Hid (Below w.heap.size w w0) := by rw [hw0]; exact hide ((step _ _).alloc (by simp) _)
  rw [← hw0] at B0 R0
  simp only [World.size_alloc] at R0
  obtain ⟨nx, hnx⟩ : ∃ nx, nx = restL what rs := ⟨_, rfl⟩
  rw [← hnx]
  unfold restL at hnx
  have HNX := hide hnx
  clear step hnx
  have TR := hide (show w0.there (w.heap.size + 1) 0 4 from there_heap (cs := cnL 0 0 false 0) R0.out)
  obtain ⟨c0, c1, c2, c3⟩ := cn_cells B0.out
  go_enter Tryd.func73, Tryd.ntmps73
  go_upto_region 1 with fail
  change Code.wp _ _ _ _ ((w.alloc (.cells (cnL 0 0 true rs).toArray 27)).alloc (.cells (cnL 0 0 false 0).toArray 27))
  rw [← hw0]
  clear hw0
  by_cases e7 : what = 7
  case neg =>
    have EN := hide (show nx = cnL 0 0 true rs by rw [HNX.out, if_neg e7])
    clear HNX
    go_wp2_with (first | (refine wpList_load_row rfl 27 (.tmp 2) (by rfl) w.heap.size (by rfl) 27 (cnL 0 0 true rs).toArray (0, 0) _ (by exact B0.out) Tryd.underlying27 (by rfl) (by kernel_rfl) ?_) | (refine wpList_store_hid (by rfl) 27 (.tmp 4) (.tmp 7) (by rfl) (w.heap.size + 1) 0 (cnL 0 0 true rs) (by rfl) (by rfl) (by exact TR.out) (by kernel_rfl) (by simp [Value.oneCell', cnL]) ?_))
    intro w5 e5
    have R5 := hide (show w5.heap[w.heap.size + 1]? = some (.cells (cnL 0 0 true rs).toArray 27 (0, 0)) by rw [e5.out]; exact whole_heap (cnL 0 0 true rs) (xs := cnL 0 0 false 0) R0.out rfl)
    have Q5 := hide (show Below w.heap.size w w5 by rw [e5.out]; exact Q0.out.trans (below_setCells _ _ _ (by omega)))
    clear e5 TR B0 R0 Q0 c0 c1 c2 c3
    go_wp2_with fail
    refine bodyPost_ret (results_cell_row (p := 4) (ty := 27) (by rfl) _ w5 (w.heap.size + 1) 27 (cnL 0 0 true rs).toArray (0, 0) _ (by rfl) R5.out Tryd.underlying27 (by rfl) (by kernel_rfl)) rfl ⟨by rw [EN.out], Q5.out⟩
  case pos =>
    have f2 := cl_froz B0.out 2
    have f3 := cl_froz B0.out 3
    by_cases e0 : rs - 1 = 0
    · have EN := hide (show nx = cnL 0 0 false 0 by rw [HNX.out, if_pos e7, e0]; rfl)
      have hb : (0 : Int) = 0 := rfl
      obtain rfl : rs = 1 := by omega
      subst e7
      have B1 := hide (show ((w0.setCell ⟨w.heap.size, 3, none⟩ (.int .i64 0)).setCell ⟨w.heap.size, 2, none⟩ (.bool false)).heap[w.heap.size]? = some (.cells (cnL 0 0 false 0).toArray 27 (0, 0)) from by
        have := mc_set (mc_set B0.out 3 (.int .i64 0)) 2 (.bool false)
        exact this)
      have TR2 := hide (show ((w0.setCell ⟨w.heap.size, 3, none⟩ (.int .i64 0)).setCell ⟨w.heap.size, 2, none⟩ (.bool false)).heap[w.heap.size + 1]? = some (.cells (cnL 0 0 false 0).toArray 27 (0, 0)) from by
        rw [heap_setCell_other _ _ _ _ (by simp), heap_setCell_other _ _ _ _ (by simp)]
        exact R0.out)
      have Q1 := hide (below_set (below_set Q0.out 3 (.int .i64 0)) 2 (.bool false))
      have TH := hide (there_heap (cs := cnL 0 0 false 0) TR2.out)
      clear HNX e0 hb TR h1 h2
      go_wp2_with (first | (refine wpList_load_row rfl 27 (.tmp 2) (by rfl) w.heap.size (by rfl) 27 (cnL 0 0 false 0).toArray (0, 0) _ (by exact B1.out) Tryd.underlying27 (by rfl) (by kernel_rfl) ?_) | (refine wpList_store_hid (by rfl) 27 (.tmp 4) (.tmp 16) (by rfl) (w.heap.size + 1) 0 (cnL 0 0 false 0) (by rfl) (by rfl) (by exact TH.out) (by kernel_rfl) (by simp [Value.oneCell', cnL]) ?_))
      intro w5 e5
      have R5 := hide (show w5.heap[w.heap.size + 1]? = some (.cells (cnL 0 0 false 0).toArray 27 (0, 0)) by rw [e5.out]; exact whole_heap (cnL 0 0 false 0) (xs := cnL 0 0 false 0) TR2.out rfl)
      have Q5 := hide (show Below w.heap.size w w5 by rw [e5.out]; exact Q1.out.trans (below_setCells _ _ _ (by omega)))
      clear e5 TH TR2 B1 Q1
      go_wp2_with fail
      refine bodyPost_ret (results_cell_row (p := 4) (ty := 27) (by rfl) _ w5 (w.heap.size + 1) 27 (cnL 0 0 false 0).toArray (0, 0) _ (by rfl) R5.out Tryd.underlying27 (by rfl) (by kernel_rfl)) rfl ⟨by rw [EN.out], Q5.out⟩
    · have EN := hide (show nx = cnL 0 0 true (rs - 1) by rw [HNX.out, if_pos e7, show (rs - 1 == 0) = false by simpa using e0]; rfl)
      have hne : (rs - 1 == 0) = false := by simpa using e0
      subst e7
      have B1 := hide (show (w0.setCell ⟨w.heap.size, 3, none⟩ (.int .i64 (rs - 1))).heap[w.heap.size]? = some (.cells (cnL 0 0 true (rs - 1)).toArray 27 (0, 0)) from mc_set B0.out 3 (.int .i64 (rs - 1)))
      have TR2 := hide (show (w0.setCell ⟨w.heap.size, 3, none⟩ (.int .i64 (rs - 1))).heap[w.heap.size + 1]? = some (.cells (cnL 0 0 false 0).toArray 27 (0, 0)) from by
        rw [heap_setCell_other _ _ _ _ (by simp)]
        exact R0.out)
      have Q1 := hide (below_set Q0.out 3 (.int .i64 (rs - 1)))
      have TH := hide (there_heap (cs := cnL 0 0 false 0) TR2.out)
      clear HNX TR
      go_wp2_with (first | (refine wpList_load_row rfl 27 (.tmp 2) (by rfl) w.heap.size (by rfl) 27 (cnL 0 0 true (rs - 1)).toArray (0, 0) _ (by exact B1.out) Tryd.underlying27 (by rfl) (by kernel_rfl) ?_) | (refine wpList_store_hid (by rfl) 27 (.tmp 4) (.tmp 16) (by rfl) (w.heap.size + 1) 0 (cnL 0 0 true (rs - 1)) (by rfl) (by rfl) (by exact TH.out) (by kernel_rfl) (by simp [Value.oneCell', cnL]) ?_))
      intro w5 e5
      have R5 := hide (show w5.heap[w.heap.size + 1]? = some (.cells (cnL 0 0 true (rs - 1)).toArray 27 (0, 0)) by rw [e5.out]; exact whole_heap (cnL 0 0 true (rs - 1)) (xs := cnL 0 0 false 0) TR2.out rfl)
      have Q5 := hide (show Below w.heap.size w w5 by rw [e5.out]; exact Q1.out.trans (below_setCells _ _ _ (by omega)))
      clear e5 TH TR2 B1 Q1
      go_wp2_with fail
      refine bodyPost_ret (results_cell_row (p := 4) (ty := 27) (by rfl) _ w5 (w.heap.size + 1) 27 (cnL 0 0 true (rs - 1)).toArray (0, 0) _ (by rfl) R5.out Tryd.underlying27 (by rfl) (by kernel_rfl)) rfl ⟨by rw [EN.out], Q5.out⟩
end Go.Proofs.YtjfgapljfbkfiaaDoor

/- The walk of count.Step of what is off. -/
namespace Go.Proofs.YtjfgapljfbkfiaaDoor
open Go.ChangeShapes Go.WideShapes Go.ChangeAt Go.RowKit Go.Maps
open FP (Fr)

set_option maxRecDepth 100000 in
set_option maxHeartbeats 8000000 in
theorem cntStep_off (what : Int) (fid : Nat) (hf : stepF what = some fid) (hw : 0 ≤ what ∧ what ≤ 1000) (rs : Int) (w : World) (h1 : 1 ≤ rs) (h2 : rs ≤ 128) :
    Calls Tryd.prog 56 #[.agg (cnL 0 0 true rs).toArray, .int .i64 what] w fun e w' => e = .returned (.tuple #[.agg (restL what rs).toArray, .int .i64 0]) ∧ Below w.heap.size w w' := by
  obtain ⟨w0, hw0⟩ : ∃ w0, w0 = (w.alloc (.cells (cnL 0 0 true rs).toArray 27)).alloc (.cells (cnL 0 0 false 0).toArray 27) := ⟨_, rfl⟩
  have hc : cntB 0 0 true rs = true := by unfold cntB; simp; omega
  have step : ∀ (W : World) (o : Obj), Below W.heap.size W (W.alloc o) := fun W o => (Below.refl _ _).alloc (Nat.le_refl _) _
  have B0 := hide (heap_below (World.alloc_heap_new w (.cells (cnL 0 0 true rs).toArray 27)) (step _ (.cells (cnL 0 0 false 0).toArray 27)))
  have R0 := hide (World.alloc_heap_new (w.alloc (.cells (cnL 0 0 true rs).toArray 27)) (.cells (cnL 0 0 false 0).toArray 27))
  have Q0 : Hid (Below w.heap.size w w0) := by rw [hw0]; exact hide ((step _ _).alloc (by simp) _)
  rw [← hw0] at B0 R0
  simp only [World.size_alloc] at R0
  have CN := hide (fun W => show Calls Tryd.prog 19 #[.agg (cnL 0 0 true rs).toArray] W fun e w' => e = .returned (.bool true) ∧ Below W.heap.size W w' from by
    have := cntRight_any 0 0 true rs W
    rw [hc] at this
    exact this)
  have ST := hide (cntSteps_any w0)
  obtain ⟨nx, hnx⟩ : ∃ nx, nx = restL what rs := ⟨_, rfl⟩
  rw [← hnx]
  have HNX := hide hnx
  clear step hc hnx
  go_enter Tryd.func56, Tryd.ntmps56
  go_upto_region 1 with fail
  change Code.wp _ _ _ _ ((w.alloc (.cells (cnL 0 0 true rs).toArray 27)).alloc (.cells (cnL 0 0 false 0).toArray 27))
  rw [← hw0]
  clear hw0
  go_wp2_with fail
  (with_reducible refine (ST.out).mono ?_)
  rintro e1 w1 ⟨⟨bm, n, rfl, hM⟩, q1⟩
  have hget := hM.get what hw hf
  have B1 := hide (heap_below B0.out q1)
  have R1 := hide (heap_below R0.out q1)
  have Q1 := hide (below_next Q0.out Q0.out.size q1)
  have C1 := hide (CN.out w1)
  clear q1 B0 R0 Q0 CN ST hM
  go_wp2_with (refine wpList_load_rowG (by kernel_rfl) 27 (.tmp 2) (by rfl) w.heap.size (by rfl) 27 (cnL 0 0 true rs).toArray (0, 0) _ (by exact B1.out) Tryd.underlying27 (by rfl) (by kernel_rfl) ?_)
  (with_reducible refine (C1.out).mono ?_)
  rintro e2 w2 ⟨rfl, q2⟩
  have B2 := hide (heap_below B1.out q2)
  have R2 := hide (heap_below R1.out q2)
  have Q2 := hide (below_next Q1.out Q1.out.size q2)
  have RS := hide (cntRest_any what rs w2 h1 h2)
  obtain ⟨c0, c1, c2, c3⟩ := cn_cells B2.out
  clear q2 B1 R1 Q1 C1 hget
  go_wp2_with (refine wpList_load_row rfl 27 (.tmp 2) (by rfl) w.heap.size (by rfl) 27 (cnL 0 0 true rs).toArray (0, 0) _ (by exact B2.out) Tryd.underlying27 (by rfl) (by kernel_rfl) ?_)
  (with_reducible refine (RS.out).mono ?_)
  rintro e3 w3 ⟨rfl, q3⟩
  have R3 := hide (heap_below R2.out q3)
  have Q3 := hide (below_next Q2.out Q2.out.size q3)
  have TR := hide (show w3.there (w.heap.size + 1) 0 4 from there_heap (cs := cnL 0 0 false 0) R3.out)
  have HL := hide (show ∃ a b c d, restL what rs = cnL a b c d from by
    unfold restL
    split
    · exact ⟨_, _, _, _, rfl⟩
    · exact ⟨_, _, _, _, rfl⟩)
  rw [← HNX.out] at HL ⊢
  clear q3 RS B2 R2 Q2 c0 c1 c2 c3 HNX
  obtain ⟨na, nb, nc, nd, hn⟩ := HL.out
  subst hn
  clear HL
  go_wp2_with (refine wpList_store_hid (by rfl) 27 (.tmp 4) (.tmp 26) (by rfl) (w.heap.size + 1) 0 (cnL na nb nc nd) (by rfl) (by rfl) (by exact TR.out) (by kernel_rfl) (by simp [Value.oneCell', cnL]) ?_)
  intro w5 e5
  have R5 := hide (show w5.heap[w.heap.size + 1]? = some (.cells (cnL na nb nc nd).toArray 27 (0, 0)) by rw [e5.out]; exact whole_heap (cnL na nb nc nd) (xs := cnL 0 0 false 0) R3.out rfl)
  have Q5 := hide (show Below w.heap.size w w5 by rw [e5.out]; exact Q3.out.trans (below_setCells _ _ _ (by omega)))
  clear e5 TR R3 Q3
  go_wp2_with fail
  refine bodyPost_ret (results_cell_tmp (by rfl) _ w5 (w.heap.size + 1) 27 (cnL na nb nc nd).toArray (0, 0) _ (.int .i64 0) (by rfl) (by rfl) R5.out Tryd.underlying27 (by rfl) (by kernel_rfl)) rfl ⟨rfl, Q5.out⟩
end Go.Proofs.YtjfgapljfbkfiaaDoor
