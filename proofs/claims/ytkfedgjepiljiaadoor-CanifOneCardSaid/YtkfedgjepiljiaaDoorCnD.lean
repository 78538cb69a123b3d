/- canif.Go, Send, Next, Done of what may be. -/
import Derived.Test.YtkfedgjepiljiaaDoorCnC
namespace Go.Proofs.YtkfedgjepiljiaaDoor
open Go.ChangeShapes Go.WideShapes Go.ChangeAt Go.RowKit
open FP (Fr)
open HP (kB at' Hp)

def Fi.go1 (x : Fi) : Fi := { x with on := true }
def Fi.go0 (x : Fi) : Fi := ⟨none, [], x.c, x.seq, x.cap, -1, false, x.sent, min (x.lost + x.m.length) 1099511627776⟩
def Fi.done (x : Fi) : Fi := { x with has := -1, sent := min (x.sent + 1) 1099511627776 }
theorem off_low {W : World} {A : Option Addr} {sz : Nat} {R : List (List Value)} {x : Nat} (h : Rd W W.heap.size A sz R) (hx : W.heap.size ≤ x) : Off A R.length x := off_new h hx

set_option maxRecDepth 100000 in
set_option maxHeartbeats 16000000 in
theorem cnGo_on (x : Fi) (w : World) (ho : x.Ok w) :
    Calls Tryd.prog 10 #[.agg x.cs.toArray, .bool true] w fun e w' => e = .returned (.tuple #[.agg x.go1.cs.toArray, .int .i64 0]) ∧ Below w.heap.size w w' := by
  obtain ⟨w0, hw0⟩ : ∃ w0, w0 = ((w.alloc (.cells x.cs.toArray 31)).alloc (.cells ([.bool true]).toArray 4)).alloc (.cells zFi.cs.toArray 31) := ⟨_, rfl⟩
  have B := hide (heap_below (heap_below (World.alloc_heap_new w (.cells x.cs.toArray 31)) ((Below.refl _ (w.alloc (.cells x.cs.toArray 31))).alloc (Nat.le_refl _) (.cells ([.bool true]).toArray 4))) ((Below.refl _ ((w.alloc (.cells x.cs.toArray 31)).alloc (.cells ([.bool true]).toArray 4))).alloc (Nat.le_refl _) (.cells zFi.cs.toArray 31)))
  have D := hide (heap_below (World.alloc_heap_new (w.alloc (.cells x.cs.toArray 31)) (.cells ([.bool true]).toArray 4)) ((Below.refl _ ((w.alloc (.cells x.cs.toArray 31)).alloc (.cells ([.bool true]).toArray 4))).alloc (Nat.le_refl _) (.cells zFi.cs.toArray 31)))
  have R := hide (World.alloc_heap_new ((w.alloc (.cells x.cs.toArray 31)).alloc (.cells ([.bool true]).toArray 4)) (.cells zFi.cs.toArray 31))
  have Q : Hid (Below w.heap.size w w0) := by rw [hw0]; exact hide ((((Below.refl w.heap.size w).alloc (Nat.le_refl _) (.cells x.cs.toArray 31)).alloc (by simp; try omega) (.cells ([.bool true]).toArray 4)).alloc (by simp; try omega) (.cells zFi.cs.toArray 31))
  rw [← hw0] at B D R
  simp only [World.size_alloc] at D R
  replace R := hide (show w0.heap[w.heap.size + 2]? = some (.cells zFi.cs.toArray 31 (0, 0)) from R.out)
  have CL := hide (cnCall1_ok x w0 (ho.next Q.out) 21 (w.heap.size + 1) (fun args W => by kernel_rfl) (fun _ => False) (fun _ h => h.elim) (fun y _ => y = x.go1) (fun _ _ _ h => h) (hide fun W hB q hz => by
    refine (cnGo1_on x _ _ W hB (heap_below D.out q)).mono ?_
    rintro e W' ⟨rfl, rfl⟩
    exact ⟨x.go1, rfl, set_heap [.bool true] x.cs 4 _ hB, rfl, Kp.set _ _ _ _ (.inl rfl)⟩))
  clear ho
  go_enter Tryd.func10, Tryd.ntmps10
  go_upto_region 1 with fail
  change Code.wp _ _ _ _ (((w.alloc (.cells x.cs.toArray 31)).alloc (.cells ([.bool true]).toArray 4)).alloc (.cells zFi.cs.toArray 31))
  rw [← hw0]
  clear hw0
  go_wp2_with (refine wpList_load_row rfl 31 (.tmp 2) (by rfl) w.heap.size (by rfl) 31 x.cs.toArray (0, 0) _ (by exact B.out) Tryd.underlying31 (by rfl) (by kernel_rfl) ?_)
  (with_reducible refine (CL.out).mono ?_)
  rintro e1 w1 ⟨y, rfl, rfl, k⟩
  have q1 := k.below (B := w0.heap.size) (fun _ h => h.elim) (Nat.le_refl _)
  clear k CL
  replace B := hide (heap_below B.out q1)
  replace D := hide (heap_below D.out q1)
  replace R := hide (heap_below R.out q1)
  replace Q := hide (below_next Q.out Q.out.size q1)
  clear q1
  have Tw1' := hide (show World.there _ (w.heap.size + 2) 0 7 from there_heap (cs := zFi.cs) R.out)
  go_wp2_with (refine wpList_store_hid (by rfl) 31 (.tmp 4) (.tmp 9) (by rfl) (w.heap.size + 2) 0 x.go1.cs (by rfl) (by rfl) (by exact Tw1'.out) (by kernel_rfl) (by simp [Value.oneCell', Fi.cs]) ?_)
  intro w1' ew1'
  replace B := hide (show w1'.heap[w.heap.size]? = some (.cells x.cs.toArray 31 (0, 0)) by rw [ew1'.out]; exact other_heap (by omega) _ _ _ B.out)
  replace D := hide (show w1'.heap[w.heap.size + 1]? = some (.cells ([.bool true]).toArray 4 (0, 0)) by rw [ew1'.out]; exact other_heap (by omega) _ _ _ D.out)
  replace Q := hide (show Below w.heap.size w w1' by rw [ew1'.out]; exact Q.out.trans (below_setCells _ _ _ (by have := Q.out.size; omega)))
  replace R := hide (show w1'.heap[w.heap.size + 2]? = some (.cells x.go1.cs.toArray 31 (0, 0)) by rw [ew1'.out]; exact whole_heap x.go1.cs (xs := zFi.cs) R.out rfl)
  clear ew1' Tw1'
  go_wp2_with fail
  refine bodyPost_ret (results_cell_tmp (by rfl) _ w1' (w.heap.size + 2) 31 x.go1.cs.toArray (0, 0) _ (.int .i64 0) (by rfl) (by rfl) R.out Tryd.underlying31 (by rfl) (by kernel_rfl)) rfl ⟨rfl, Q.out⟩

set_option maxRecDepth 100000 in
set_option maxHeartbeats 16000000 in
theorem cnGo_off (x : Fi) (w : World) (ho : x.Ok w) (hh : x.has = -1) :
    Calls Tryd.prog 10 #[.agg x.cs.toArray, .bool false] w fun e w' => e = .returned (.tuple #[.agg (Fi.cs { x.go0 with c := 0 }).toArray, .int .i64 0]) ∧ Below w.heap.size w w' := by
  obtain ⟨w0, hw0⟩ : ∃ w0, w0 = ((w.alloc (.cells x.cs.toArray 31)).alloc (.cells ([.bool false]).toArray 4)).alloc (.cells zFi.cs.toArray 31) := ⟨_, rfl⟩
  have B := hide (heap_below (heap_below (World.alloc_heap_new w (.cells x.cs.toArray 31)) ((Below.refl _ (w.alloc (.cells x.cs.toArray 31))).alloc (Nat.le_refl _) (.cells ([.bool false]).toArray 4))) ((Below.refl _ ((w.alloc (.cells x.cs.toArray 31)).alloc (.cells ([.bool false]).toArray 4))).alloc (Nat.le_refl _) (.cells zFi.cs.toArray 31)))
  have D := hide (heap_below (World.alloc_heap_new (w.alloc (.cells x.cs.toArray 31)) (.cells ([.bool false]).toArray 4)) ((Below.refl _ ((w.alloc (.cells x.cs.toArray 31)).alloc (.cells ([.bool false]).toArray 4))).alloc (Nat.le_refl _) (.cells zFi.cs.toArray 31)))
  have R := hide (World.alloc_heap_new ((w.alloc (.cells x.cs.toArray 31)).alloc (.cells ([.bool false]).toArray 4)) (.cells zFi.cs.toArray 31))
  have Q : Hid (Below w.heap.size w w0) := by rw [hw0]; exact hide ((((Below.refl w.heap.size w).alloc (Nat.le_refl _) (.cells x.cs.toArray 31)).alloc (by simp; try omega) (.cells ([.bool false]).toArray 4)).alloc (by simp; try omega) (.cells zFi.cs.toArray 31))
  rw [← hw0] at B D R
  simp only [World.size_alloc] at D R
  replace R := hide (show w0.heap[w.heap.size + 2]? = some (.cells zFi.cs.toArray 31 (0, 0)) from R.out)
  have CL := hide (cnCall1_ok x w0 (ho.next Q.out) 21 (w.heap.size + 1) (fun args W => by kernel_rfl) (fun _ => False) (fun _ h => h.elim) (fun y _ => y = { x.go0 with c := 0 }) (fun _ _ _ h => h) (hide fun W hB q hz => by
    refine (cnGo1_off x _ _ W hB (heap_below D.out q) ho.lt (by have := fi_len ho; omega) hh).mono ?_
    rintro e W' ⟨rfl, rfl⟩
    exact ⟨{ x.go0 with c := 0 }, rfl, set_heap _ _ 6 _ (set_heap _ _ 0 _ (set_heap _ _ 3 _ (set_heap _ x.cs 4 _ hB))), rfl, (((Kp.set _ _ _ _ (.inl rfl)).trans (Kp.set _ _ _ _ (.inl rfl))).trans (Kp.set _ _ _ _ (.inl rfl))).trans (Kp.set _ _ _ _ (.inl rfl))⟩))
  clear ho
  go_enter Tryd.func10, Tryd.ntmps10
  go_upto_region 1 with fail
  change Code.wp _ _ _ _ (((w.alloc (.cells x.cs.toArray 31)).alloc (.cells ([.bool false]).toArray 4)).alloc (.cells zFi.cs.toArray 31))
  rw [← hw0]
  clear hw0
  go_wp2_with (refine wpList_load_row rfl 31 (.tmp 2) (by rfl) w.heap.size (by rfl) 31 x.cs.toArray (0, 0) _ (by exact B.out) Tryd.underlying31 (by rfl) (by kernel_rfl) ?_)
  (with_reducible refine (CL.out).mono ?_)
  rintro e1 w1 ⟨y, rfl, rfl, k⟩
  have q1 := k.below (B := w0.heap.size) (fun _ h => h.elim) (Nat.le_refl _)
  clear k CL
  replace B := hide (heap_below B.out q1)
  replace D := hide (heap_below D.out q1)
  replace R := hide (heap_below R.out q1)
  replace Q := hide (below_next Q.out Q.out.size q1)
  clear q1
  have Tw1' := hide (show World.there _ (w.heap.size + 2) 0 7 from there_heap (cs := zFi.cs) R.out)
  go_wp2_with (refine wpList_store_hid (by rfl) 31 (.tmp 4) (.tmp 9) (by rfl) (w.heap.size + 2) 0 ((Fi.cs { x.go0 with c := 0 })) (by rfl) (by rfl) (by exact Tw1'.out) (by kernel_rfl) (by simp [Value.oneCell', Fi.cs]) ?_)
  intro w1' ew1'
  replace B := hide (show w1'.heap[w.heap.size]? = some (.cells x.cs.toArray 31 (0, 0)) by rw [ew1'.out]; exact other_heap (by omega) _ _ _ B.out)
  replace D := hide (show w1'.heap[w.heap.size + 1]? = some (.cells ([.bool false]).toArray 4 (0, 0)) by rw [ew1'.out]; exact other_heap (by omega) _ _ _ D.out)
  replace Q := hide (show Below w.heap.size w w1' by rw [ew1'.out]; exact Q.out.trans (below_setCells _ _ _ (by have := Q.out.size; omega)))
  replace R := hide (show w1'.heap[w.heap.size + 2]? = some (.cells ((Fi.cs { x.go0 with c := 0 })).toArray 31 (0, 0)) by rw [ew1'.out]; exact whole_heap ((Fi.cs { x.go0 with c := 0 })) (xs := zFi.cs) R.out rfl)
  clear ew1' Tw1'
  go_wp2_with fail
  refine bodyPost_ret (results_cell_tmp (by rfl) _ w1' (w.heap.size + 2) 31 (Fi.cs { x.go0 with c := 0 }).toArray (0, 0) _ (.int .i64 0) (by rfl) (by rfl) R.out Tryd.underlying31 (by rfl) (by kernel_rfl)) rfl ⟨rfl, Q.out⟩

set_option maxRecDepth 100000 in
set_option maxHeartbeats 16000000 in
theorem cnSend_ok (x : Fi) (hd : Int) (f : Fr) (w : World) (ho : x.Ok w) (hon : x.on = true) (hh0 : 0 ≤ hd) (hh1 : hd ≤ 1000000) (hf : FP.rightB f = true) (hid : f.id < 4294967296) (hs : x.seq < 1099511627776) (hc : (x.m.length : Int) < x.cap) :
    Calls Tryd.prog 11 #[.agg x.cs.toArray, .int .i64 hd, .agg (frc f).toArray] w fun e w' => ∃ y, e = .returned (.tuple #[.agg y.cs.toArray, .int .i64 0]) ∧ Rd w' w'.heap.size y.A 7 (y.m.map bxc) ∧ Fresh w.heap.size y.A ∧ Hid (SendY x hd f y) ∧ Below w.heap.size w w' := by
  obtain ⟨w0, hw0⟩ : ∃ w0, w0 = (((w.alloc (.cells x.cs.toArray 31)).alloc (.cells ([.int .i64 hd]).toArray 3)).alloc (.cells (frc f).toArray 24)).alloc (.cells zFi.cs.toArray 31) := ⟨_, rfl⟩
  have B := hide (heap_below (heap_below (heap_below (World.alloc_heap_new w (.cells x.cs.toArray 31)) ((Below.refl _ (w.alloc (.cells x.cs.toArray 31))).alloc (Nat.le_refl _) (.cells ([.int .i64 hd]).toArray 3))) ((Below.refl _ ((w.alloc (.cells x.cs.toArray 31)).alloc (.cells ([.int .i64 hd]).toArray 3))).alloc (Nat.le_refl _) (.cells (frc f).toArray 24))) ((Below.refl _ (((w.alloc (.cells x.cs.toArray 31)).alloc (.cells ([.int .i64 hd]).toArray 3)).alloc (.cells (frc f).toArray 24))).alloc (Nat.le_refl _) (.cells zFi.cs.toArray 31)))
  have D := hide (heap_below (heap_below (World.alloc_heap_new (w.alloc (.cells x.cs.toArray 31)) (.cells ([.int .i64 hd]).toArray 3)) ((Below.refl _ ((w.alloc (.cells x.cs.toArray 31)).alloc (.cells ([.int .i64 hd]).toArray 3))).alloc (Nat.le_refl _) (.cells (frc f).toArray 24))) ((Below.refl _ (((w.alloc (.cells x.cs.toArray 31)).alloc (.cells ([.int .i64 hd]).toArray 3)).alloc (.cells (frc f).toArray 24))).alloc (Nat.le_refl _) (.cells zFi.cs.toArray 31)))
  have G := hide (heap_below (World.alloc_heap_new ((w.alloc (.cells x.cs.toArray 31)).alloc (.cells ([.int .i64 hd]).toArray 3)) (.cells (frc f).toArray 24)) ((Below.refl _ (((w.alloc (.cells x.cs.toArray 31)).alloc (.cells ([.int .i64 hd]).toArray 3)).alloc (.cells (frc f).toArray 24))).alloc (Nat.le_refl _) (.cells zFi.cs.toArray 31)))
  have R := hide (World.alloc_heap_new (((w.alloc (.cells x.cs.toArray 31)).alloc (.cells ([.int .i64 hd]).toArray 3)).alloc (.cells (frc f).toArray 24)) (.cells zFi.cs.toArray 31))
  have Q : Hid (Below w.heap.size w w0) := by rw [hw0]; exact hide (((((Below.refl w.heap.size w).alloc (Nat.le_refl _) (.cells x.cs.toArray 31)).alloc (by simp; try omega) (.cells ([.int .i64 hd]).toArray 3)).alloc (by simp; try omega) (.cells (frc f).toArray 24)).alloc (by simp; try omega) (.cells zFi.cs.toArray 31))
  rw [← hw0] at B D G R
  simp only [World.size_alloc] at D G R
  replace G := hide (show w0.heap[w.heap.size + 2]? = some (.cells (frc f).toArray 24 (0, 0)) from G.out)
  replace R := hide (show w0.heap[w.heap.size + 3]? = some (.cells zFi.cs.toArray 31 (0, 0)) from R.out)
  have CL := hide (cnCall2_ok x w0 (ho.next Q.out) 22 (w.heap.size + 1) (w.heap.size + 2) (fun args W => by kernel_rfl) (fun _ => False) (fun _ h => h.elim) (fun y W => SendY x hd f y ∧ BxR W W.heap.size y.A y.m ∧ Off y.A (y.m.map bxc).length (w0.heap.size + 1) ∧ Fresh w0.heap.size y.A) (fun y W vs ⟨i1, i2, i3, i4⟩ => ⟨i1, off_set i2 i3 _ _, i3, i4⟩) (hide fun W hB q hz => by
    refine (cnSend1_ok x hd f _ _ _ W hB (heap_below D.out q) (heap_below G.out q) (ho.next (below_next Q.out Q.out.size q)) hon hh0 hh1 hf hid hs hc).mono ?_
    rintro e W' ⟨y, he, hb, ⟨i1, i2, i3⟩, k⟩
    exact ⟨y, he, hb, ⟨i1, i2, .inr fun g off e => by have := i3 g off e; omega, i3.mono q.size⟩, k.mono fun _ _ h => .inl h⟩))
  have HOR := hide (show ∀ y : Fi, Fresh w0.heap.size y.A → Off y.A (y.m.map bxc).length (w.heap.size + 3) from fun y h => off_fresh h (heap_lt R.out))
  have HZ := hide (show w.heap.size ≤ w0.heap.size from Q.out.size)
  clear ho hon hf
  go_enter Tryd.func11, Tryd.ntmps11
  go_upto_region 1 with fail
  change Code.wp _ _ _ _ ((((w.alloc (.cells x.cs.toArray 31)).alloc (.cells ([.int .i64 hd]).toArray 3)).alloc (.cells (frc f).toArray 24)).alloc (.cells zFi.cs.toArray 31))
  rw [← hw0]
  clear hw0
  go_wp2_with (refine wpList_load_row rfl 31 (.tmp 3) (by rfl) w.heap.size (by rfl) 31 x.cs.toArray (0, 0) _ (by exact B.out) Tryd.underlying31 (by rfl) (by kernel_rfl) ?_)
  (with_reducible refine (CL.out).mono ?_)
  rintro e1 w1 ⟨y, rfl, ⟨i1, i2, -, i4⟩, k⟩
  have q1 := k.below (B := w0.heap.size) (fun _ h => h.elim) (Nat.le_refl _)
  have RN := hide (show Rd w1 w1.heap.size y.A 7 (y.m.map bxc) from i2)
  have HY := hide i1
  have FY := hide i4
  clear k CL i1 i2 i4
  replace B := hide (heap_below B.out q1)
  replace D := hide (heap_below D.out q1)
  replace G := hide (heap_below G.out q1)
  replace R := hide (heap_below R.out q1)
  replace Q := hide (below_next Q.out Q.out.size q1)
  clear q1
  have O_RN_R := hide (show Off y.A (y.m.map bxc).length (w.heap.size + 3) from HOR.out y FY.out)
  have Tw1' := hide (show World.there _ (w.heap.size + 3) 0 7 from there_heap (cs := zFi.cs) R.out)
  go_wp2_with (refine wpList_store_hid (by rfl) 31 (.tmp 6) (.tmp 11) (by rfl) (w.heap.size + 3) 0 y.cs (by rfl) (by rfl) (by exact Tw1'.out) (by kernel_rfl) (by simp [Value.oneCell', Fi.cs]) ?_)
  intro w1' ew1'
  replace B := hide (show w1'.heap[w.heap.size]? = some (.cells x.cs.toArray 31 (0, 0)) by rw [ew1'.out]; exact other_heap (by omega) _ _ _ B.out)
  replace D := hide (show w1'.heap[w.heap.size + 1]? = some (.cells ([.int .i64 hd]).toArray 3 (0, 0)) by rw [ew1'.out]; exact other_heap (by omega) _ _ _ D.out)
  replace G := hide (show w1'.heap[w.heap.size + 2]? = some (.cells (frc f).toArray 24 (0, 0)) by rw [ew1'.out]; exact other_heap (by omega) _ _ _ G.out)
  replace RN := hide (show Rd w1' w1'.heap.size y.A 7 (y.m.map bxc) by rw [ew1'.out]; exact off_set RN.out O_RN_R.out _ _)
  replace Q := hide (show Below w.heap.size w w1' by rw [ew1'.out]; exact Q.out.trans (below_setCells _ _ _ (by have := Q.out.size; omega)))
  replace R := hide (show w1'.heap[w.heap.size + 3]? = some (.cells y.cs.toArray 31 (0, 0)) by rw [ew1'.out]; exact whole_heap y.cs (xs := zFi.cs) R.out rfl)
  clear ew1' Tw1'
  go_wp2_with fail
  refine bodyPost_ret (results_cell_tmp (by rfl) _ w1' (w.heap.size + 3) 31 y.cs.toArray (0, 0) _ (.int .i64 0) (by rfl) (by rfl) R.out Tryd.underlying31 (by rfl) (by kernel_rfl)) rfl ⟨y, rfl, RN.out, FY.out.mono HZ.out, HY.out, Q.out⟩

set_option maxRecDepth 100000 in
set_option maxHeartbeats 16000000 in
theorem cnNext_same (x : Fi) (c : Cl) (w : World) (ho : x.Ok w) (hc : c.Ok) (h : x.on = false ∨ c.has = true ∨ x.has ≠ -1 ∨ x.m = []) :
    Calls Tryd.prog 8 #[.agg x.cs.toArray, .agg c.cs.toArray] w fun e w' => e = .returned (.tuple #[.agg x.cs.toArray, .agg c.cs.toArray, .int .i64 0]) ∧ Below w.heap.size w w' := by
  obtain ⟨w0, hw0⟩ : ∃ w0, w0 = (((w.alloc (.cells x.cs.toArray 31)).alloc (.cells c.cs.toArray 40)).alloc (.cells zFi.cs.toArray 31)).alloc (.cells zCl.cs.toArray 40) := ⟨_, rfl⟩
  have B := hide (heap_below (heap_below (heap_below (World.alloc_heap_new w (.cells x.cs.toArray 31)) ((Below.refl _ (w.alloc (.cells x.cs.toArray 31))).alloc (Nat.le_refl _) (.cells c.cs.toArray 40))) ((Below.refl _ ((w.alloc (.cells x.cs.toArray 31)).alloc (.cells c.cs.toArray 40))).alloc (Nat.le_refl _) (.cells zFi.cs.toArray 31))) ((Below.refl _ (((w.alloc (.cells x.cs.toArray 31)).alloc (.cells c.cs.toArray 40)).alloc (.cells zFi.cs.toArray 31))).alloc (Nat.le_refl _) (.cells zCl.cs.toArray 40)))
  have C := hide (heap_below (heap_below (World.alloc_heap_new (w.alloc (.cells x.cs.toArray 31)) (.cells c.cs.toArray 40)) ((Below.refl _ ((w.alloc (.cells x.cs.toArray 31)).alloc (.cells c.cs.toArray 40))).alloc (Nat.le_refl _) (.cells zFi.cs.toArray 31))) ((Below.refl _ (((w.alloc (.cells x.cs.toArray 31)).alloc (.cells c.cs.toArray 40)).alloc (.cells zFi.cs.toArray 31))).alloc (Nat.le_refl _) (.cells zCl.cs.toArray 40)))
  have R := hide (heap_below (World.alloc_heap_new ((w.alloc (.cells x.cs.toArray 31)).alloc (.cells c.cs.toArray 40)) (.cells zFi.cs.toArray 31)) ((Below.refl _ (((w.alloc (.cells x.cs.toArray 31)).alloc (.cells c.cs.toArray 40)).alloc (.cells zFi.cs.toArray 31))).alloc (Nat.le_refl _) (.cells zCl.cs.toArray 40)))
  have S := hide (World.alloc_heap_new (((w.alloc (.cells x.cs.toArray 31)).alloc (.cells c.cs.toArray 40)).alloc (.cells zFi.cs.toArray 31)) (.cells zCl.cs.toArray 40))
  have Q : Hid (Below w.heap.size w w0) := by rw [hw0]; exact hide (((((Below.refl w.heap.size w).alloc (Nat.le_refl _) (.cells x.cs.toArray 31)).alloc (by simp; try omega) (.cells c.cs.toArray 40)).alloc (by simp; try omega) (.cells zFi.cs.toArray 31)).alloc (by simp; try omega) (.cells zCl.cs.toArray 40))
  rw [← hw0] at B C R S
  simp only [World.size_alloc] at C R S
  replace R := hide (show w0.heap[w.heap.size + 2]? = some (.cells zFi.cs.toArray 31 (0, 0)) from R.out)
  replace S := hide (show w0.heap[w.heap.size + 3]? = some (.cells zCl.cs.toArray 40 (0, 0)) from S.out)
  have zw0 : w.heap.size + 1 < w0.heap.size := heap_lt C.out
  have CL := hide (cnCall1_ok x w0 (ho.next Q.out) 17 (w.heap.size + 1) (fun args W => by kernel_rfl) (fun _ => False) (fun _ h => h.elim) (fun y W => y = x ∧ W.heap[w.heap.size + 1]? = some (.cells c.cs.toArray 40 (0, 0))) (fun y W vs ⟨i1, i2⟩ => ⟨i1, other_heap (by omega) _ _ _ i2⟩) (hide fun W hB q hz => by
    refine (cnNext1_same x c _ _ W hB (heap_below C.out q) hc h).mono ?_
    rintro e W' ⟨rfl, q2⟩
    exact ⟨x, rfl, heap_below hB q2, ⟨rfl, heap_below (heap_below C.out q) q2⟩, Kp.of q2⟩))
  clear ho hc h zw0
  go_enter Tryd.func8, Tryd.ntmps8
  go_upto_region 1 with fail
  change Code.wp _ _ _ _ ((((w.alloc (.cells x.cs.toArray 31)).alloc (.cells c.cs.toArray 40)).alloc (.cells zFi.cs.toArray 31)).alloc (.cells zCl.cs.toArray 40))
  rw [← hw0]
  clear hw0
  go_wp2_with (refine wpList_load_row rfl 31 (.tmp 2) (by rfl) w.heap.size (by rfl) 31 x.cs.toArray (0, 0) _ (by exact B.out) Tryd.underlying31 (by rfl) (by kernel_rfl) ?_)
  (with_reducible refine (CL.out).mono ?_)
  rintro e1 w1 ⟨y, rfl, ⟨hyx, -⟩, k⟩
  obtain rfl : x = y := hyx.symm
  have q1 := k.below (B := w0.heap.size) (fun _ h => h.elim) (Nat.le_refl _)
  clear k CL
  replace B := hide (heap_below B.out q1)
  replace C := hide (heap_below C.out q1)
  replace R := hide (heap_below R.out q1)
  replace S := hide (heap_below S.out q1)
  replace Q := hide (below_next Q.out Q.out.size q1)
  clear q1
  have Tw1' := hide (show World.there _ w.heap.size 0 7 from there_heap (cs := x.cs) B.out)
  go_wp2_with (refine wpList_store_hid (by rfl) 31 (.tmp 2) (.tmp 12) (by rfl) w.heap.size 0 x.cs (by rfl) (by rfl) (by exact Tw1'.out) (by kernel_rfl) (by simp [Value.oneCell', Fi.cs]) ?_)
  intro w1' ew1'
  replace C := hide (show w1'.heap[w.heap.size + 1]? = some (.cells c.cs.toArray 40 (0, 0)) by rw [ew1'.out]; exact other_heap (by omega) _ _ _ C.out)
  replace R := hide (show w1'.heap[w.heap.size + 2]? = some (.cells zFi.cs.toArray 31 (0, 0)) by rw [ew1'.out]; exact other_heap (by omega) _ _ _ R.out)
  replace S := hide (show w1'.heap[w.heap.size + 3]? = some (.cells zCl.cs.toArray 40 (0, 0)) by rw [ew1'.out]; exact other_heap (by omega) _ _ _ S.out)
  replace Q := hide (show Below w.heap.size w w1' by rw [ew1'.out]; exact Q.out.trans (below_setCells _ _ _ (by have := Q.out.size; omega)))
  replace B := hide (show w1'.heap[w.heap.size]? = some (.cells x.cs.toArray 31 (0, 0)) by rw [ew1'.out]; exact whole_heap x.cs (xs := x.cs) B.out rfl)
  clear ew1' Tw1'
  go_upto_region 4 with fail
  refine wp_region_L [0, 1] [(0, fun W => W.heap[w.heap.size]? = some (.cells x.cs.toArray 31 (0, 0))), (1, fun W => W.heap[w.heap.size + 1]? = some (.cells c.cs.toArray 40 (0, 0)))] (by kernel_rfl) ?_
  replace B := hide (show w1'.drew.heap[w.heap.size]? = some (.cells x.cs.toArray 31 (0, 0)) from B.out)
  replace C := hide (show w1'.drew.heap[w.heap.size + 1]? = some (.cells c.cs.toArray 40 (0, 0)) from C.out)
  replace R := hide (show w1'.drew.heap[w.heap.size + 2]? = some (.cells zFi.cs.toArray 31 (0, 0)) from R.out)
  replace S := hide (show w1'.drew.heap[w.heap.size + 3]? = some (.cells zCl.cs.toArray 40 (0, 0)) from S.out)
  replace Q := hide (show Below w.heap.size w w1'.drew from Q.out.drew)
  generalize w1'.drew = w2' at *
  refine wpAnyL_load (i := 0) (v := .agg (x.cs).toArray) rfl rfl (by kernel_rfl) (by kernel_rfl) (by kernel_rfl) (by kernel_rfl) (by kernel_rfl) (fun _ _ _ h => h) rfl (fun W h => exec_heap W w.heap.size 31 (x.cs) _ h Tryd.underlying31 rfl (by kernel_rfl) _ _ (.tmp 2) (by rfl) (by rfl)) (B.out) ?_
  go_simp
  refine wpAnyL_load (i := 1) (v := .agg (c.cs).toArray) rfl rfl (by kernel_rfl) (by kernel_rfl) (by kernel_rfl) (by kernel_rfl) (by kernel_rfl) (fun _ _ _ h => h) rfl (fun W h => exec_heap W (w.heap.size + 1) 40 (c.cs) _ h Tryd.underlying40 rfl (by kernel_rfl) _ _ (.tmp 3) (by rfl) (by rfl)) (C.out) ?_
  go_simp
  refine wpAnyL_one (i := 2) (by kernel_rfl) ?_
  refine wpOp_do rfl rfl ?_
  have Tw3' := hide (show World.there _ (w.heap.size + 2) 0 7 from there_heap (cs := zFi.cs) R.out)
  refine wp_store_as 31 (.tmp 4) (.tmp 19) rfl (w.heap.size + 2) 0 x.cs (by rfl) (by rfl) (by exact Tw3'.out) (by kernel_rfl) (by simp [Value.oneCell', Fi.cs]) ?_
  intro w3' ew3'
  replace B := hide (show w3'.heap[w.heap.size]? = some (.cells x.cs.toArray 31 (0, 0)) by rw [ew3']; exact other_heap (by omega) _ _ _ B.out)
  replace C := hide (show w3'.heap[w.heap.size + 1]? = some (.cells c.cs.toArray 40 (0, 0)) by rw [ew3']; exact other_heap (by omega) _ _ _ C.out)
  replace S := hide (show w3'.heap[w.heap.size + 3]? = some (.cells zCl.cs.toArray 40 (0, 0)) by rw [ew3']; exact other_heap (by omega) _ _ _ S.out)
  replace Q := hide (show Below w.heap.size w w3' by rw [ew3']; exact Q.out.trans (below_setCells _ _ _ (by have := Q.out.size; omega)))
  replace R := hide (show w3'.heap[w.heap.size + 2]? = some (.cells x.cs.toArray 31 (0, 0)) by rw [ew3']; exact whole_heap x.cs (xs := zFi.cs) R.out rfl)
  clear ew3' Tw3'
  refine ⟨keepsL_mk (by kernel_rfl) (.cons B.out (.cons C.out .nil)), ?_⟩
  go_simp
  refine wpAnyL_one (i := 3) (by kernel_rfl) ?_
  refine wpOp_do rfl rfl ?_
  have Tw4' := hide (show World.there _ (w.heap.size + 3) 0 23 from there_heap (cs := zCl.cs) S.out)
  refine wp_store_as 40 (.tmp 5) (.tmp 20) rfl (w.heap.size + 3) 0 c.cs (by rfl) (by rfl) (by exact Tw4'.out) (by kernel_rfl) (by simp [Value.oneCell', Cl.cs]) ?_
  intro w4' ew4'
  replace B := hide (show w4'.heap[w.heap.size]? = some (.cells x.cs.toArray 31 (0, 0)) by rw [ew4']; exact other_heap (by omega) _ _ _ B.out)
  replace C := hide (show w4'.heap[w.heap.size + 1]? = some (.cells c.cs.toArray 40 (0, 0)) by rw [ew4']; exact other_heap (by omega) _ _ _ C.out)
  replace R := hide (show w4'.heap[w.heap.size + 2]? = some (.cells x.cs.toArray 31 (0, 0)) by rw [ew4']; exact other_heap (by omega) _ _ _ R.out)
  replace Q := hide (show Below w.heap.size w w4' by rw [ew4']; exact Q.out.trans (below_setCells _ _ _ (by have := Q.out.size; omega)))
  replace S := hide (show w4'.heap[w.heap.size + 3]? = some (.cells c.cs.toArray 40 (0, 0)) by rw [ew4']; exact whole_heap c.cs (xs := zCl.cs) S.out rfl)
  clear ew4' Tw4'
  refine ⟨keepsL_mk (by kernel_rfl) (.cons B.out (.cons C.out .nil)), ?_⟩
  go_simp
  refine wpAnyL_one (i := 4) (by kernel_rfl) ?_
  refine wpOp_do rfl rfl ?_
  go_simp
  refine ⟨keepsL_mk (by kernel_rfl) (.cons B.out (.cons C.out .nil)), ?_⟩
  go_simp
  refine wpAnyL_done (by kernel_rfl) ?_ _
  go_wp2_with fail
  refine bodyPost_ret (results_cell2_tmp (by rfl) _ w4' (w.heap.size + 2) (w.heap.size + 3) 31 40 (x.cs).toArray (c.cs).toArray (0, 0) (0, 0) _ _ (.int .i64 0) (by rfl) (by rfl) (by rfl) R.out S.out Tryd.underlying31 (by rfl) (by kernel_rfl) Tryd.underlying40 (by rfl) (by kernel_rfl)) rfl ⟨rfl, Q.out⟩

set_option maxRecDepth 100000 in
set_option maxHeartbeats 16000000 in
theorem cnNext_take (x : Fi) (c : Cl) (w : World) (ho : x.Ok w) (hc : c.Ok) (hon : x.on = true) (hch : c.has = false) (hxh : x.has = -1) (hm : 0 < x.m.length) :
    Calls Tryd.prog 8 #[.agg x.cs.toArray, .agg c.cs.toArray] w fun e w' => ∃ y, e = .returned (.tuple #[.agg y.cs.toArray, .agg (c.give (at' x.m 0).f).cs.toArray, .int .i64 0]) ∧ Rd w' w'.heap.size y.A 7 (y.m.map bxc) ∧ Fresh w.heap.size y.A ∧ Hid (NextY x y) ∧ Below w.heap.size w w' := by
  obtain ⟨w0, hw0⟩ : ∃ w0, w0 = (((w.alloc (.cells x.cs.toArray 31)).alloc (.cells c.cs.toArray 40)).alloc (.cells zFi.cs.toArray 31)).alloc (.cells zCl.cs.toArray 40) := ⟨_, rfl⟩
  have B := hide (heap_below (heap_below (heap_below (World.alloc_heap_new w (.cells x.cs.toArray 31)) ((Below.refl _ (w.alloc (.cells x.cs.toArray 31))).alloc (Nat.le_refl _) (.cells c.cs.toArray 40))) ((Below.refl _ ((w.alloc (.cells x.cs.toArray 31)).alloc (.cells c.cs.toArray 40))).alloc (Nat.le_refl _) (.cells zFi.cs.toArray 31))) ((Below.refl _ (((w.alloc (.cells x.cs.toArray 31)).alloc (.cells c.cs.toArray 40)).alloc (.cells zFi.cs.toArray 31))).alloc (Nat.le_refl _) (.cells zCl.cs.toArray 40)))
  have C := hide (heap_below (heap_below (World.alloc_heap_new (w.alloc (.cells x.cs.toArray 31)) (.cells c.cs.toArray 40)) ((Below.refl _ ((w.alloc (.cells x.cs.toArray 31)).alloc (.cells c.cs.toArray 40))).alloc (Nat.le_refl _) (.cells zFi.cs.toArray 31))) ((Below.refl _ (((w.alloc (.cells x.cs.toArray 31)).alloc (.cells c.cs.toArray 40)).alloc (.cells zFi.cs.toArray 31))).alloc (Nat.le_refl _) (.cells zCl.cs.toArray 40)))
  have R := hide (heap_below (World.alloc_heap_new ((w.alloc (.cells x.cs.toArray 31)).alloc (.cells c.cs.toArray 40)) (.cells zFi.cs.toArray 31)) ((Below.refl _ (((w.alloc (.cells x.cs.toArray 31)).alloc (.cells c.cs.toArray 40)).alloc (.cells zFi.cs.toArray 31))).alloc (Nat.le_refl _) (.cells zCl.cs.toArray 40)))
  have S := hide (World.alloc_heap_new (((w.alloc (.cells x.cs.toArray 31)).alloc (.cells c.cs.toArray 40)).alloc (.cells zFi.cs.toArray 31)) (.cells zCl.cs.toArray 40))
  have Q : Hid (Below w.heap.size w w0) := by rw [hw0]; exact hide (((((Below.refl w.heap.size w).alloc (Nat.le_refl _) (.cells x.cs.toArray 31)).alloc (by simp; try omega) (.cells c.cs.toArray 40)).alloc (by simp; try omega) (.cells zFi.cs.toArray 31)).alloc (by simp; try omega) (.cells zCl.cs.toArray 40))
  rw [← hw0] at B C R S
  simp only [World.size_alloc] at C R S
  replace R := hide (show w0.heap[w.heap.size + 2]? = some (.cells zFi.cs.toArray 31 (0, 0)) from R.out)
  replace S := hide (show w0.heap[w.heap.size + 3]? = some (.cells zCl.cs.toArray 40 (0, 0)) from S.out)
  have zw0 : w.heap.size + 1 < w0.heap.size := heap_lt C.out
  have CL := hide (cnCall1_ok x w0 (ho.next Q.out) 17 (w.heap.size + 1) (fun args W => by kernel_rfl) (fun k => k = w.heap.size + 1) (fun k h => by omega) (fun y W => NextY x y ∧ BxR W W.heap.size y.A y.m ∧ Off y.A (y.m.map bxc).length (w0.heap.size + 1) ∧ Fresh w0.heap.size y.A ∧ W.heap[w.heap.size + 1]? = some (.cells (c.give (at' x.m 0).f).cs.toArray 40 (0, 0))) (fun y W vs ⟨i1, i2, i3, i4, i5⟩ => ⟨i1, off_set i2 i3 _ _, i3, i4, other_heap (by omega) _ _ _ i5⟩) (hide fun W hB q hz => by
    refine (cnNext1_take x c _ _ W hB (heap_below C.out q) (by omega) (ho.next (below_next Q.out Q.out.size q)) hc hon hch hxh hm).mono ?_
    rintro e W' ⟨y, he, hb, ⟨i1, i2, i3, i4⟩, k⟩
    exact ⟨y, he, hb, ⟨i1, i2, .inr fun g off e => by have := i3 g off e; omega, i3.mono q.size, i4⟩, k⟩))
  have HOR := hide (show ∀ y : Fi, Fresh w0.heap.size y.A → Off y.A (y.m.map bxc).length (w.heap.size + 2) ∧ Off y.A (y.m.map bxc).length (w.heap.size + 3) ∧ Off y.A (y.m.map bxc).length w.heap.size from fun y h => ⟨off_fresh h (heap_lt R.out), off_fresh h (heap_lt S.out), off_fresh h (heap_lt B.out)⟩)
  have HZ := hide (show w.heap.size ≤ w0.heap.size from Q.out.size)
  clear ho hc hon hch hxh hm
  obtain ⟨b, hb⟩ : ∃ b, b = at' x.m 0 := ⟨_, rfl⟩
  rw [← hb] at CL ⊢
  clear hb
  go_enter Tryd.func8, Tryd.ntmps8
  go_upto_region 1 with fail
  change Code.wp _ _ _ _ ((((w.alloc (.cells x.cs.toArray 31)).alloc (.cells c.cs.toArray 40)).alloc (.cells zFi.cs.toArray 31)).alloc (.cells zCl.cs.toArray 40))
  rw [← hw0]
  clear hw0
  go_wp2_with (refine wpList_load_row rfl 31 (.tmp 2) (by rfl) w.heap.size (by rfl) 31 x.cs.toArray (0, 0) _ (by exact B.out) Tryd.underlying31 (by rfl) (by kernel_rfl) ?_)
  (with_reducible refine (CL.out).mono ?_)
  rintro e1 w1 ⟨y, rfl, ⟨i1, i2, -, i4, i5⟩, k⟩
  have RN := hide (show Rd w1 w1.heap.size y.A 7 (y.m.map bxc) from i2)
  have HY := hide i1
  have FY := hide i4
  replace C := hide i5
  replace B := hide (k.heap B.out (by omega))
  replace R := hide (k.heap R.out (by omega))
  replace S := hide (k.heap S.out (by omega))
  replace Q := hide (Q.out.trans (k.below (B := w.heap.size) (fun _ h => by omega) Q.out.size))
  obtain ⟨o1, o2, o3⟩ := HOR.out y i4
  have O_RN_R := hide o1
  have O_RN_S := hide o2
  have O_RN_B := hide o3
  clear k CL i1 i2 i4 i5 zw0 HOR o1 o2 o3
  have Tw1' := hide (show World.there _ w.heap.size 0 7 from there_heap (cs := x.cs) B.out)
  go_wp2_with (refine wpList_store_hid (by rfl) 31 (.tmp 2) (.tmp 12) (by rfl) w.heap.size 0 y.cs (by rfl) (by rfl) (by exact Tw1'.out) (by kernel_rfl) (by simp [Value.oneCell', Fi.cs]) ?_)
  intro w1' ew1'
  replace C := hide (show w1'.heap[w.heap.size + 1]? = some (.cells ((c.give b.f).cs).toArray 40 (0, 0)) by rw [ew1'.out]; exact other_heap (by omega) _ _ _ C.out)
  replace R := hide (show w1'.heap[w.heap.size + 2]? = some (.cells zFi.cs.toArray 31 (0, 0)) by rw [ew1'.out]; exact other_heap (by omega) _ _ _ R.out)
  replace S := hide (show w1'.heap[w.heap.size + 3]? = some (.cells zCl.cs.toArray 40 (0, 0)) by rw [ew1'.out]; exact other_heap (by omega) _ _ _ S.out)
  replace RN := hide (show Rd w1' w1'.heap.size y.A 7 (y.m.map bxc) by rw [ew1'.out]; exact off_set RN.out O_RN_B.out _ _)
  replace Q := hide (show Below w.heap.size w w1' by rw [ew1'.out]; exact Q.out.trans (below_setCells _ _ _ (by have := Q.out.size; omega)))
  replace B := hide (show w1'.heap[w.heap.size]? = some (.cells y.cs.toArray 31 (0, 0)) by rw [ew1'.out]; exact whole_heap y.cs (xs := x.cs) B.out rfl)
  clear ew1' Tw1'
  go_upto_region 4 with fail
  refine wp_region_L [0, 1] [(0, fun W => W.heap[w.heap.size]? = some (.cells y.cs.toArray 31 (0, 0))), (1, fun W => W.heap[w.heap.size + 1]? = some (.cells ((c.give b.f).cs).toArray 40 (0, 0)))] (by kernel_rfl) ?_
  replace B := hide (show w1'.drew.heap[w.heap.size]? = some (.cells y.cs.toArray 31 (0, 0)) from B.out)
  replace C := hide (show w1'.drew.heap[w.heap.size + 1]? = some (.cells ((c.give b.f).cs).toArray 40 (0, 0)) from C.out)
  replace R := hide (show w1'.drew.heap[w.heap.size + 2]? = some (.cells zFi.cs.toArray 31 (0, 0)) from R.out)
  replace S := hide (show w1'.drew.heap[w.heap.size + 3]? = some (.cells zCl.cs.toArray 40 (0, 0)) from S.out)
  replace RN := hide (show Rd (w1'.drew) (w1'.drew).heap.size y.A 7 (y.m.map bxc) from RN.out)
  replace Q := hide (show Below w.heap.size w w1'.drew from Q.out.drew)
  generalize w1'.drew = w2' at *
  refine wpAnyL_load (i := 0) (v := .agg (y.cs).toArray) rfl rfl (by kernel_rfl) (by kernel_rfl) (by kernel_rfl) (by kernel_rfl) (by kernel_rfl) (fun _ _ _ h => h) rfl (fun W h => exec_heap W w.heap.size 31 (y.cs) _ h Tryd.underlying31 rfl (by kernel_rfl) _ _ (.tmp 2) (by rfl) (by rfl)) (B.out) ?_
  go_simp
  refine wpAnyL_load (i := 1) (v := .agg ((c.give b.f).cs).toArray) rfl rfl (by kernel_rfl) (by kernel_rfl) (by kernel_rfl) (by kernel_rfl) (by kernel_rfl) (fun _ _ _ h => h) rfl (fun W h => exec_heap W (w.heap.size + 1) 40 ((c.give b.f).cs) _ h Tryd.underlying40 rfl (by kernel_rfl) _ _ (.tmp 3) (by rfl) (by rfl)) (C.out) ?_
  go_simp
  refine wpAnyL_one (i := 2) (by kernel_rfl) ?_
  refine wpOp_do rfl rfl ?_
  have Tw3' := hide (show World.there _ (w.heap.size + 2) 0 7 from there_heap (cs := zFi.cs) R.out)
  refine wp_store_as 31 (.tmp 4) (.tmp 19) rfl (w.heap.size + 2) 0 y.cs (by rfl) (by rfl) (by exact Tw3'.out) (by kernel_rfl) (by simp [Value.oneCell', Fi.cs]) ?_
  intro w3' ew3'
  replace B := hide (show w3'.heap[w.heap.size]? = some (.cells y.cs.toArray 31 (0, 0)) by rw [ew3']; exact other_heap (by omega) _ _ _ B.out)
  replace C := hide (show w3'.heap[w.heap.size + 1]? = some (.cells ((c.give b.f).cs).toArray 40 (0, 0)) by rw [ew3']; exact other_heap (by omega) _ _ _ C.out)
  replace S := hide (show w3'.heap[w.heap.size + 3]? = some (.cells zCl.cs.toArray 40 (0, 0)) by rw [ew3']; exact other_heap (by omega) _ _ _ S.out)
  replace RN := hide (show Rd w3' w3'.heap.size y.A 7 (y.m.map bxc) by rw [ew3']; exact off_set RN.out O_RN_R.out _ _)
  replace Q := hide (show Below w.heap.size w w3' by rw [ew3']; exact Q.out.trans (below_setCells _ _ _ (by have := Q.out.size; omega)))
  replace R := hide (show w3'.heap[w.heap.size + 2]? = some (.cells y.cs.toArray 31 (0, 0)) by rw [ew3']; exact whole_heap y.cs (xs := zFi.cs) R.out rfl)
  clear ew3' Tw3'
  refine ⟨keepsL_mk (by kernel_rfl) (.cons B.out (.cons C.out .nil)), ?_⟩
  go_simp
  refine wpAnyL_one (i := 3) (by kernel_rfl) ?_
  refine wpOp_do rfl rfl ?_
  have Tw4' := hide (show World.there _ (w.heap.size + 3) 0 23 from there_heap (cs := zCl.cs) S.out)
  refine wp_store_as 40 (.tmp 5) (.tmp 20) rfl (w.heap.size + 3) 0 ((c.give b.f).cs) (by rfl) (by rfl) (by exact Tw4'.out) (by kernel_rfl) (by simp [Value.oneCell', Cl.cs]) ?_
  intro w4' ew4'
  replace B := hide (show w4'.heap[w.heap.size]? = some (.cells y.cs.toArray 31 (0, 0)) by rw [ew4']; exact other_heap (by omega) _ _ _ B.out)
  replace C := hide (show w4'.heap[w.heap.size + 1]? = some (.cells ((c.give b.f).cs).toArray 40 (0, 0)) by rw [ew4']; exact other_heap (by omega) _ _ _ C.out)
  replace R := hide (show w4'.heap[w.heap.size + 2]? = some (.cells y.cs.toArray 31 (0, 0)) by rw [ew4']; exact other_heap (by omega) _ _ _ R.out)
  replace RN := hide (show Rd w4' w4'.heap.size y.A 7 (y.m.map bxc) by rw [ew4']; exact off_set RN.out O_RN_S.out _ _)
  replace Q := hide (show Below w.heap.size w w4' by rw [ew4']; exact Q.out.trans (below_setCells _ _ _ (by have := Q.out.size; omega)))
  replace S := hide (show w4'.heap[w.heap.size + 3]? = some (.cells ((c.give b.f).cs).toArray 40 (0, 0)) by rw [ew4']; exact whole_heap ((c.give b.f).cs) (xs := zCl.cs) S.out rfl)
  clear ew4' Tw4'
  refine ⟨keepsL_mk (by kernel_rfl) (.cons B.out (.cons C.out .nil)), ?_⟩
  go_simp
  refine wpAnyL_one (i := 4) (by kernel_rfl) ?_
  refine wpOp_do rfl rfl ?_
  go_simp
  refine ⟨keepsL_mk (by kernel_rfl) (.cons B.out (.cons C.out .nil)), ?_⟩
  go_simp
  refine wpAnyL_done (by kernel_rfl) ?_ _
  go_wp2_with fail
  refine bodyPost_ret (results_cell2_tmp (by rfl) _ w4' (w.heap.size + 2) (w.heap.size + 3) 31 40 (y.cs).toArray ((c.give b.f).cs).toArray (0, 0) (0, 0) _ _ (.int .i64 0) (by rfl) (by rfl) (by rfl) R.out S.out Tryd.underlying31 (by rfl) (by kernel_rfl) Tryd.underlying40 (by rfl) (by kernel_rfl)) rfl ⟨y, rfl, RN.out, FY.out.mono HZ.out, HY.out, Q.out⟩

set_option maxRecDepth 100000 in
set_option maxHeartbeats 16000000 in
theorem cnDone_ok (x : Fi) (w : World) (ho : x.Ok w) (hh : x.has ≠ -1) :
    Calls Tryd.prog 14 #[.agg x.cs.toArray] w fun e w' => e = .returned (.tuple #[.agg x.done.cs.toArray, .int .i64 x.has, .int .i64 0]) ∧ Below w.heap.size w w' := by
  obtain ⟨w0, hw0⟩ : ∃ w0, w0 = (w.alloc (.cells x.cs.toArray 31)).alloc (.cells zFi.cs.toArray 31) := ⟨_, rfl⟩
  have B := hide (heap_below (World.alloc_heap_new w (.cells x.cs.toArray 31)) ((Below.refl _ (w.alloc (.cells x.cs.toArray 31))).alloc (Nat.le_refl _) (.cells zFi.cs.toArray 31)))
  have R := hide (World.alloc_heap_new (w.alloc (.cells x.cs.toArray 31)) (.cells zFi.cs.toArray 31))
  have Q : Hid (Below w.heap.size w w0) := by rw [hw0]; exact hide (((Below.refl w.heap.size w).alloc (Nat.le_refl _) (.cells x.cs.toArray 31)).alloc (by simp; try omega) (.cells zFi.cs.toArray 31))
  rw [← hw0] at B R
  simp only [World.size_alloc] at R
  have HO := hide (fun (W : World) (q : Below w.heap.size w W) => ho.next q)
  have HH := hide hh
  have ST := hide ho.st
  clear ho hh
  go_enter Tryd.func14, Tryd.ntmps14
  go_upto_region 1 with fail
  change Code.wp _ _ _ _ ((w.alloc (.cells x.cs.toArray 31)).alloc (.cells zFi.cs.toArray 31))
  rw [← hw0]
  clear hw0
  go_upto_region 2 with fail
  obtain ⟨w1, e1⟩ : ∃ w1, w1 = w0.alloc (.cells #[.int .i64 0] 3) := ⟨_, rfl⟩
  have P := World.alloc_heap_new w0 (.cells [.int .i64 0].toArray 3)
  have q1 : Below w0.heap.size w0 w1 := by rw [e1]; exact (Below.refl _ _).alloc (Nat.le_refl _) _
  change Code.wp _ _ _ _ (w0.alloc (.cells #[.int .i64 0] 3))
  rw [← e1] at P ⊢
  replace P := hide P
  have zP : w.heap.size + 1 < w0.heap.size := heap_lt R.out
  clear e1
  replace B := hide (heap_below B.out q1)
  replace R := hide (heap_below R.out q1)
  replace Q := hide (below_next Q.out Q.out.size q1)
  clear q1
  generalize w0.heap.size = p at *
  have zp1 : p < w1.heap.size := heap_lt P.out
  have CL := hide (cnCall1_ok x w1 (HO.out w1 Q.out) 27 p (fun args W => by kernel_rfl) (fun k => k = p) (fun k h => by omega) (fun y W => y = x.done ∧ W.heap[p]? = some (.cells [.int .i64 x.has].toArray 3 (0, 0))) (fun y W vs ⟨i1, i2⟩ => ⟨i1, other_heap (by omega) _ _ _ i2⟩) (hide fun W hB q hz => by
    refine (cnDone1_ok x _ _ W hB (heap_below P.out q) HH.out ST.out).mono ?_
    rintro e W' ⟨rfl, rfl⟩
    have hb := fi_ne hB (heap_below P.out q)
    have e1 : W.drew.heap[w1.heap.size]? = some (.cells x.cs.toArray 31 (0, 0)) := hB
    have e2 : W.drew.heap[p]? = some (.cells [.int .i64 0].toArray 3 (0, 0)) := show W.heap[p]? = _ from heap_below P.out q
    exact ⟨x.done, rfl, set_heap _ _ 5 _ (set_heap _ x.cs 3 _ (other_heap hb _ _ _ e1)), ⟨rfl, other_heap (fun h => hb h.symm) _ _ _ (other_heap (fun h => hb h.symm) _ _ _ (set_heap [.int .i64 x.has] _ 0 _ e2))⟩, (((Kp.of (Below.refl _ _).drew).trans (Kp.set _ _ _ _ (.inr rfl))).trans (Kp.set _ _ _ _ (.inl rfl))).trans (Kp.set _ _ _ _ (.inl rfl))⟩))
  go_wp2_with (refine wpList_load_row rfl 31 (.tmp 1) (by rfl) w.heap.size (by rfl) 31 x.cs.toArray (0, 0) _ (by exact B.out) Tryd.underlying31 (by rfl) (by kernel_rfl) ?_)
  (with_reducible refine (CL.out).mono ?_)
  rintro e2 w2 ⟨y, rfl, ⟨rfl, i5⟩, k⟩
  replace P := hide i5
  replace B := hide (k.heap B.out (by omega))
  replace R := hide (k.heap R.out (by omega))
  replace Q := hide (Q.out.trans (k.below (B := w.heap.size) (fun _ h => by omega) Q.out.size))
  clear k CL i5
  have Tw1' := hide (show World.there _ w.heap.size 0 7 from there_heap (cs := x.cs) B.out)
  go_wp2_with (refine wpList_store_hid (by rfl) 31 (.tmp 1) (.tmp 11) (by rfl) w.heap.size 0 x.done.cs (by rfl) (by rfl) (by exact Tw1'.out) (by kernel_rfl) (by simp [Value.oneCell', Fi.cs]) ?_)
  intro w1' ew1'
  replace R := hide (show w1'.heap[w.heap.size + 1]? = some (.cells zFi.cs.toArray 31 (0, 0)) by rw [ew1'.out]; exact other_heap (by omega) _ _ _ R.out)
  replace P := hide (show w1'.heap[p]? = some (.cells ([.int .i64 x.has]).toArray 3 (0, 0)) by rw [ew1'.out]; exact other_heap (by omega) _ _ _ P.out)
  replace Q := hide (show Below w.heap.size w w1' by rw [ew1'.out]; exact Q.out.trans (below_setCells _ _ _ (by have := Q.out.size; omega)))
  replace B := hide (show w1'.heap[w.heap.size]? = some (.cells x.done.cs.toArray 31 (0, 0)) by rw [ew1'.out]; exact whole_heap x.done.cs (xs := x.cs) B.out rfl)
  clear ew1' Tw1'
  go_upto_region 3 with fail
  refine wp_region_L [0, 1, 2] [(0, fun W => W.heap[w.heap.size]? = some (.cells x.done.cs.toArray 31 (0, 0))), (1, fun W => W.heap[p]? = some (.cells ([.int .i64 x.has]).toArray 3 (0, 0)))] (by kernel_rfl) ?_
  replace B := hide (show w1'.drew.heap[w.heap.size]? = some (.cells x.done.cs.toArray 31 (0, 0)) from B.out)
  replace R := hide (show w1'.drew.heap[w.heap.size + 1]? = some (.cells zFi.cs.toArray 31 (0, 0)) from R.out)
  replace P := hide (show w1'.drew.heap[p]? = some (.cells ([.int .i64 x.has]).toArray 3 (0, 0)) from P.out)
  replace Q := hide (show Below w.heap.size w w1'.drew from Q.out.drew)
  generalize w1'.drew = w2' at *
  refine wpAnyL_load (i := 0) (v := .agg (x.done.cs).toArray) rfl rfl (by kernel_rfl) (by kernel_rfl) (by kernel_rfl) (by kernel_rfl) (by kernel_rfl) (fun _ _ _ h => h) rfl (fun W h => exec_heap W w.heap.size 31 (x.done.cs) _ h Tryd.underlying31 rfl (by kernel_rfl) _ _ (.tmp 1) (by rfl) (by rfl)) (B.out) ?_
  go_simp
  refine wpAnyL_load (i := 1) (v := .int .i64 x.has) rfl rfl (by kernel_rfl) (by kernel_rfl) (by kernel_rfl) (by kernel_rfl) (by kernel_rfl) (fun _ _ _ h => h) rfl (fun W h => by have h0 : W.cell? ⟨p, 0, none⟩ = some (.int .i64 x.has) := (by simp [World.cell?, h]); clear h; go_simp) (P.out) ?_
  go_simp
  refine wpAnyL_pure (i := 2) (v := .int .i64 0) rfl rfl (by kernel_rfl) (by kernel_rfl) (by kernel_rfl) (by kernel_rfl) (by kernel_rfl) (fun _ _ _ h => h) rfl (fun W => by go_simp) ?_
  go_simp
  refine wpAnyL_one (i := 3) (by kernel_rfl) ?_
  refine wpOp_do rfl rfl ?_
  have Tw3' := hide (show World.there _ (w.heap.size + 1) 0 7 from there_heap (cs := zFi.cs) R.out)
  refine wp_store_as 31 (.tmp 2) (.tmp 13) rfl (w.heap.size + 1) 0 x.done.cs (by rfl) (by rfl) (by exact Tw3'.out) (by kernel_rfl) (by simp [Value.oneCell', Fi.cs]) ?_
  intro w3' ew3'
  replace B := hide (show w3'.heap[w.heap.size]? = some (.cells x.done.cs.toArray 31 (0, 0)) by rw [ew3']; exact other_heap (by omega) _ _ _ B.out)
  replace P := hide (show w3'.heap[p]? = some (.cells ([.int .i64 x.has]).toArray 3 (0, 0)) by rw [ew3']; exact other_heap (by omega) _ _ _ P.out)
  replace Q := hide (show Below w.heap.size w w3' by rw [ew3']; exact Q.out.trans (below_setCells _ _ _ (by have := Q.out.size; omega)))
  replace R := hide (show w3'.heap[w.heap.size + 1]? = some (.cells x.done.cs.toArray 31 (0, 0)) by rw [ew3']; exact whole_heap x.done.cs (xs := zFi.cs) R.out rfl)
  clear ew3' Tw3'
  refine ⟨keepsL_mk (by kernel_rfl) (.cons B.out (.cons P.out .nil)), ?_⟩
  go_simp
  refine wpAnyL_one (i := 4) (by kernel_rfl) ?_
  refine wpOp_do rfl rfl ?_
  go_simp
  refine ⟨keepsL_mk (by kernel_rfl) (.cons B.out (.cons P.out .nil)), ?_⟩
  go_simp
  refine wpAnyL_one (i := 5) (by kernel_rfl) ?_
  refine wpOp_do rfl rfl ?_
  go_simp
  refine ⟨keepsL_mk (by kernel_rfl) (.cons B.out (.cons P.out .nil)), ?_⟩
  go_simp
  refine wpAnyL_done (by kernel_rfl) ?_ _
  go_wp2_with fail
  refine bodyPost_ret (results_cell_tmp2 (by rfl) _ w3' (w.heap.size + 1) 31 (x.done.cs).toArray (0, 0) _ (.int .i64 x.has) (.int .i64 0) (by rfl) (by rfl) (by rfl) R.out Tryd.underlying31 (by rfl) (by kernel_rfl)) rfl ⟨rfl, Q.out⟩

set_option maxRecDepth 100000 in
set_option maxHeartbeats 16000000 in
theorem cnDone_no (x : Fi) (w : World) (ho : x.Ok w) (hh : x.has = -1) :
    Calls Tryd.prog 14 #[.agg x.cs.toArray] w fun e w' => e = .returned (.tuple #[.agg zFi.cs.toArray, .int .i64 0, .int .i64 21]) ∧ Below w.heap.size w w' := by
  obtain ⟨w0, hw0⟩ : ∃ w0, w0 = (w.alloc (.cells x.cs.toArray 31)).alloc (.cells zFi.cs.toArray 31) := ⟨_, rfl⟩
  have B := hide (heap_below (World.alloc_heap_new w (.cells x.cs.toArray 31)) ((Below.refl _ (w.alloc (.cells x.cs.toArray 31))).alloc (Nat.le_refl _) (.cells zFi.cs.toArray 31)))
  have R := hide (World.alloc_heap_new (w.alloc (.cells x.cs.toArray 31)) (.cells zFi.cs.toArray 31))
  have Q : Hid (Below w.heap.size w w0) := by rw [hw0]; exact hide (((Below.refl w.heap.size w).alloc (Nat.le_refl _) (.cells x.cs.toArray 31)).alloc (by simp; try omega) (.cells zFi.cs.toArray 31))
  rw [← hw0] at B R
  simp only [World.size_alloc] at R
  have HO := hide (fun (W : World) (q : Below w.heap.size w W) => ho.next q)
  have HH := hide hh
  have ST := hide ho.st
  clear ho hh
  go_enter Tryd.func14, Tryd.ntmps14
  go_upto_region 1 with fail
  change Code.wp _ _ _ _ ((w.alloc (.cells x.cs.toArray 31)).alloc (.cells zFi.cs.toArray 31))
  rw [← hw0]
  clear hw0
  go_upto_region 2 with fail
  obtain ⟨w1, e1⟩ : ∃ w1, w1 = w0.alloc (.cells #[.int .i64 0] 3) := ⟨_, rfl⟩
  have P := World.alloc_heap_new w0 (.cells [.int .i64 0].toArray 3)
  have q1 : Below w0.heap.size w0 w1 := by rw [e1]; exact (Below.refl _ _).alloc (Nat.le_refl _) _
  change Code.wp _ _ _ _ (w0.alloc (.cells #[.int .i64 0] 3))
  rw [← e1] at P ⊢
  replace P := hide P
  have zP : w.heap.size + 1 < w0.heap.size := heap_lt R.out
  clear e1
  replace B := hide (heap_below B.out q1)
  replace R := hide (heap_below R.out q1)
  replace Q := hide (below_next Q.out Q.out.size q1)
  clear q1
  generalize w0.heap.size = p at *
  have zp1 : p < w1.heap.size := heap_lt P.out
  have CL := hide (cnCall1_no x w1 (HO.out w1 Q.out) 27 p (fun args W => by kernel_rfl) (fun k => k = p) (fun k h => by omega) (fun y W => W.heap[p]? = some (.cells [.int .i64 0].toArray 3 (0, 0))) 21 (by decide) (fun y W vs i2 => other_heap (by omega) _ _ _ i2) (hide fun W hB q hz => by
    refine (cnDone1_no x _ _ W hB HH.out).mono ?_
    rintro e W' ⟨rfl, rfl⟩
    exact ⟨x, rfl, heap_below P.out q, Kp.refl⟩))
  go_wp2_with (refine wpList_load_row rfl 31 (.tmp 1) (by rfl) w.heap.size (by rfl) 31 x.cs.toArray (0, 0) _ (by exact B.out) Tryd.underlying31 (by rfl) (by kernel_rfl) ?_)
  (with_reducible refine (CL.out).mono ?_)
  rintro e2 w2 ⟨y, rfl, i5, k⟩
  replace P := hide i5
  replace B := hide (k.heap B.out (by omega))
  replace R := hide (k.heap R.out (by omega))
  replace Q := hide (Q.out.trans (k.below (B := w.heap.size) (fun _ h => by omega) Q.out.size))
  clear k CL i5
  have Tw1' := hide (show World.there _ w.heap.size 0 7 from there_heap (cs := x.cs) B.out)
  go_wp2_with (refine wpList_store_hid (by rfl) 31 (.tmp 1) (.tmp 11) (by rfl) w.heap.size 0 zFi.cs (by rfl) (by rfl) (by exact Tw1'.out) (by kernel_rfl) (by simp [Value.oneCell', Fi.cs]) ?_)
  intro w1' ew1'
  replace R := hide (show w1'.heap[w.heap.size + 1]? = some (.cells zFi.cs.toArray 31 (0, 0)) by rw [ew1'.out]; exact other_heap (by omega) _ _ _ R.out)
  replace P := hide (show w1'.heap[p]? = some (.cells ([.int .i64 0]).toArray 3 (0, 0)) by rw [ew1'.out]; exact other_heap (by omega) _ _ _ P.out)
  replace Q := hide (show Below w.heap.size w w1' by rw [ew1'.out]; exact Q.out.trans (below_setCells _ _ _ (by have := Q.out.size; omega)))
  replace B := hide (show w1'.heap[w.heap.size]? = some (.cells zFi.cs.toArray 31 (0, 0)) by rw [ew1'.out]; exact whole_heap zFi.cs (xs := x.cs) B.out rfl)
  clear ew1' Tw1'
  go_upto_region 3 with fail
  refine wp_region_L [0, 1, 2] [(0, fun W => W.heap[w.heap.size]? = some (.cells zFi.cs.toArray 31 (0, 0))), (1, fun W => W.heap[p]? = some (.cells ([.int .i64 0]).toArray 3 (0, 0)))] (by kernel_rfl) ?_
  replace B := hide (show w1'.drew.heap[w.heap.size]? = some (.cells zFi.cs.toArray 31 (0, 0)) from B.out)
  replace R := hide (show w1'.drew.heap[w.heap.size + 1]? = some (.cells zFi.cs.toArray 31 (0, 0)) from R.out)
  replace P := hide (show w1'.drew.heap[p]? = some (.cells ([.int .i64 0]).toArray 3 (0, 0)) from P.out)
  replace Q := hide (show Below w.heap.size w w1'.drew from Q.out.drew)
  generalize w1'.drew = w2' at *
  refine wpAnyL_load (i := 0) (v := .agg (zFi.cs).toArray) rfl rfl (by kernel_rfl) (by kernel_rfl) (by kernel_rfl) (by kernel_rfl) (by kernel_rfl) (fun _ _ _ h => h) rfl (fun W h => exec_heap W w.heap.size 31 (zFi.cs) _ h Tryd.underlying31 rfl (by kernel_rfl) _ _ (.tmp 1) (by rfl) (by rfl)) (B.out) ?_
  go_simp
  refine wpAnyL_load (i := 1) (v := .int .i64 0) rfl rfl (by kernel_rfl) (by kernel_rfl) (by kernel_rfl) (by kernel_rfl) (by kernel_rfl) (fun _ _ _ h => h) rfl (fun W h => by have h0 : W.cell? ⟨p, 0, none⟩ = some (.int .i64 0) := (by simp [World.cell?, h]); clear h; go_simp) (P.out) ?_
  go_simp
  refine wpAnyL_pure (i := 2) (v := .int .i64 21) rfl rfl (by kernel_rfl) (by kernel_rfl) (by kernel_rfl) (by kernel_rfl) (by kernel_rfl) (fun _ _ _ h => h) rfl (fun W => by go_simp) ?_
  go_simp
  refine wpAnyL_one (i := 3) (by kernel_rfl) ?_
  refine wpOp_do rfl rfl ?_
  have Tw3' := hide (show World.there _ (w.heap.size + 1) 0 7 from there_heap (cs := zFi.cs) R.out)
  refine wp_store_as 31 (.tmp 2) (.tmp 13) rfl (w.heap.size + 1) 0 zFi.cs (by rfl) (by rfl) (by exact Tw3'.out) (by kernel_rfl) (by simp [Value.oneCell', Fi.cs]) ?_
  intro w3' ew3'
  replace B := hide (show w3'.heap[w.heap.size]? = some (.cells zFi.cs.toArray 31 (0, 0)) by rw [ew3']; exact other_heap (by omega) _ _ _ B.out)
  replace P := hide (show w3'.heap[p]? = some (.cells ([.int .i64 0]).toArray 3 (0, 0)) by rw [ew3']; exact other_heap (by omega) _ _ _ P.out)
  replace Q := hide (show Below w.heap.size w w3' by rw [ew3']; exact Q.out.trans (below_setCells _ _ _ (by have := Q.out.size; omega)))
  replace R := hide (show w3'.heap[w.heap.size + 1]? = some (.cells zFi.cs.toArray 31 (0, 0)) by rw [ew3']; exact whole_heap zFi.cs (xs := zFi.cs) R.out rfl)
  clear ew3' Tw3'
  refine ⟨keepsL_mk (by kernel_rfl) (.cons B.out (.cons P.out .nil)), ?_⟩
  go_simp
  refine wpAnyL_one (i := 4) (by kernel_rfl) ?_
  refine wpOp_do rfl rfl ?_
  go_simp
  refine ⟨keepsL_mk (by kernel_rfl) (.cons B.out (.cons P.out .nil)), ?_⟩
  go_simp
  refine wpAnyL_one (i := 5) (by kernel_rfl) ?_
  refine wpOp_do rfl rfl ?_
  go_simp
  refine ⟨keepsL_mk (by kernel_rfl) (.cons B.out (.cons P.out .nil)), ?_⟩
  go_simp
  refine wpAnyL_done (by kernel_rfl) ?_ _
  go_wp2_with fail
  refine bodyPost_ret (results_cell_tmp2 (by rfl) _ w3' (w.heap.size + 1) 31 (zFi.cs).toArray (0, 0) _ (.int .i64 0) (.int .i64 21) (by rfl) (by rfl) (by rfl) R.out Tryd.underlying31 (by rfl) (by kernel_rfl)) rfl ⟨rfl, Q.out⟩
end Go.Proofs.YtkfedgjepiljiaaDoor
