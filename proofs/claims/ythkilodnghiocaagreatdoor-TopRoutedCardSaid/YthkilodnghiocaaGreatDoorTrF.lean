/- pdur.Put of a router of one path. -/
import Derived.Test.YthkilodnghiocaaGreatDoorTrE
namespace Go.Proofs.YthkilodnghiocaaGreatDoor
open Go.ChangeShapes Go.WideShapes Go.ChangeAt Go.RowKit


set_option maxRecDepth 100000 in
set_option maxHeartbeats 16000000 in
theorem each_ok (x : ByteArray) (l : List ByteArray) (PA OA A : Option Addr) (pc oc c fb rb db lb tb : Nat) (w0 w : World) (F : Hid (w.heap[fb]? = some (.cells #[.int .i64 1] 3 (0, 0)))) (R : Hid (w.heap[rb]? = some (.cells (rtL PA pc OA oc).toArray 31 (0, 0)))) (D : Hid (w.heap[db]? = some (.cells #[.string x] 9 (0, 0)))) (L : Hid (w.heap[lb]? = some (.cells #[.int .i64 0] 3 (0, 0)))) (T : Hid (w.heap[tb]? = some (.cells #[.int .i64 0] 3 (0, 0)))) (H : Hid (Rt w0 PA OA A c l)) (Q : Hid (Below w0.heap.size w0 w)) (hz : rb < fb ∧ fb < db ∧ db < w0.heap.size ∧ w0.heap.size ≤ tb ∧ tb < lb ∧ lb < w.heap.size) (hl : l.length < 4) :
    Calls Tryz.prog 11 #[.slice PA 1 pc, .func (.func 12) #[] #[.pointer (some ⟨fb, 0, none⟩), .pointer (some ⟨rb, 0, none⟩), .pointer (some ⟨db, 0, none⟩), .pointer (some ⟨lb, 0, none⟩), .pointer (some ⟨tb, 0, none⟩)]] w fun e w' => ∃ P1 pc1 A' c', e = .returned (.slice P1 1 pc1) ∧ Hid (w'.heap[rb]? = some (.cells (rtL PA pc OA oc).toArray 31 (0, 0))) ∧ Hid (w'.heap[lb]? = some (.cells #[.int .i64 0] 3 (0, 0))) ∧ Hid (w'.heap[tb]? = some (.cells #[.int .i64 1] 3 (0, 0))) ∧ Hid (Own w' w.heap.size 27 6 P1 pc1 [ptc (pt1 A' (l.length + 1) c')]) ∧ Hid (Own w' w.heap.size 9 1 A' c' (stRow (l ++ [x]))) ∧ Hid (Below w0.heap.size w0 w') := by
  obtain ⟨z0, z1, z2, z3, z4, z5⟩ := hz
  replace hl := hide hl
  have hp := fun (args : Array Value) (W : World) => show (callFunc 12 args).run Tryz.prog W = .ok (.enter 12 args) W by kernel_rfl
  have CL := hide (show Calls Tryz.prog 18 #[.slice PA 1 pc] w (ClonePtV [pt1 A l.length c] w) from clonePt_any [pt1 A l.length c] PA pc w (Rd.next H.out.P Q.out Q.out.size) (by simp))
  go_enter Tryz.func11, Tryz.ntmps11
  go_wp2_with fail
  (with_reducible refine CL.out.mono ?_)
  rintro e1 w1 ⟨P1, pc1, rfl, oP, q1⟩
  obtain ⟨g, rfl, hg1, hg2⟩ := Own.ofLen oP (by simp)
  have OP := hide (show Own w1 w.heap.size 27 6 (some ⟨g, 0, none⟩) pc1 [ptc (pt1 A l.length c)] from oP)
  clear oP CL
  replace F := hide (heap_below F.out q1)
  replace R := hide (heap_below R.out q1)
  replace D := hide (heap_below D.out q1)
  replace L := hide (heap_below L.out q1)
  replace T := hide (heap_below T.out q1)
  replace Q := hide (below_next Q.out Q.out.size q1)
  clear q1
  have C1 := hide (put1_ok x l PA OA A pc oc c pc1 w.heap.size g fb rb db lb tb w0 w1 F R D L T OP (hide H.out.I) (hide H.out.O) Q ⟨z0, z1, z2, z3, z4, z5, hg1⟩ hl.out H.out.cap)
  clear F R D L T OP Q
  go_wp2_with fail
  go_loopw [10] (fun vi W => ∃ k : Nat, k ≤ 1 ∧ vi = .int .i64 k ∧ (k = 0 → W = w1) ∧ (k = 1 → ∃ A' c', Hid (W.heap[rb]? = some (.cells (rtL PA pc OA oc).toArray 31 (0, 0))) ∧ Hid (W.heap[lb]? = some (.cells #[.int .i64 0] 3 (0, 0))) ∧ Hid (W.heap[tb]? = some (.cells #[.int .i64 1] 3 (0, 0))) ∧ Hid (Own W w.heap.size 27 6 (some ⟨g, 0, none⟩) pc1 [ptc (pt1 A' (l.length + 1) c')]) ∧ Hid (Own W w.heap.size 9 1 A' c' (stRow (l ++ [x]))) ∧ Hid (Below w0.heap.size w0 W))) (fun vi _ => 1 - (intOf vi).toNat)
  case atStart => exact ⟨0, by omega, rfl, fun _ => rfl, fun h => by cases h⟩
  case round =>
    obtain ⟨k, hk, rfl, h0, h1⟩ := hrel
    by_cases hlt : k = 1
    · subst hlt
      have hN := h1 rfl
      clear h0 h1
      obtain ⟨A', c', R, L, T, OP, OS, Q⟩ := hN
      go_wp2_with fail
      go_ret
      exact ⟨_, pc1, A', c', rfl, R, L, T, OP, OS, Q⟩
    obtain rfl : k = 0 := by omega
    obtain rfl := h0 rfl
    clear h0 h1
    go_wp2_with fail
    (with_reducible refine C1.out.mono ?_)
    rintro e2 w2 ⟨A', c', rfl, R, L, T, OP, OS, Q⟩
    clear C1
    go_wp2_with fail
    go_roundw
    case rel => exact ⟨1, by omega, by go_num, (fun h => by cases h), fun _ => ⟨A', c', R, L, T, OP, OS, Q⟩⟩
    case measure => simp [intOf]

set_option maxRecDepth 100000 in
set_option maxHeartbeats 16000000 in
theorem each_full (x : ByteArray) (l : List ByteArray) (PA OA A : Option Addr) (pc oc c fb rb db lb tb : Nat) (w0 w : World) (F : Hid (w.heap[fb]? = some (.cells #[.int .i64 1] 3 (0, 0)))) (R : Hid (w.heap[rb]? = some (.cells (rtL PA pc OA oc).toArray 31 (0, 0)))) (D : Hid (w.heap[db]? = some (.cells #[.string x] 9 (0, 0)))) (L : Hid (w.heap[lb]? = some (.cells #[.int .i64 0] 3 (0, 0)))) (T : Hid (w.heap[tb]? = some (.cells #[.int .i64 0] 3 (0, 0)))) (H : Hid (Rt w0 PA OA A c l)) (Q : Hid (Below w0.heap.size w0 w)) (hz : rb < fb ∧ fb < db ∧ db < w0.heap.size ∧ w0.heap.size ≤ tb ∧ tb < lb ∧ lb < w.heap.size) (hl : l.length = 4) :
    Calls Tryz.prog 11 #[.slice PA 1 pc, .func (.func 12) #[] #[.pointer (some ⟨fb, 0, none⟩), .pointer (some ⟨rb, 0, none⟩), .pointer (some ⟨db, 0, none⟩), .pointer (some ⟨lb, 0, none⟩), .pointer (some ⟨tb, 0, none⟩)]] w fun e w' => ∃ P1 pc1, e = .returned (.slice P1 1 pc1) ∧ Hid (w'.heap[rb]? = some (.cells (rtL PA pc OA oc).toArray 31 (0, 0))) ∧ Hid (w'.heap[lb]? = some (.cells #[.int .i64 1] 3 (0, 0))) ∧ Hid (w'.heap[tb]? = some (.cells #[.int .i64 0] 3 (0, 0))) ∧ Hid (Own w' w.heap.size 27 6 P1 pc1 [ptc (pt1 A l.length c)]) ∧ Hid (Below w0.heap.size w0 w') := by
  obtain ⟨z0, z1, z2, z3, z4, z5⟩ := hz
  replace hl := hide hl
  have hp := fun (args : Array Value) (W : World) => show (callFunc 12 args).run Tryz.prog W = .ok (.enter 12 args) W by kernel_rfl
  have CL := hide (show Calls Tryz.prog 18 #[.slice PA 1 pc] w (ClonePtV [pt1 A l.length c] w) from clonePt_any [pt1 A l.length c] PA pc w (Rd.next H.out.P Q.out Q.out.size) (by simp))
  go_enter Tryz.func11, Tryz.ntmps11
  go_wp2_with fail
  (with_reducible refine CL.out.mono ?_)
  rintro e1 w1 ⟨P1, pc1, rfl, oP, q1⟩
  obtain ⟨g, rfl, hg1, hg2⟩ := Own.ofLen oP (by simp)
  have OP := hide (show Own w1 w.heap.size 27 6 (some ⟨g, 0, none⟩) pc1 [ptc (pt1 A l.length c)] from oP)
  clear oP CL
  replace F := hide (heap_below F.out q1)
  replace R := hide (heap_below R.out q1)
  replace D := hide (heap_below D.out q1)
  replace L := hide (heap_below L.out q1)
  replace T := hide (heap_below T.out q1)
  replace Q := hide (below_next Q.out Q.out.size q1)
  clear q1
  have C1 := hide (put1_full x l PA OA A pc oc c pc1 w.heap.size g fb rb db lb tb w0 w1 F R D L T OP (hide H.out.I) (hide H.out.O) Q ⟨z0, z1, z2, z3, z4, z5, hg1⟩ hl.out)
  clear F R D L T OP Q
  go_wp2_with fail
  go_loopw [10] (fun vi W => ∃ k : Nat, k ≤ 1 ∧ vi = .int .i64 k ∧ (k = 0 → W = w1) ∧ (k = 1 → Hid (W.heap[rb]? = some (.cells (rtL PA pc OA oc).toArray 31 (0, 0))) ∧ Hid (W.heap[lb]? = some (.cells #[.int .i64 1] 3 (0, 0))) ∧ Hid (W.heap[tb]? = some (.cells #[.int .i64 0] 3 (0, 0))) ∧ Hid (Own W w.heap.size 27 6 (some ⟨g, 0, none⟩) pc1 [ptc (pt1 A l.length c)]) ∧ Hid (Below w0.heap.size w0 W))) (fun vi _ => 1 - (intOf vi).toNat)
  case atStart => exact ⟨0, by omega, rfl, fun _ => rfl, fun h => by cases h⟩
  case round =>
    obtain ⟨k, hk, rfl, h0, h1⟩ := hrel
    by_cases hlt : k = 1
    · subst hlt
      have hN := h1 rfl
      clear h0 h1
      obtain ⟨R, L, T, OP, Q⟩ := hN
      go_wp2_with fail
      go_ret
      exact ⟨_, pc1, rfl, R, L, T, OP, Q⟩
    obtain rfl : k = 0 := by omega
    obtain rfl := h0 rfl
    clear h0 h1
    go_wp2_with fail
    (with_reducible refine C1.out.mono ?_)
    rintro e2 w2 ⟨rfl, R, L, T, OP, Q⟩
    clear C1
    go_wp2_with fail
    go_roundw
    case rel => exact ⟨1, by omega, by go_num, (fun h => by cases h), fun _ => ⟨R, L, T, OP, Q⟩⟩
    case measure => simp [intOf]

set_option maxRecDepth 100000 in
set_option maxHeartbeats 16000000 in
theorem rtPut_ok (x : ByteArray) (l : List ByteArray) (PA OA A : Option Addr) (pc oc c : Nat) (w : World) (h : Rt w PA OA A c l) (hx : x.size ≤ 8) (hl : l.length < 4) :
    Calls Tryz.prog 4 #[.agg (rtL PA pc OA oc).toArray, .int .i64 1, .string x] w fun e w' => ∃ PA' pc' A' c', e = .returned (.tuple #[.agg (rtL PA' pc' OA oc).toArray, .int .i64 1, .int .i64 0, .int .i64 0]) ∧ Rt w' PA' OA A' c' (l ++ [x]) ∧ Fresh w.heap.size PA' ∧ Fresh w.heap.size A' ∧ Below w.heap.size w w' := by
  obtain ⟨w0, hw0⟩ : ∃ w0, w0 = (((w.alloc (.cells (rtL PA pc OA oc).toArray 31)).alloc (.cells ([.int .i64 1]).toArray 3)).alloc (.cells ([.string x]).toArray 9)).alloc (.cells ([.slice none 0 0, .slice none 0 0]).toArray 31) := ⟨_, rfl⟩
  have B := hide (heap_below (heap_below (heap_below (World.alloc_heap_new w (.cells (rtL PA pc OA oc).toArray 31)) ((Below.refl _ (w.alloc (.cells (rtL PA pc OA oc).toArray 31))).alloc (Nat.le_refl _) (.cells ([.int .i64 1]).toArray 3))) ((Below.refl _ ((w.alloc (.cells (rtL PA pc OA oc).toArray 31)).alloc (.cells ([.int .i64 1]).toArray 3))).alloc (Nat.le_refl _) (.cells ([.string x]).toArray 9))) ((Below.refl _ (((w.alloc (.cells (rtL PA pc OA oc).toArray 31)).alloc (.cells ([.int .i64 1]).toArray 3)).alloc (.cells ([.string x]).toArray 9))).alloc (Nat.le_refl _) (.cells ([.slice none 0 0, .slice none 0 0]).toArray 31)))
  have F := hide (heap_below (heap_below (World.alloc_heap_new (w.alloc (.cells (rtL PA pc OA oc).toArray 31)) (.cells ([.int .i64 1]).toArray 3)) ((Below.refl _ ((w.alloc (.cells (rtL PA pc OA oc).toArray 31)).alloc (.cells ([.int .i64 1]).toArray 3))).alloc (Nat.le_refl _) (.cells ([.string x]).toArray 9))) ((Below.refl _ (((w.alloc (.cells (rtL PA pc OA oc).toArray 31)).alloc (.cells ([.int .i64 1]).toArray 3)).alloc (.cells ([.string x]).toArray 9))).alloc (Nat.le_refl _) (.cells ([.slice none 0 0, .slice none 0 0]).toArray 31)))
  have D := hide (heap_below (World.alloc_heap_new ((w.alloc (.cells (rtL PA pc OA oc).toArray 31)).alloc (.cells ([.int .i64 1]).toArray 3)) (.cells ([.string x]).toArray 9)) ((Below.refl _ (((w.alloc (.cells (rtL PA pc OA oc).toArray 31)).alloc (.cells ([.int .i64 1]).toArray 3)).alloc (.cells ([.string x]).toArray 9))).alloc (Nat.le_refl _) (.cells ([.slice none 0 0, .slice none 0 0]).toArray 31)))
  have R := hide (World.alloc_heap_new (((w.alloc (.cells (rtL PA pc OA oc).toArray 31)).alloc (.cells ([.int .i64 1]).toArray 3)).alloc (.cells ([.string x]).toArray 9)) (.cells ([.slice none 0 0, .slice none 0 0]).toArray 31))
  have Q : Hid (Below w.heap.size w w0) := by rw [hw0]; exact hide (((((Below.refl w.heap.size w).alloc (Nat.le_refl _) (.cells (rtL PA pc OA oc).toArray 31)).alloc (by simp; try omega) (.cells ([.int .i64 1]).toArray 3)).alloc (by simp; try omega) (.cells ([.string x]).toArray 9)).alloc (by simp; try omega) (.cells ([.slice none 0 0, .slice none 0 0]).toArray 31))
  rw [← hw0] at B F D R
  simp only [World.size_alloc] at F D R
  replace D := hide (show w0.heap[w.heap.size + 2]? = some (.cells ([.string x]).toArray 9 (0, 0)) from D.out)
  replace R := hide (show w0.heap[w.heap.size + 3]? = some (.cells ([.slice none 0 0, .slice none 0 0]).toArray 31 (0, 0)) from R.out)
  have HR := hide h
  have RT := hide (fun W (q : Below w.heap.size w W) => rtRight_ok PA OA A pc oc c l W (h.next q))
  have hx8 : ¬ (8 : Int) < (x.size : Int) := by omega
  have HX := hide hx
  have HL := hide hl
  clear h hl hx
  go_enter Tryz.func4, Tryz.ntmps4
  go_upto_region 1 with fail
  change Code.wp _ _ _ _ ((((w.alloc (.cells (rtL PA pc OA oc).toArray 31)).alloc (.cells ([.int .i64 1]).toArray 3)).alloc (.cells ([.string x]).toArray 9)).alloc (.cells ([.slice none 0 0, .slice none 0 0]).toArray 31))
  rw [← hw0]
  clear hw0
  have R1 := hide (RT.out _ Q.out)
  clear RT
  go_wp2_with (refine wpList_load_row rfl 31 (.tmp 3) (by rfl) w.heap.size (by rfl) 31 (rtL PA pc OA oc).toArray (0, 0) _ (by exact B.out) Tryz.underlying31 (by rfl) (by kernel_rfl) ?_)
  (with_reducible refine (R1.out).mono ?_)
  rintro ew1' w1' ⟨rfl, qw1'⟩
  replace B := hide (heap_below B.out qw1')
  replace F := hide (heap_below F.out qw1')
  replace D := hide (heap_below D.out qw1')
  replace R := hide (heap_below R.out qw1')
  replace Q := hide (below_next Q.out Q.out.size qw1')
  clear qw1'
  clear R1
  have d0 : w1'.cell? ⟨w.heap.size + 1 + 1, 0, none⟩ = some (.string x) := by simp [World.cell?, D.out]
  go_upto_region 4 with fail
  clear d0
  obtain ⟨wt, hwt⟩ : ∃ wt, wt = w1' := ⟨_, rfl⟩
  rw [← hwt]
  rw [← hwt] at B F D R Q
  clear hwt
  have QW := Q
  have HT := hide (HR.out.next Q.out)
  have B1 := B
  have F1 := F
  have D1 := D
  have R1 := R
  have zB := heap_lt B.out
  have zD := heap_lt D.out
  have zR := heap_lt R.out
  have zQW := Q.out.size
  replace Q := hide (Below.refl wt.heap.size wt)
  have T := heap_below (World.alloc_heap_new wt (.cells ([.int .i64 0]).toArray 3)) ((Below.refl _ _).alloc (Nat.le_refl _) (.cells ([.int .i64 0]).toArray 3))
  have L := World.alloc_heap_new (wt.alloc (.cells ([.int .i64 0]).toArray 3)) (.cells ([.int .i64 0]).toArray 3)
  simp only [World.size_alloc] at L
  have zBt : w.heap.size < wt.heap.size := heap_lt B.out
  have zFt : w.heap.size + 1 < wt.heap.size := heap_lt F.out
  have zDt : w.heap.size + 2 < wt.heap.size := heap_lt D.out
  have zRt : w.heap.size + 3 < wt.heap.size := heap_lt R.out
  have zQt : wt.heap.size ≤ wt.heap.size := Q.out.size
  obtain ⟨w3', hw3'⟩ : ∃ wx, wx = (wt.alloc (.cells ([.int .i64 0]).toArray 3)).alloc (.cells ([.int .i64 0]).toArray 3) := ⟨_, rfl⟩
  have q2' := hide (show Below wt.heap.size wt w3' by rw [hw3']; exact ((Below.refl _ _).alloc (Nat.le_refl _) _).alloc (by simp <;> omega) _)
  rw [← hw3'] at T L
  replace T := hide T
  replace L := hide L
  replace B := hide (heap_below B.out q2'.out)
  replace F := hide (heap_below F.out q2'.out)
  replace D := hide (heap_below D.out q2'.out)
  replace R := hide (heap_below R.out q2'.out)
  replace Q := hide (below_next Q.out Q.out.size q2'.out)
  clear q2'
  rw [show (wt.alloc (.cells #[.int .i64 0] 3)).alloc (.cells #[.int .i64 0] 3) = w3' from hw3'.symm]
  clear hw3'
  have zl := heap_lt L.out
  have C1 := hide (each_ok x l PA OA A pc oc c (w.heap.size + 1) w.heap.size (w.heap.size + 1 + 1) (wt.heap.size + 1) wt.heap.size wt w3' F B D L T HT Q (by omega) HL.out)
  obtain ⟨b0, b1⟩ := two_cellsT (a := .slice PA 1 pc) (b := .slice OA 1 oc) B.out
  go_wp2_with fail
  (with_reducible refine C1.out.mono ?_)
  rintro e7 w7 ⟨P1, pc1, A', c', rfl, B7, L7, T7, OP, OS, Q7⟩
  replace R := hide (heap_below R1.out Q7.out)
  clear C1 b0 b1 B F D L T B1 F1 D1 R1 Q
  have B := B7
  have L := L7
  have T := T7
  have Q := Q7
  clear B7 L7 T7 Q7
  have zw : wt.heap.size ≤ w7.heap.size := Nat.le_trans (by omega) Q.out.size
  obtain ⟨N, hN⟩ : ∃ N, N = w3'.heap.size := ⟨_, rfl⟩
  rw [← hN] at OP zl OS
  replace Q := hide (show Below w.heap.size w w7 from below_next QW.out zQW Q.out)
  clear QW
  obtain ⟨b0, b1⟩ := two_cellsT (a := .slice PA 1 pc) (b := .slice OA 1 oc) B.out
  have hfz : w7.frozen? ⟨w.heap.size, 0, none⟩ = false := by have := B.out; simp [World.frozen?, this]
  go_upto_region 5 with fail
  clear b0 b1 hfz
  obtain ⟨w4', ew4'⟩ : ∃ wq, wq = w7.setCell ⟨w.heap.size, 0, none⟩ (.slice P1 1 pc1) := ⟨_, rfl⟩
  rw [← ew4']
  replace R := hide (show w4'.heap[w.heap.size + 1 + 1 + 1]? = some (.cells ([.slice none 0 0, .slice none 0 0]).toArray 31 (0, 0)) by rw [ew4']; exact other_heap (by omega) ([.slice P1 1 pc1]) 0 _ R.out)
  replace L := hide (show w4'.heap[wt.heap.size + 1]? = some (.cells ([.int .i64 0]).toArray 3 (0, 0)) by rw [ew4']; exact other_heap (by omega) ([.slice P1 1 pc1]) 0 _ L.out)
  replace T := hide (show w4'.heap[wt.heap.size]? = some (.cells ([.int .i64 1]).toArray 3 (0, 0)) by rw [ew4']; exact other_heap (by omega) ([.slice P1 1 pc1]) 0 _ T.out)
  replace OP := hide (show Own w4' N 27 6 P1 pc1 [ptc (pt1 A' (l.length + 1) c')] by rw [ew4']; exact own_setCells (by omega) ([.slice P1 1 pc1]) 0 _ OP.out)
  replace OS := hide (show Own w4' N 9 1 A' c' (stRow (l ++ [x])) by rw [ew4']; exact own_setCells (by omega) ([.slice P1 1 pc1]) 0 _ OS.out)
  replace Q := hide (show Below w.heap.size w w4' by rw [ew4']; exact Q.out.trans (below_setCells ([.slice P1 1 pc1]) 0 _ (by omega)))
  replace B := hide (show w4'.heap[w.heap.size]? = some (.cells (rtL P1 pc1 OA oc).toArray 31 (0, 0)) by rw [ew4']; exact set_heap ([.slice P1 1 pc1]) (rtL PA pc OA oc) 0 _ B.out)
  clear ew4'
  refine wp_region_L [0, 1, 2] [(0, fun W => W.heap[w.heap.size]? = some (.cells (rtL P1 pc1 OA oc).toArray 31 (0, 0))), (1, fun W => W.heap[wt.heap.size]? = some (.cells ([.int .i64 1]).toArray 3 (0, 0))), (2, fun W => W.heap[wt.heap.size + 1]? = some (.cells ([.int .i64 0]).toArray 3 (0, 0)))] (by kernel_rfl) ?_
  replace B := hide (show w4'.drew.heap[w.heap.size]? = some (.cells (rtL P1 pc1 OA oc).toArray 31 (0, 0)) from B.out)
  replace R := hide (show w4'.drew.heap[w.heap.size + 1 + 1 + 1]? = some (.cells ([.slice none 0 0, .slice none 0 0]).toArray 31 (0, 0)) from R.out)
  replace L := hide (show w4'.drew.heap[wt.heap.size + 1]? = some (.cells ([.int .i64 0]).toArray 3 (0, 0)) from L.out)
  replace T := hide (show w4'.drew.heap[wt.heap.size]? = some (.cells ([.int .i64 1]).toArray 3 (0, 0)) from T.out)
  replace OP := hide (show Own (w4'.drew) N 27 6 P1 pc1 [ptc (pt1 A' (l.length + 1) c')] from (OP.out.grown ((Below.refl w4'.heap.size w4').drew)))
  replace OS := hide (show Own (w4'.drew) N 9 1 A' c' (stRow (l ++ [x])) from (OS.out.grown ((Below.refl w4'.heap.size w4').drew)))
  replace Q := hide (show Below w.heap.size w w4'.drew from Q.out.drew)
  generalize w4'.drew = w5' at *
  refine wpAnyL_load (i := 0) (v := .agg (rtL P1 pc1 OA oc).toArray) rfl rfl (by kernel_rfl) (by kernel_rfl) (by kernel_rfl) (by kernel_rfl) (by kernel_rfl) (fun _ _ _ h => h) rfl (fun W h => exec_heap W w.heap.size 31 (rtL P1 pc1 OA oc) _ h Tryz.underlying31 rfl (by kernel_rfl) _ _ (.tmp 3) (by rfl) (by rfl)) (B.out) ?_
  go_simp
  refine wpAnyL_load (i := 1) (v := .int .i64 1) rfl rfl (by kernel_rfl) (by kernel_rfl) (by kernel_rfl) (by kernel_rfl) (by kernel_rfl) (fun _ _ _ h => h) rfl (fun W h => by (have hc0 : W.cell? ⟨wt.heap.size, 0, none⟩ = some (.int .i64 1) := by simp [World.cell?, h]); clear h; go_simp) (T.out) ?_
  go_simp
  refine wpAnyL_load (i := 2) (v := .int .i64 0) rfl rfl (by kernel_rfl) (by kernel_rfl) (by kernel_rfl) (by kernel_rfl) (by kernel_rfl) (fun _ _ _ h => h) rfl (fun W h => by (have hc0 : W.cell? ⟨wt.heap.size + 1, 0, none⟩ = some (.int .i64 0) := by simp [World.cell?, h]); clear h; go_simp) (L.out) ?_
  go_simp
  refine wpAnyL_one (i := 3) (by kernel_rfl) ?_
  refine wpOp_do rfl rfl ?_
  have Tw6' := hide (show World.there _ (w.heap.size + 1 + 1 + 1) 0 2 from there_heap (cs := [.slice none 0 0, .slice none 0 0]) R.out)
  refine wp_store_as 31 (.tmp 6) (.tmp 26) rfl (w.heap.size + 1 + 1 + 1) 0 (rtL P1 pc1 OA oc) (by rfl) (by rfl) (by exact Tw6'.out) (by kernel_rfl) (by simp [Value.oneCell', rtL]) ?_
  intro w6' ew6'
  replace B := hide (show w6'.heap[w.heap.size]? = some (.cells (rtL P1 pc1 OA oc).toArray 31 (0, 0)) by rw [ew6']; exact other_heap (by omega) _ _ _ B.out)
  replace L := hide (show w6'.heap[wt.heap.size + 1]? = some (.cells ([.int .i64 0]).toArray 3 (0, 0)) by rw [ew6']; exact other_heap (by omega) _ _ _ L.out)
  replace T := hide (show w6'.heap[wt.heap.size]? = some (.cells ([.int .i64 1]).toArray 3 (0, 0)) by rw [ew6']; exact other_heap (by omega) _ _ _ T.out)
  replace OP := hide (show Own w6' N 27 6 P1 pc1 [ptc (pt1 A' (l.length + 1) c')] by rw [ew6']; exact own_setCells (by omega) _ _ _ OP.out)
  replace OS := hide (show Own w6' N 9 1 A' c' (stRow (l ++ [x])) by rw [ew6']; exact own_setCells (by omega) _ _ _ OS.out)
  replace Q := hide (show Below w.heap.size w w6' by rw [ew6']; exact Q.out.trans (below_setCells _ _ _ (by have := Q.out.size; omega)))
  replace R := hide (show w6'.heap[w.heap.size + 1 + 1 + 1]? = some (.cells (rtL P1 pc1 OA oc).toArray 31 (0, 0)) by rw [ew6']; exact whole_heap (rtL P1 pc1 OA oc) (xs := [.slice none 0 0, .slice none 0 0]) R.out rfl)
  clear ew6' Tw6'
  refine ⟨keepsL_mk (by kernel_rfl) (.past (by kernel_rfl) (.cons (by exact T.out) (.cons (by exact L.out) .nil))), ?_⟩
  go_simp
  refine wpAnyL_one (i := 4) (by kernel_rfl) ?_
  refine wpOp_do rfl rfl ?_
  go_simp
  refine ⟨keepsL_mk (by kernel_rfl) (.past (by kernel_rfl) (.past (by kernel_rfl) (.cons (by exact L.out) .nil))), ?_⟩
  go_simp
  refine wpAnyL_one (i := 5) (by kernel_rfl) ?_
  refine wpOp_do rfl rfl ?_
  go_simp
  refine ⟨keepsL_all (by kernel_rfl) (by kernel_rfl), ?_⟩
  go_simp
  refine wpAnyL_one (i := 6) (by kernel_rfl) ?_
  refine wpOp_do rfl rfl ?_
  go_simp
  refine ⟨keepsL_all (by kernel_rfl) (by kernel_rfl), ?_⟩
  go_simp
  refine wpAnyL_done (by kernel_rfl) ?_ _
  go_wp2_with fail
  refine bodyPost_ret (results_cell_tmp3T (by rfl) _ w6' (w.heap.size + 1 + 1 + 1) 31 (rtL P1 pc1 OA oc).toArray (0, 0) _ (.int .i64 1) (.int .i64 0) (.int .i64 0) (by rfl) (by rfl) (by rfl) (by rfl) R.out Tryz.underlying31 (by rfl) (by kernel_rfl)) rfl ⟨P1, pc1, A', c', rfl, ⟨by have := own_ptR OP.out; rwa [show l.length + 1 = (l ++ [x]).length by simp] at this, Rd.next HR.out.O Q.out Q.out.size, OS.out.rd (stRow_rows _), by simp; have := HL.out; omega, by have := Own.le OS.out; simpa [stRow] using this, fun y hy => by rcases List.mem_append.1 hy with h | h; exact HR.out.s y h; rw [List.mem_singleton.1 h]; exact HX.out⟩, fun g9 off e => by have := own_blk OP.out g9 off e; omega, fun g9 off e => by have := own_blk OS.out g9 off e; omega, Q.out⟩

set_option maxRecDepth 100000 in
set_option maxHeartbeats 16000000 in
theorem rtPut_full (x : ByteArray) (l : List ByteArray) (PA OA A : Option Addr) (pc oc c : Nat) (w : World) (h : Rt w PA OA A c l) (hx : x.size ≤ 8) (hl : l.length = 4) :
    Calls Tryz.prog 4 #[.agg (rtL PA pc OA oc).toArray, .int .i64 1, .string x] w fun e w' => ∃ PA' pc', e = .returned (.tuple #[.agg (rtL PA' pc' OA oc).toArray, .int .i64 0, .int .i64 1, .int .i64 0]) ∧ Rt w' PA' OA A c l ∧ Fresh w.heap.size PA' ∧ Below w.heap.size w w' := by
  obtain ⟨w0, hw0⟩ : ∃ w0, w0 = (((w.alloc (.cells (rtL PA pc OA oc).toArray 31)).alloc (.cells ([.int .i64 1]).toArray 3)).alloc (.cells ([.string x]).toArray 9)).alloc (.cells ([.slice none 0 0, .slice none 0 0]).toArray 31) := ⟨_, rfl⟩
  have B := hide (heap_below (heap_below (heap_below (World.alloc_heap_new w (.cells (rtL PA pc OA oc).toArray 31)) ((Below.refl _ (w.alloc (.cells (rtL PA pc OA oc).toArray 31))).alloc (Nat.le_refl _) (.cells ([.int .i64 1]).toArray 3))) ((Below.refl _ ((w.alloc (.cells (rtL PA pc OA oc).toArray 31)).alloc (.cells ([.int .i64 1]).toArray 3))).alloc (Nat.le_refl _) (.cells ([.string x]).toArray 9))) ((Below.refl _ (((w.alloc (.cells (rtL PA pc OA oc).toArray 31)).alloc (.cells ([.int .i64 1]).toArray 3)).alloc (.cells ([.string x]).toArray 9))).alloc (Nat.le_refl _) (.cells ([.slice none 0 0, .slice none 0 0]).toArray 31)))
  have F := hide (heap_below (heap_below (World.alloc_heap_new (w.alloc (.cells (rtL PA pc OA oc).toArray 31)) (.cells ([.int .i64 1]).toArray 3)) ((Below.refl _ ((w.alloc (.cells (rtL PA pc OA oc).toArray 31)).alloc (.cells ([.int .i64 1]).toArray 3))).alloc (Nat.le_refl _) (.cells ([.string x]).toArray 9))) ((Below.refl _ (((w.alloc (.cells (rtL PA pc OA oc).toArray 31)).alloc (.cells ([.int .i64 1]).toArray 3)).alloc (.cells ([.string x]).toArray 9))).alloc (Nat.le_refl _) (.cells ([.slice none 0 0, .slice none 0 0]).toArray 31)))
  have D := hide (heap_below (World.alloc_heap_new ((w.alloc (.cells (rtL PA pc OA oc).toArray 31)).alloc (.cells ([.int .i64 1]).toArray 3)) (.cells ([.string x]).toArray 9)) ((Below.refl _ (((w.alloc (.cells (rtL PA pc OA oc).toArray 31)).alloc (.cells ([.int .i64 1]).toArray 3)).alloc (.cells ([.string x]).toArray 9))).alloc (Nat.le_refl _) (.cells ([.slice none 0 0, .slice none 0 0]).toArray 31)))
  have R := hide (World.alloc_heap_new (((w.alloc (.cells (rtL PA pc OA oc).toArray 31)).alloc (.cells ([.int .i64 1]).toArray 3)).alloc (.cells ([.string x]).toArray 9)) (.cells ([.slice none 0 0, .slice none 0 0]).toArray 31))
  have Q : Hid (Below w.heap.size w w0) := by rw [hw0]; exact hide (((((Below.refl w.heap.size w).alloc (Nat.le_refl _) (.cells (rtL PA pc OA oc).toArray 31)).alloc (by simp; try omega) (.cells ([.int .i64 1]).toArray 3)).alloc (by simp; try omega) (.cells ([.string x]).toArray 9)).alloc (by simp; try omega) (.cells ([.slice none 0 0, .slice none 0 0]).toArray 31))
  rw [← hw0] at B F D R
  simp only [World.size_alloc] at F D R
  replace D := hide (show w0.heap[w.heap.size + 2]? = some (.cells ([.string x]).toArray 9 (0, 0)) from D.out)
  replace R := hide (show w0.heap[w.heap.size + 3]? = some (.cells ([.slice none 0 0, .slice none 0 0]).toArray 31 (0, 0)) from R.out)
  have HR := hide h
  have RT := hide (fun W (q : Below w.heap.size w W) => rtRight_ok PA OA A pc oc c l W (h.next q))
  have hx8 : ¬ (8 : Int) < (x.size : Int) := by omega
  have HX := hide hx
  have HL := hide hl
  clear h hl hx
  go_enter Tryz.func4, Tryz.ntmps4
  go_upto_region 1 with fail
  change Code.wp _ _ _ _ ((((w.alloc (.cells (rtL PA pc OA oc).toArray 31)).alloc (.cells ([.int .i64 1]).toArray 3)).alloc (.cells ([.string x]).toArray 9)).alloc (.cells ([.slice none 0 0, .slice none 0 0]).toArray 31))
  rw [← hw0]
  clear hw0
  have R1 := hide (RT.out _ Q.out)
  clear RT
  go_wp2_with (refine wpList_load_row rfl 31 (.tmp 3) (by rfl) w.heap.size (by rfl) 31 (rtL PA pc OA oc).toArray (0, 0) _ (by exact B.out) Tryz.underlying31 (by rfl) (by kernel_rfl) ?_)
  (with_reducible refine (R1.out).mono ?_)
  rintro ew1' w1' ⟨rfl, qw1'⟩
  replace B := hide (heap_below B.out qw1')
  replace F := hide (heap_below F.out qw1')
  replace D := hide (heap_below D.out qw1')
  replace R := hide (heap_below R.out qw1')
  replace Q := hide (below_next Q.out Q.out.size qw1')
  clear qw1'
  clear R1
  have d0 : w1'.cell? ⟨w.heap.size + 1 + 1, 0, none⟩ = some (.string x) := by simp [World.cell?, D.out]
  go_upto_region 4 with fail
  clear d0
  obtain ⟨wt, hwt⟩ : ∃ wt, wt = w1' := ⟨_, rfl⟩
  rw [← hwt]
  rw [← hwt] at B F D R Q
  clear hwt
  have QW := Q
  have HT := hide (HR.out.next Q.out)
  have B1 := B
  have F1 := F
  have D1 := D
  have R1 := R
  have zB := heap_lt B.out
  have zD := heap_lt D.out
  have zR := heap_lt R.out
  have zQW := Q.out.size
  replace Q := hide (Below.refl wt.heap.size wt)
  have T := heap_below (World.alloc_heap_new wt (.cells ([.int .i64 0]).toArray 3)) ((Below.refl _ _).alloc (Nat.le_refl _) (.cells ([.int .i64 0]).toArray 3))
  have L := World.alloc_heap_new (wt.alloc (.cells ([.int .i64 0]).toArray 3)) (.cells ([.int .i64 0]).toArray 3)
  simp only [World.size_alloc] at L
  have zBt : w.heap.size < wt.heap.size := heap_lt B.out
  have zFt : w.heap.size + 1 < wt.heap.size := heap_lt F.out
  have zDt : w.heap.size + 2 < wt.heap.size := heap_lt D.out
  have zRt : w.heap.size + 3 < wt.heap.size := heap_lt R.out
  have zQt : wt.heap.size ≤ wt.heap.size := Q.out.size
  obtain ⟨w3', hw3'⟩ : ∃ wx, wx = (wt.alloc (.cells ([.int .i64 0]).toArray 3)).alloc (.cells ([.int .i64 0]).toArray 3) := ⟨_, rfl⟩
  have q2' := hide (show Below wt.heap.size wt w3' by rw [hw3']; exact ((Below.refl _ _).alloc (Nat.le_refl _) _).alloc (by simp <;> omega) _)
  rw [← hw3'] at T L
  replace T := hide T
  replace L := hide L
  replace B := hide (heap_below B.out q2'.out)
  replace F := hide (heap_below F.out q2'.out)
  replace D := hide (heap_below D.out q2'.out)
  replace R := hide (heap_below R.out q2'.out)
  replace Q := hide (below_next Q.out Q.out.size q2'.out)
  clear q2'
  rw [show (wt.alloc (.cells #[.int .i64 0] 3)).alloc (.cells #[.int .i64 0] 3) = w3' from hw3'.symm]
  clear hw3'
  have zl := heap_lt L.out
  have C1 := hide (each_full x l PA OA A pc oc c (w.heap.size + 1) w.heap.size (w.heap.size + 1 + 1) (wt.heap.size + 1) wt.heap.size wt w3' F B D L T HT Q (by omega) HL.out)
  obtain ⟨b0, b1⟩ := two_cellsT (a := .slice PA 1 pc) (b := .slice OA 1 oc) B.out
  go_wp2_with fail
  (with_reducible refine C1.out.mono ?_)
  rintro e7 w7 ⟨P1, pc1, rfl, B7, L7, T7, OP, Q7⟩
  replace R := hide (heap_below R1.out Q7.out)
  clear C1 b0 b1 B F D L T B1 F1 D1 R1 Q
  have B := B7
  have L := L7
  have T := T7
  have Q := Q7
  clear B7 L7 T7 Q7
  have zw : wt.heap.size ≤ w7.heap.size := Nat.le_trans (by omega) Q.out.size
  obtain ⟨N, hN⟩ : ∃ N, N = w3'.heap.size := ⟨_, rfl⟩
  rw [← hN] at OP zl
  replace Q := hide (show Below w.heap.size w w7 from below_next QW.out zQW Q.out)
  clear QW
  obtain ⟨b0, b1⟩ := two_cellsT (a := .slice PA 1 pc) (b := .slice OA 1 oc) B.out
  have hfz : w7.frozen? ⟨w.heap.size, 0, none⟩ = false := by have := B.out; simp [World.frozen?, this]
  go_upto_region 5 with fail
  clear b0 b1 hfz
  obtain ⟨w4', ew4'⟩ : ∃ wq, wq = w7.setCell ⟨w.heap.size, 0, none⟩ (.slice P1 1 pc1) := ⟨_, rfl⟩
  rw [← ew4']
  replace R := hide (show w4'.heap[w.heap.size + 1 + 1 + 1]? = some (.cells ([.slice none 0 0, .slice none 0 0]).toArray 31 (0, 0)) by rw [ew4']; exact other_heap (by omega) ([.slice P1 1 pc1]) 0 _ R.out)
  replace L := hide (show w4'.heap[wt.heap.size + 1]? = some (.cells ([.int .i64 1]).toArray 3 (0, 0)) by rw [ew4']; exact other_heap (by omega) ([.slice P1 1 pc1]) 0 _ L.out)
  replace T := hide (show w4'.heap[wt.heap.size]? = some (.cells ([.int .i64 0]).toArray 3 (0, 0)) by rw [ew4']; exact other_heap (by omega) ([.slice P1 1 pc1]) 0 _ T.out)
  replace OP := hide (show Own w4' N 27 6 P1 pc1 [ptc (pt1 A l.length c)] by rw [ew4']; exact own_setCells (by omega) ([.slice P1 1 pc1]) 0 _ OP.out)
  replace Q := hide (show Below w.heap.size w w4' by rw [ew4']; exact Q.out.trans (below_setCells ([.slice P1 1 pc1]) 0 _ (by omega)))
  replace B := hide (show w4'.heap[w.heap.size]? = some (.cells (rtL P1 pc1 OA oc).toArray 31 (0, 0)) by rw [ew4']; exact set_heap ([.slice P1 1 pc1]) (rtL PA pc OA oc) 0 _ B.out)
  clear ew4'
  refine wp_region_L [0, 1, 2] [(0, fun W => W.heap[w.heap.size]? = some (.cells (rtL P1 pc1 OA oc).toArray 31 (0, 0))), (1, fun W => W.heap[wt.heap.size]? = some (.cells ([.int .i64 0]).toArray 3 (0, 0))), (2, fun W => W.heap[wt.heap.size + 1]? = some (.cells ([.int .i64 1]).toArray 3 (0, 0)))] (by kernel_rfl) ?_
  replace B := hide (show w4'.drew.heap[w.heap.size]? = some (.cells (rtL P1 pc1 OA oc).toArray 31 (0, 0)) from B.out)
  replace R := hide (show w4'.drew.heap[w.heap.size + 1 + 1 + 1]? = some (.cells ([.slice none 0 0, .slice none 0 0]).toArray 31 (0, 0)) from R.out)
  replace L := hide (show w4'.drew.heap[wt.heap.size + 1]? = some (.cells ([.int .i64 1]).toArray 3 (0, 0)) from L.out)
  replace T := hide (show w4'.drew.heap[wt.heap.size]? = some (.cells ([.int .i64 0]).toArray 3 (0, 0)) from T.out)
  replace OP := hide (show Own (w4'.drew) N 27 6 P1 pc1 [ptc (pt1 A l.length c)] from (OP.out.grown ((Below.refl w4'.heap.size w4').drew)))
  replace Q := hide (show Below w.heap.size w w4'.drew from Q.out.drew)
  generalize w4'.drew = w5' at *
  refine wpAnyL_load (i := 0) (v := .agg (rtL P1 pc1 OA oc).toArray) rfl rfl (by kernel_rfl) (by kernel_rfl) (by kernel_rfl) (by kernel_rfl) (by kernel_rfl) (fun _ _ _ h => h) rfl (fun W h => exec_heap W w.heap.size 31 (rtL P1 pc1 OA oc) _ h Tryz.underlying31 rfl (by kernel_rfl) _ _ (.tmp 3) (by rfl) (by rfl)) (B.out) ?_
  go_simp
  refine wpAnyL_load (i := 1) (v := .int .i64 0) rfl rfl (by kernel_rfl) (by kernel_rfl) (by kernel_rfl) (by kernel_rfl) (by kernel_rfl) (fun _ _ _ h => h) rfl (fun W h => by (have hc0 : W.cell? ⟨wt.heap.size, 0, none⟩ = some (.int .i64 0) := by simp [World.cell?, h]); clear h; go_simp) (T.out) ?_
  go_simp
  refine wpAnyL_load (i := 2) (v := .int .i64 1) rfl rfl (by kernel_rfl) (by kernel_rfl) (by kernel_rfl) (by kernel_rfl) (by kernel_rfl) (fun _ _ _ h => h) rfl (fun W h => by (have hc0 : W.cell? ⟨wt.heap.size + 1, 0, none⟩ = some (.int .i64 1) := by simp [World.cell?, h]); clear h; go_simp) (L.out) ?_
  go_simp
  refine wpAnyL_one (i := 3) (by kernel_rfl) ?_
  refine wpOp_do rfl rfl ?_
  have Tw6' := hide (show World.there _ (w.heap.size + 1 + 1 + 1) 0 2 from there_heap (cs := [.slice none 0 0, .slice none 0 0]) R.out)
  refine wp_store_as 31 (.tmp 6) (.tmp 26) rfl (w.heap.size + 1 + 1 + 1) 0 (rtL P1 pc1 OA oc) (by rfl) (by rfl) (by exact Tw6'.out) (by kernel_rfl) (by simp [Value.oneCell', rtL]) ?_
  intro w6' ew6'
  replace B := hide (show w6'.heap[w.heap.size]? = some (.cells (rtL P1 pc1 OA oc).toArray 31 (0, 0)) by rw [ew6']; exact other_heap (by omega) _ _ _ B.out)
  replace L := hide (show w6'.heap[wt.heap.size + 1]? = some (.cells ([.int .i64 1]).toArray 3 (0, 0)) by rw [ew6']; exact other_heap (by omega) _ _ _ L.out)
  replace T := hide (show w6'.heap[wt.heap.size]? = some (.cells ([.int .i64 0]).toArray 3 (0, 0)) by rw [ew6']; exact other_heap (by omega) _ _ _ T.out)
  replace OP := hide (show Own w6' N 27 6 P1 pc1 [ptc (pt1 A l.length c)] by rw [ew6']; exact own_setCells (by omega) _ _ _ OP.out)
  replace Q := hide (show Below w.heap.size w w6' by rw [ew6']; exact Q.out.trans (below_setCells _ _ _ (by have := Q.out.size; omega)))
  replace R := hide (show w6'.heap[w.heap.size + 1 + 1 + 1]? = some (.cells (rtL P1 pc1 OA oc).toArray 31 (0, 0)) by rw [ew6']; exact whole_heap (rtL P1 pc1 OA oc) (xs := [.slice none 0 0, .slice none 0 0]) R.out rfl)
  clear ew6' Tw6'
  refine ⟨keepsL_mk (by kernel_rfl) (.past (by kernel_rfl) (.cons (by exact T.out) (.cons (by exact L.out) .nil))), ?_⟩
  go_simp
  refine wpAnyL_one (i := 4) (by kernel_rfl) ?_
  refine wpOp_do rfl rfl ?_
  go_simp
  refine ⟨keepsL_mk (by kernel_rfl) (.past (by kernel_rfl) (.past (by kernel_rfl) (.cons (by exact L.out) .nil))), ?_⟩
  go_simp
  refine wpAnyL_one (i := 5) (by kernel_rfl) ?_
  refine wpOp_do rfl rfl ?_
  go_simp
  refine ⟨keepsL_all (by kernel_rfl) (by kernel_rfl), ?_⟩
  go_simp
  refine wpAnyL_one (i := 6) (by kernel_rfl) ?_
  refine wpOp_do rfl rfl ?_
  go_simp
  refine ⟨keepsL_all (by kernel_rfl) (by kernel_rfl), ?_⟩
  go_simp
  refine wpAnyL_done (by kernel_rfl) ?_ _
  go_wp2_with fail
  refine bodyPost_ret (results_cell_tmp3T (by rfl) _ w6' (w.heap.size + 1 + 1 + 1) 31 (rtL P1 pc1 OA oc).toArray (0, 0) _ (.int .i64 0) (.int .i64 1) (.int .i64 0) (by rfl) (by rfl) (by rfl) (by rfl) R.out Tryz.underlying31 (by rfl) (by kernel_rfl)) rfl ⟨P1, pc1, rfl, ⟨own_ptR OP.out, Rd.next HR.out.O Q.out Q.out.size, Rd.next HR.out.I Q.out Q.out.size, HR.out.n, HR.out.cap, HR.out.s⟩, fun g9 off e => by have := own_blk OP.out g9 off e; omega, Q.out⟩
end Go.Proofs.YthkilodnghiocaaGreatDoor
