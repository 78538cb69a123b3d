/- The walk of bus.New; slices.Clone of controllers. -/
import Derived.Test.YtkfedgjepiljiaaGreatDoorBuV
import Derived.Test.YtkfedgjepiljiaaGreatDoorMgCsR
import Derived.Lib.SliceRun
namespace Go.Proofs.YtkfedgjepiljiaaGreatDoor
open Go.ChangeShapes Go.WideShapes Go.ChangeAt Go.RowKit
open FP (Fr)

theorem two_boxM {W : World} {B : Nat} {a b : Value} {t : TypeId} (h : W.heap[B]? = some (.cells #[a, b] t (0, 0))) : W.cell? ⟨B, 0, none⟩ = some a ∧ W.cell? ⟨B, 1, none⟩ = some b ∧ W.frozen? ⟨B, 0, none⟩ = false ∧ W.frozen? ⟨B, 1, none⟩ = false := by
  refine ⟨by simp [World.cell?, h], by simp [World.cell?, h], by simp [World.frozen?, h], by simp [World.frozen?, h]⟩
theorem rep_rows (k : Nat) : clRows (List.replicate (k + 1) zCl) = clRows (List.replicate k zCl) ++ [zCl.cs] := by
  unfold clRows
  rw [List.replicate_succ', List.map_append]
  rfl

set_option maxRecDepth 100000 in
set_option maxHeartbeats 16000000 in
theorem busNew_ok (n : Nat) (h1 : 1 ≤ n) (h4 : n ≤ 4) (w : World) :
    Calls Tryz.prog 34 #[.int .i64 n] w fun e w' => ∃ A c, e = .returned (.tuple #[.agg (busL A n c 0).toArray, .int .i64 0]) ∧ ClR w' w'.heap.size A (List.replicate n zCl) ∧ Fresh w.heap.size A ∧ Below w.heap.size w w' := by
  have step : ∀ (W : World) (o : Obj), Below W.heap.size W (W.alloc o) := fun W o => (Below.refl _ _).alloc (Nat.le_refl _) _
  have R := hide (heap_below (World.alloc_heap_new w (.cells (busL none 0 0 0).toArray 24)) (step _ (.cells (busL none 0 0 0).toArray 24)))
  have B := hide (World.alloc_heap_new (w.alloc (.cells (busL none 0 0 0).toArray 24)) (.cells (busL none 0 0 0).toArray 24))
  have Q := hide (((step w (.cells (busL none 0 0 0).toArray 24)).alloc (by simp) (.cells (busL none 0 0 0).toArray 24)))
  simp only [World.size_alloc] at B
  have n1 : ¬ (n : Int) < 1 := by omega
  have n4 : ¬ (4 : Int) < (n : Int) := by omega
  clear step
  go_enter Tryz.func34, Tryz.ntmps34
  go_wp2_with fail
  go_loopw [13] (fun vi W => ∃ (k : Nat) (A : Option Addr) (c : Nat), k ≤ n ∧ vi = .int .i64 k ∧ Hid (Own W (w.heap.size + 2) 33 23 A c (clRows (List.replicate k zCl))) ∧ Hid (W.heap[w.heap.size]? = some (.cells (busL none 0 0 0).toArray 24 (0, 0))) ∧ Hid (W.heap[w.heap.size + 1]? = some (.cells (busL A k c 0).toArray 24 (0, 0))) ∧ Hid (Below w.heap.size w W)) (fun vi _ => n - (intOf vi).toNat)
  case atStart => exact ⟨0, none, 0, Nat.zero_le _, rfl, hide Own.nil, R, B, Q⟩
  case round =>
    clear B R Q
    obtain ⟨k, A, c, hk, rfl, O, R, B, Q⟩ := hrel
    by_cases hlt : k < n
    · have hki : (k : Int) < (n : Int) := by omega
      have NW := hide (fun W => ctlNew_any W)
      have HL := hide (show (clRows (List.replicate k zCl)).length = k by rw [clRows_len, List.length_replicate])
      have HT := hide (rep_rows k)
      generalize clRows (List.replicate k zCl) = r7 at *
      go_upto_region 6 with fail
      refine wp_region_L [0, 1] [(1, fun W => W.heap[w.heap.size + 1]? = some (.cells (busL A k c 0).toArray 24 (0, 0)))] (by kernel_rfl) ?_
      replace O := hide (show Own wr.drew (w.heap.size + 2) 33 23 A c r7 from O.out)
      replace R := hide (show wr.drew.heap[w.heap.size]? = some (.cells (busL none 0 0 0).toArray 24 (0, 0)) from R.out)
      replace B := hide (show wr.drew.heap[w.heap.size + 1]? = some (.cells (busL A k c 0).toArray 24 (0, 0)) from B.out)
      replace Q := hide (show Below w.heap.size w wr.drew from Q.out.drew)
      generalize wr.drew = wd at *
      refine wpAnyL_pure (i := 0) (v := .pointer (some ⟨w.heap.size + 1, 0, none⟩)) rfl rfl (by kernel_rfl) (by kernel_rfl) (by kernel_rfl) (by kernel_rfl) (by kernel_rfl) (fun _ _ _ h => h) rfl (fun W => by go_simp) ?_
      go_simp
      refine wpAnyL_load (i := 1) (v := .slice A k c) rfl rfl (by kernel_rfl) (by kernel_rfl) (by kernel_rfl) (by kernel_rfl) (by kernel_rfl) (fun _ _ _ h => h) rfl (fun W h => by have h0 : W.cell? ⟨w.heap.size + 1, 0, none⟩ = some (.slice A k c) := (by simp [World.cell?, h, busL]); clear h; go_simp) (B.out) ?_
      go_simp
      refine wpAnyL_one (i := 2) (by kernel_rfl) ?_
      refine wpOp_do rfl rfl ?_
      go_simp
      (with_reducible refine (NW.out wd).mono ?_)
      rintro e2 w2 ⟨rfl, q⟩
      replace R := hide (heap_below R.out q)
      replace B := hide (heap_below B.out q)
      replace O := hide (O.out.grown q)
      replace Q := hide (below_next Q.out Q.out.size q)
      clear q NW
      go_simp
      refine ⟨keepsL_mk (by kernel_rfl) (.cons (by exact B.out) .nil), ?_⟩
      go_simp
      refine wpAnyL_one (i := 3) (by kernel_rfl) ?_
      refine wpOp_do rfl rfl ?_
      go_simp
      have q : Below w2.heap.size w2 (w2.alloc (.cells zCl.cs.toArray 33)) := (Below.refl _ _).alloc (Nat.le_refl _) _
      have N2 := hide (World.alloc_heap_new w2 (.cells zCl.cs.toArray 33))
      replace R := hide (heap_below R.out q)
      replace B := hide (heap_below B.out q)
      replace O := hide (O.out.grown q)
      replace Q := hide (below_next Q.out Q.out.size q)
      clear q
      rw [splat_any _ _ (by rfl)]
      refine ⟨keepsL_mk (by kernel_rfl) (.cons (by exact B.out) .nil), ?_⟩
      change wpAnyL _ _ _ _ _ _ _ _ _ (w2.alloc (.cells zCl.cs.toArray 33))
      generalize w2.alloc (.cells zCl.cs.toArray 33) = w3 at *
      generalize w2.heap.size = x2 at *
      go_simp
      refine wpAnyL_one (i := 4) (by kernel_rfl) ?_
      refine wpOp_do rfl rfl ?_
      have zr : w.heap.size + 1 < w3.heap.size := heap_lt B.out
      refine wp_append_rows _ _ _ 22 rfl slCl (w.heap.size + 2) _ _ _ r7 (by rfl) O.out _ 1 1 [zCl.cs] (by rfl) (rd_row (cs := zCl.cs) N2.out) (by simp [Cl.cs]) (by simp [Cl.cs, Value.oneCell']) (by rw [HL.out]; simp; omega) (by rw [HL.out]; unfold maxLen; simp; omega) (by omega) (by exact HL.out.symm) rfl ?_
      intro A' c' w4 oN gN
      replace R := hide (heap_grownB R.out gN (own_not O.out (by omega)))
      replace B := hide (heap_grownB B.out gN (own_not O.out (by omega)))
      replace Q := hide (below_append Q.out gN O.out (by omega) (by omega))
      replace O := hide oN
      clear oN gN N2 zr
      refine ⟨keepsL_all (by kernel_rfl) (by kernel_rfl), ?_⟩
      go_simp
      refine wpAnyL_one (i := 5) (by kernel_rfl) ?_
      refine wpOp_do rfl rfl ?_
      go_simp
      refine ⟨keepsL_all (by kernel_rfl) (by kernel_rfl), ?_⟩
      go_simp
      obtain ⟨y0, y1, y2, y3⟩ := two_boxM (show w4.heap[w.heap.size + 1]? = some (.cells #[.slice A k c, .int .i64 0] 24 (0, 0)) from B.out)
      refine wpAnyL_one (i := 6) (by kernel_rfl) ?_
      refine wpOp_do rfl rfl ?_
      go_simp
      clear y0 y1 y2 y3
      refine ⟨keepsL_all (by kernel_rfl) (by kernel_rfl), ?_⟩
      obtain ⟨w5, e5⟩ : ∃ w5, w5 = w4.setCell ⟨w.heap.size + 1, 0, none⟩ (.slice A' (k + 1) c') := ⟨_, rfl⟩
      rw [← e5]
      replace e5 : Hid (w5 = w4.setCells (w.heap.size + 1) 0 [.slice A' (k + 1) c']) := e5
      replace R := hide (show w5.heap[w.heap.size]? = some (.cells (busL none 0 0 0).toArray 24 (0, 0)) by rw [e5.out]; exact other_heap (by omega) _ _ _ R.out)
      replace O := hide (show Own w5 (w.heap.size + 2) 33 23 A' c' (r7 ++ [zCl.cs]) by rw [e5.out]; exact own_setCells (by omega) _ _ _ O.out)
      replace B := hide (show w5.heap[w.heap.size + 1]? = some (.cells (busL A' (k + 1) c' 0).toArray 24 (0, 0)) by rw [e5.out]; exact heap_setCell_same w4 (w.heap.size + 1) 0 _ _ _ B.out)
      replace Q := hide (show Below w.heap.size w w5 by rw [e5.out]; exact Q.out.trans (below_setCells _ _ _ (by omega)))
      clear e5
      go_simp
      refine wpAnyL_done (by kernel_rfl) ?_ _
      rw [← HT.out] at O
      go_wp2_with fail
      go_roundw
      case rel => exact ⟨k + 1, A', c', by omega, by go_num, O, R, B, Q⟩
      case measure => simp [intOf]; omega
    · obtain rfl : k = n := by omega
      have TR := hide (show wr.there w.heap.size 0 2 from there_heap (cs := busL none 0 0 0) R.out)
      have FO := hide ((fresh_own O.out).mono (show w.heap.size ≤ w.heap.size + 2 by omega))
      have RO := hide (O.out.rd (cl_rows _))
      have HB := hide (show ∀ g off, A = some ⟨g, off, none⟩ → g ≠ w.heap.size from fun g off h => by have := own_blk O.out g off h; omega)
      clear O
      go_wp2_with (first | (refine wpList_load_row rfl 24 (.tmp 4) (by rfl) (w.heap.size + 1) (by rfl) 24 (busL A k c 0).toArray (0, 0) _ (by exact B.out) Tryz.underlying24 (by rfl) (by kernel_rfl) ?_) | (refine wpList_store_hid (by rfl) 24 (.tmp 2) (.tmp 22) (by rfl) w.heap.size 0 (busL A k c 0) (by rfl) (by rfl) (by exact TR.out) (by kernel_rfl) (by simp [Value.oneCell', busL]) ?_))
      intro w6 e6
      have R6 := hide (show w6.heap[w.heap.size]? = some (.cells (busL A k c 0).toArray 24 (0, 0)) by rw [e6.out]; exact whole_heap (busL A k c 0) (xs := busL none 0 0 0) R.out rfl)
      have Q6 := hide (show Below w.heap.size w w6 by rw [e6.out]; exact Q.out.trans (below_setCells _ _ _ (Nat.le_refl _)))
      have O6 := hide (show ClR w6 w6.heap.size A (List.replicate k zCl) by rw [e6.out]; exact rd_setCells HB.out _ _ _ RO.out)
      clear e6 TR R B Q RO HB
      go_wp2_with fail
      refine bodyPost_ret (results_cell_tmp (by rfl) _ w6 w.heap.size 24 (busL A k c 0).toArray (0, 0) _ (.int .i64 0) (by rfl) (by rfl) R6.out Tryz.underlying24 (by rfl) (by kernel_rfl)) rfl ⟨A, c, rfl, O6.out, FO.out, Q6.out⟩

set_option maxRecDepth 100000 in
set_option maxHeartbeats 4000000 in
theorem cloneC_any (l : List Cl) (A : Option Addr) (c : Nat) (w : World) (hr : ClR w w.heap.size A l) (h1 : 1 ≤ l.length) (hl : l.length ≤ 1000000) :
    Calls Tryz.prog 17 #[.slice A l.length c] w fun e w' => (∃ g c', e = .returned (.slice (some ⟨g, 0, none⟩) l.length c') ∧ Own w' w.heap.size 33 23 (some ⟨g, 0, none⟩) c' (clRows l)) ∧ Below w.heap.size w w' := by
  have hnil := fun (w : World) a n c n' c' => Lib.run_eql_slice_nil (P := Tryz.prog) w 22 33 a n c n' c' Tryz.underlying22
  obtain ⟨g, off, rfl, _⟩ := hr (by rw [List.length_map]; omega)
  have q5 : Below w.heap.size w (w.alloc (.cells #[] 33)) := (Below.refl _ _).alloc (Nat.le_refl _) _
  have O5 := hide (Own.lit w w.heap.size 33 23 [] (Nat.le_refl _) (by simp) (by simp))
  have RD5 := hide (show Rd _ _ _ 23 (clRows l) from Rd.more (Rd.below hr q5) q5.size)
  have E1 := hide (show (([] : List (List Value)).length + (clRows l).length) * 176 ≤ 140737488355328 by rw [clRows_len]; simp; omega)
  have E2 := hide (show ([] : List (List Value)).length + (clRows l).length ≤ maxLen by rw [clRows_len]; simp [maxLen]; omega)
  have E3 := hide (show l.length = (clRows l).length by rw [clRows_len])
  have E4 := hide (show w.heap.size ≤ (w.alloc (.cells #[] 33)).heap.size by simp)
  have H1 := hide h1
  clear hr hl h1
  go_enter Tryz.func17, Tryz.ntmps17
  go_wp2_with (at_builtin; refine wpList_append_rows _ rfl _ _ 22 rfl slCl w.heap.size _ _ _ [] (by rfl) (by exact O5.out) _ _ _ (clRows l) (by rfl) (by exact RD5.out) (by exact cl_rows l) (by exact cl_ones l) (by exact E1.out) (by exact E2.out) (by exact E4.out) (by rfl) (by exact E3.out) ?_)
  intro A6 c6 w6 o6 g6
  have hb6 := hide (q5.trans (below_own g6 O5.out E4.out))
  have o6' : Own w6 w.heap.size 33 23 A6 c6 (clRows l) := o6
  obtain ⟨g2, rfl, _⟩ := Own.ofLen o6' (by rw [clRows_len]; exact H1.out)
  have O6 := hide o6'
  clear o6 o6' g6 q5 O5 RD5 E1 E2 E4 hnil
  go_wp2_with fail
  refine bodyPost_ret (v := .slice (some ⟨g2, 0, none⟩) l.length c6) (by simp [results, Tryz.results17, go_sem]) rfl ⟨⟨g2, c6, rfl, O6.out⟩, hb6.out⟩
end Go.Proofs.YtkfedgjepiljiaaGreatDoor
