/- The walk of bus.New; slices.Clone of controllers. -/
import Derived.Test.YthkilodnghiocaaGreatDoorBuV
import Derived.Test.YthkilodnghiocaaGreatDoorMgCsL
import Derived.Lib.SliceRun
namespace Go.Proofs.YthkilodnghiocaaGreatDoor
open Go.ChangeShapes Go.WideShapes Go.ChangeAt Go.RowKit
open FP (Fr)

theorem two_boxM {W : World} {B : Nat} {a b : Value} {t : TypeId} (h : W.heap[B]? = some (.cells #[a, b] t (0, 0))) : W.cell? ⟨B, 0, none⟩ = some a ∧ W.cell? ⟨B, 1, none⟩ = some b ∧ W.frozen? ⟨B, 0, none⟩ = false ∧ W.frozen? ⟨B, 1, none⟩ = false := by
  refine ⟨by simp [World.cell?, h], by simp [World.cell?, h], by simp [World.frozen?, h], by simp [World.frozen?, h]⟩
theorem rep_rows (k : Nat) : clRows (List.replicate (k + 1) zCl) = clRows (List.replicate k zCl) ++ [zCl.cs] := by
  unfold clRows
  rw [List.replicate_succ', List.map_append]
  rfl

set_option maxRecDepth 100000 in
set_option maxHeartbeats 16000000 in
theorem busNew_ok (n : Nat) (h1 : 1 ≤ n) (h4 : n ≤ 4) (w : World) :
    Calls Tryz.prog 14 #[.int .i64 n] w fun e w' => ∃ A c, e = .returned (.tuple #[.agg (busL A n c 0).toArray, .int .i64 0]) ∧ ClR w' w'.heap.size A (List.replicate n zCl) ∧ Fresh w.heap.size A ∧ Below w.heap.size w w' := by
  have step : ∀ (W : World) (o : Obj), Below W.heap.size W (W.alloc o) := fun W o => (Below.refl _ _).alloc (Nat.le_refl _) _
  have R := hide (heap_below (World.alloc_heap_new w (.cells (busL none 0 0 0).toArray 37)) (step _ (.cells (busL none 0 0 0).toArray 37)))
  have B := hide (World.alloc_heap_new (w.alloc (.cells (busL none 0 0 0).toArray 37)) (.cells (busL none 0 0 0).toArray 37))
  have Q := hide (((step w (.cells (busL none 0 0 0).toArray 37)).alloc (by simp) (.cells (busL none 0 0 0).toArray 37)))
  simp only [World.size_alloc] at B
  have n1 : ¬ (n : Int) < 1 := by omega
  have n4 : ¬ (4 : Int) < (n : Int) := by omega
  clear step
  go_enter Tryz.func14, Tryz.ntmps14
  go_wp2_with fail
  go_loopw [13] (fun vi W => ∃ (k : Nat) (A : Option Addr) (c : Nat), k ≤ n ∧ vi = .int .i64 k ∧ Hid (Own W (w.heap.size + 2) 73 23 A c (clRows (List.replicate k zCl))) ∧ Hid (W.heap[w.heap.size]? = some (.cells (busL none 0 0 0).toArray 37 (0, 0))) ∧ Hid (W.heap[w.heap.size + 1]? = some (.cells (busL A k c 0).toArray 37 (0, 0))) ∧ Hid (Below w.heap.size w W)) (fun vi _ => n - (intOf vi).toNat)
  case atStart => exact ⟨0, none, 0, Nat.zero_le _, rfl, hide Own.nil, R, B, Q⟩
  case round =>
    clear B R Q
    obtain ⟨k, A, c, hk, rfl, O, R, B, Q⟩ := hrel
    by_cases hlt : k < n
    · have hki : (k : Int) < (n : Int) := by omega
      have NW := hide (fun W => ctlNew_any W)
      have HL := hide (show (clRows (List.replicate k zCl)).length = k by rw [clRows_len, List.length_replicate])
      have HT := hide (rep_rows k)
      generalize clRows (List.replicate k zCl) = r7 at *
      go_upto_region 6 with fail
      refine wp_region_L [0, 1] [(1, fun W => W.heap[w.heap.size + 1]? = some (.cells (busL A k c 0).toArray 37 (0, 0)))] (by kernel_rfl) ?_
      replace O := hide (show Own wr.drew (w.heap.size + 2) 73 23 A c r7 from O.out)
      replace R := hide (show wr.drew.heap[w.heap.size]? = some (.cells (busL none 0 0 0).toArray 37 (0, 0)) from R.out)
      replace B := hide (show wr.drew.heap[w.heap.size + 1]? = some (.cells (busL A k c 0).toArray 37 (0, 0)) from B.out)
      replace Q := hide (show Below w.heap.size w wr.drew from Q.out.drew)
      generalize wr.drew = wd at *
      refine wpAnyL_pure (i := 0) (v := .pointer (some ⟨w.heap.size + 1, 0, none⟩)) rfl rfl (by kernel_rfl) (by kernel_rfl) (by kernel_rfl) (by kernel_rfl) (by kernel_rfl) (fun _ _ _ h => h) rfl (fun W => by go_simp) ?_
      go_simp
      refine wpAnyL_load (i := 1) (v := .slice A k c) rfl rfl (by kernel_rfl) (by kernel_rfl) (by kernel_rfl) (by kernel_rfl) (by kernel_rfl) (fun _ _ _ h => h) rfl (fun W h => by have h0 : W.cell? ⟨w.heap.size + 1, 0, none⟩ = some (.slice A k c) := (by simp [World.cell?, h, busL]); clear h; go_simp) (B.out) ?_
      go_simp
      refine wpAnyL_one (i := 2) (by kernel_rfl) ?_
      refine wpOp_do rfl rfl ?_
      go_simp
      (with_reducible refine (NW.out wd).mono ?_)
      rintro e2 w2 ⟨rfl, q⟩
      replace R := hide (heap_below R.out q)
      replace B := hide (heap_below B.out q)
      replace O := hide (O.out.grown q)
      replace Q := hide (below_next Q.out Q.out.size q)
      clear q NW
      go_simp
      refine ⟨keepsL_mk (by kernel_rfl) (.cons (by exact B.out) .nil), ?_⟩
      go_simp
      refine wpAnyL_one (i := 3) (by kernel_rfl) ?_
      refine wpOp_do rfl rfl ?_
      go_simp
      have q : Below w2.heap.size w2 (w2.alloc (.cells zCl.cs.toArray 73)) := (Below.refl _ _).alloc (Nat.le_refl _) _
      have N2 := hide (World.alloc_heap_new w2 (.cells zCl.cs.toArray 73))
      replace R := hide (heap_below R.out q)
      replace B := hide (heap_below B.out q)
      replace O := hide (O.out.grown q)
      replace Q := hide (below_next Q.out Q.out.size q)
      clear q
      rw [splat_any _ _ (by rfl)]
      refine ⟨keepsL_mk (by kernel_rfl) (.cons (by exact B.out) .nil), ?_⟩
      change wpAnyL _ _ _ _ _ _ _ _ _ (w2.alloc (.cells zCl.cs.toArray 73))
      generalize w2.alloc (.cells zCl.cs.toArray 73) = w3 at *
      generalize w2.heap.size = x2 at *
      go_simp
      refine wpAnyL_one (i := 4) (by kernel_rfl) ?_
      refine wpOp_do rfl rfl ?_
      have zr : w.heap.size + 1 < w3.heap.size := heap_lt B.out
      refine wp_append_rows _ _ _ 35 rfl slCl (w.heap.size + 2) _ _ _ r7 (by rfl) O.out _ 1 1 [zCl.cs] (by rfl) (rd_row (cs := zCl.cs) N2.out) (by simp [Cl.cs]) (by simp [Cl.cs, Value.oneCell']) (by rw [HL.out]; simp; omega) (by rw [HL.out]; unfold maxLen; simp; omega) (by omega) (by exact HL.out.symm) rfl ?_
      intro A' c' w4 oN gN
      replace R := hide (heap_grownB R.out gN (own_not O.out (by omega)))
      replace B := hide (heap_grownB B.out gN (own_not O.out (by omega)))
      replace Q := hide (below_append Q.out gN O.out (by omega) (by omega))
      replace O := hide oN
      clear oN gN N2 zr
      refine ⟨keepsL_all (by kernel_rfl) (by kernel_rfl), ?_⟩
      go_simp
      refine wpAnyL_one (i := 5) (by kernel_rfl) ?_
      refine wpOp_do rfl rfl ?_
      go_simp
      refine ⟨keepsL_all (by kernel_rfl) (by kernel_rfl), ?_⟩
      go_simp
      obtain ⟨y0, y1, y2, y3⟩ := two_boxM (show w4.heap[w.heap.size + 1]? = some (.cells #[.slice A k c, .int .i64 0] 37 (0, 0)) from B.out)
      refine wpAnyL_one (i := 6) (by kernel_rfl) ?_
      refine wpOp_do rfl rfl ?_
      go_simp
      clear y0 y1 y2 y3
      refine ⟨keepsL_all (by kernel_rfl) (by kernel_rfl), ?_⟩
      obtain ⟨w5, e5⟩ : ∃ w5, w5 = w4.setCell ⟨w.heap.size + 1, 0, none⟩ (.slice A' (k + 1) c') := ⟨_, rfl⟩
      rw [← e5]
      replace e5 : Hid (w5 = w4.setCells (w.heap.size + 1) 0 [.slice A' (k + 1) c']) := e5
      replace R := hide (show w5.heap[w.heap.size]? = some (.cells (busL none 0 0 0).toArray 37 (0, 0)) by rw [e5.out]; exact other_heap (by omega) _ _ _ R.out)
      replace O := hide (show Own w5 (w.heap.size + 2) 73 23 A' c' (r7 ++ [zCl.cs]) by rw [e5.out]; exact own_setCells (by omega) _ _ _ O.out)
      replace B := hide (show w5.heap[w.heap.size + 1]? = some (.cells (busL A' (k + 1) c' 0).toArray 37 (0, 0)) by rw [e5.out]; exact heap_setCell_same w4 (w.heap.size + 1) 0 _ _ _ B.out)
      replace Q := hide (show Below w.heap.size w w5 by rw [e5.out]; exact Q.out.trans (below_setCells _ _ _ (by omega)))
      clear e5
      go_simp
      refine wpAnyL_done (by kernel_rfl) ?_ _
      rw [← HT.out] at O
      go_wp2_with fail
      go_roundw
      case rel => exact ⟨k + 1, A', c', by omega, by go_num, O, R, B, Q⟩
      case measure => simp [intOf]; omega
    · obtain rfl : k = n := by omega
      have TR := hide (show wr.there w.heap.size 0 2 from there_heap (cs := busL none 0 0 0) R.out)
      have FO := hide ((fresh_own O.out).mono (show w.heap.size ≤ w.heap.size + 2 by omega))
      have RO := hide (O.out.rd (cl_rows _))
      have HB := hide (show ∀ g off, A = some ⟨g, off, none⟩ → g ≠ w.heap.size from fun g off h => by have := own_blk O.out g off h; omega)
      clear O
      go_wp2_with (first | (refine wpList_load_row rfl 37 (.tmp 4) (by rfl) (w.heap.size + 1) (by rfl) 37 (busL A k c 0).toArray (0, 0) _ (by exact B.out) Tryz.underlying37 (by rfl) (by kernel_rfl) ?_) | (refine wpList_store_hid (by rfl) 37 (.tmp 2) (.tmp 22) (by rfl) w.heap.size 0 (busL A k c 0) (by rfl) (by rfl) (by exact TR.out) (by kernel_rfl) (by simp [Value.oneCell', busL]) ?_))
      intro w6 e6
      have R6 := hide (show w6.heap[w.heap.size]? = some (.cells (busL A k c 0).toArray 37 (0, 0)) by rw [e6.out]; exact whole_heap (busL A k c 0) (xs := busL none 0 0 0) R.out rfl)
      have Q6 := hide (show Below w.heap.size w w6 by rw [e6.out]; exact Q.out.trans (below_setCells _ _ _ (Nat.le_refl _)))
      have O6 := hide (show ClR w6 w6.heap.size A (List.replicate k zCl) by rw [e6.out]; exact rd_setCells HB.out _ _ _ RO.out)
      clear e6 TR R B Q RO HB
      go_wp2_with fail
      refine bodyPost_ret (results_cell_tmp (by rfl) _ w6 w.heap.size 37 (busL A k c 0).toArray (0, 0) _ (.int .i64 0) (by rfl) (by rfl) R6.out Tryz.underlying37 (by rfl) (by kernel_rfl)) rfl ⟨A, c, rfl, O6.out, FO.out, Q6.out⟩

set_option maxRecDepth 100000 in
set_option maxHeartbeats 4000000 in
theorem cloneC_any (l : List Cl) (A : Option Addr) (c : Nat) (w : World) (hr : ClR w w.heap.size A l) (h1 : 1 ≤ l.length) (hl : l.length ≤ 1000000) :
    Calls Tryz.prog 21 #[.slice A l.length c] w fun e w' => (∃ g c', e = .returned (.slice (some ⟨g, 0, none⟩) l.length c') ∧ Own w' w.heap.size 73 23 (some ⟨g, 0, none⟩) c' (clRows l)) ∧ Below w.heap.size w w' := by
  have hnil := fun (w : World) a n c n' c' => Lib.run_eql_slice_nil (P := Tryz.prog) w 35 73 a n c n' c' Tryz.underlying35
  obtain ⟨g, off, rfl, _⟩ := hr (by rw [List.length_map]; omega)
  have q5 : Below w.heap.size w (w.alloc (.cells #[] 73)) := (Below.refl _ _).alloc (Nat.le_refl _) _
  have O5 := hide (Own.lit w w.heap.size 73 23 [] (Nat.le_refl _) (by simp) (by simp))
  have RD5 := hide (show Rd _ _ _ 23 (clRows l) from Rd.more (Rd.below hr q5) q5.size)
  have E1 := hide (show (([] : List (List Value)).length + (clRows l).length) * 176 ≤ 140737488355328 by rw [clRows_len]; simp; omega)
  have E2 := hide (show ([] : List (List Value)).length + (clRows l).length ≤ maxLen by rw [clRows_len]; simp [maxLen]; omega)
  have E3 := hide (show l.length = (clRows l).length by rw [clRows_len])
  have E4 := hide (show w.heap.size ≤ (w.alloc (.cells #[] 73)).heap.size by simp)
  have H1 := hide h1
  clear hr hl h1
  go_enter Tryz.func21, Tryz.ntmps21
  go_wp2_with (at_builtin; refine wpList_append_rows _ rfl _ _ 35 rfl slCl w.heap.size _ _ _ [] (by rfl) (by exact O5.out) _ _ _ (clRows l) (by rfl) (by exact RD5.out) (by exact cl_rows l) (by exact cl_ones l) (by exact E1.out) (by exact E2.out) (by exact E4.out) (by rfl) (by exact E3.out) ?_)
  intro A6 c6 w6 o6 g6
  have hb6 := hide (q5.trans (below_own g6 O5.out E4.out))
  have o6' : Own w6 w.heap.size 73 23 A6 c6 (clRows l) := o6
  obtain ⟨g2, rfl, _⟩ := Own.ofLen o6' (by rw [clRows_len]; exact H1.out)
  have O6 := hide o6'
  clear o6 o6' g6 q5 O5 RD5 E1 E2 E4 hnil
  go_wp2_with fail
  refine bodyPost_ret (v := .slice (some ⟨g2, 0, none⟩) l.length c6) (by simp [results, Tryz.results21, go_sem]) rfl ⟨⟨g2, c6, rfl, O6.out⟩, hb6.out⟩
end Go.Proofs.YthkilodnghiocaaGreatDoor

/- The walk of bus.Submit. -/
namespace Go.Proofs.YthkilodnghiocaaGreatDoor
open Go.ChangeShapes Go.WideShapes Go.ChangeAt Go.RowKit
open FP (Fr)

/-- The bus with one controller another. -/
def subL (l : List Cl) (k : Nat) (f : Fr) : List Cl := l.set k ((l.getD k zCl).subC f)
theorem subL_rows (l : List Cl) (k : Nat) (f : Fr) : clRows (subL l k f) = (clRows l).set k ((l.getD k zCl).subC f).cs := by
  unfold subL clRows
  rw [List.map_set]

/-- What Submit answers. -/
def SubV (N : Nat) (l : List Cl) (k : Nat) (f : Fr) (now : Int) (e : Ending) (w' : World) : Prop :=
  ((l.getD k zCl).subE f = 0 ∧ ∃ A c, e = .returned (.tuple #[.agg (busL A l.length c now).toArray, .int .i64 0]) ∧ ClR w' w'.heap.size A (subL l k f) ∧ Fresh N A) ∨
  ((l.getD k zCl).subE f ≠ 0 ∧ e = .returned (.tuple #[.agg (busL none 0 0 0).toArray, .int .i64 ((l.getD k zCl).subE f)]))

set_option maxRecDepth 100000 in
set_option maxHeartbeats 32000000 in
theorem busSubmit_in (l : List Cl) (A : Option Addr) (c : Nat) (now : Int) (k : Nat) (f : Fr) (w : World) (hr : ClR w w.heap.size A l) (hk : k < l.length) (h4 : l.length ≤ 4) (hn0 : 0 ≤ now) (hn1 : now ≤ 1099511627776) (hok : AllOk l) (hid : f.id < 4294967296) :
    Calls Tryz.prog 7 #[.agg (busL A l.length c now).toArray, .int .i64 k, .agg (frc f).toArray] w fun e w' => SubV w.heap.size l k f now e w' ∧ Below w.heap.size w w' := by
  obtain ⟨w0, hw0⟩ : ∃ w0, w0 = ((w.alloc (.cells (busL A l.length c now).toArray 37)).alloc (.cells (frc f).toArray 45)).alloc (.cells (busL none 0 0 0).toArray 37) := ⟨_, rfl⟩
  have step : ∀ (W : World) (o : Obj), Below W.heap.size W (W.alloc o) := fun W o => (Below.refl _ _).alloc (Nat.le_refl _) _
  have B := hide (heap_below (heap_below (World.alloc_heap_new w (.cells (busL A l.length c now).toArray 37)) (step _ (.cells (frc f).toArray 45))) (step _ (.cells (busL none 0 0 0).toArray 37)))
  have G := hide (heap_below (World.alloc_heap_new (w.alloc (.cells (busL A l.length c now).toArray 37)) (.cells (frc f).toArray 45)) (step _ (.cells (busL none 0 0 0).toArray 37)))
  have R := hide (World.alloc_heap_new ((w.alloc (.cells (busL A l.length c now).toArray 37)).alloc (.cells (frc f).toArray 45)) (.cells (busL none 0 0 0).toArray 37))
  have Q : Hid (Below w.heap.size w w0) := by rw [hw0]; exact hide (((step _ _).alloc (by simp) _).alloc (by simp; omega) _)
  rw [← hw0] at B G R
  simp only [World.size_alloc] at G R
  have RT := hide (busRight_ok l A c now w0 (hr.next Q.out Q.out.size) (by omega) h4 hn0 hn1 hok)
  obtain ⟨g, off, rfl, hg, hra⟩ := hr.at_ hk
  have hd : l.getD k zCl = l[k] := by rw [List.getD_eq_getElem?_getD, List.getElem?_eq_getElem hk]; rfl
  have PA := hide (fun (W : World) (q : Below w.heap.size w W) => show W.rangeAt g (off + k * 23) (l.getD k zCl).cs from fun j v hj => cellBelow q hg (hra j v (by rw [← hd]; exact hj)))
  have SU := hide (fun W => ctlSubmit_ok (l.getD k zCl) f W (by rw [hd]; exact hok _ (List.getElem_mem hk)) hid)
  have CL := hide (fun (W : World) (q : Below w.heap.size w W) => cloneC_any l (some ⟨g, off, none⟩) c W (hr.next q q.size) (by omega) (by omega))
  have HS := hide (show ∀ (w' : World) (e : Ending) (z : Cl) (E : Int), z = (l.getD k zCl).subC f → E = (l.getD k zCl).subE f → ((E = 0 ∧ ∃ A c, e = .returned (.tuple #[.agg (busL A l.length c now).toArray, .int .i64 0]) ∧ Rd w' w'.heap.size A 23 ((clRows l).set k z.cs) ∧ Fresh w.heap.size A) ∨ (E ≠ 0 ∧ e = .returned (.tuple #[.agg (busL none 0 0 0).toArray, .int .i64 E]))) → SubV w.heap.size l k f now e w' from fun w' e z E hz hE h => by
    subst hz hE
    rcases h with ⟨h1, A, c, h2, h3, h4⟩ | ⟨h1, h2⟩
    · refine .inl ⟨h1, A, c, h2, ?_, h4⟩
      rw [← subL_rows] at h3
      exact h3
    · exact .inr ⟨h1, h2⟩)
  generalize SubV w.heap.size l k f now = V at *
  obtain ⟨z, hz⟩ : ∃ z, z = (l.getD k zCl).subC f := ⟨_, rfl⟩
  obtain ⟨E, hE⟩ : ∃ E, E = (l.getD k zCl).subE f := ⟨_, rfl⟩
  rw [← hz, ← hE] at SU
  replace HS := hide (fun w' e => HS.out w' e z E hz hE)
  clear hz hE hd hra
  generalize l.getD k zCl = d at *
  have hk0 : ¬ (k : Int) < 0 := by omega
  have hkl : ¬ (l.length : Int) ≤ (k : Int) := by omega
  have hkl2 : (k : Int) < (l.length : Int) := by omega
  have HK := hide hk
  obtain ⟨b0, b1⟩ := bus_cells B.out
  clear hr hok step hid
  go_enter Tryz.func7, Tryz.ntmps7
  go_upto_region 1 with fail
  change Code.wp _ _ _ _ (((w.alloc (.cells (busL (some ⟨g, off, none⟩) l.length c now).toArray 37)).alloc (.cells (frc f).toArray 45)).alloc (.cells (busL none 0 0 0).toArray 37))
  rw [← hw0]
  clear hw0
  clear b0 b1
  go_wp2_with (refine wpList_load_row rfl 37 (.tmp 3) (by rfl) w.heap.size (by rfl) 37 (busL (some ⟨g, off, none⟩) l.length c now).toArray (0, 0) _ (by exact B.out) Tryz.underlying37 (by rfl) (by kernel_rfl) ?_)
  (with_reducible refine (RT.out).mono ?_)
  rintro e1 w1 ⟨rfl, q⟩
  replace B := hide (heap_below B.out q)
  replace G := hide (heap_below G.out q)
  replace R := hide (heap_below R.out q)
  replace Q := hide (below_next Q.out Q.out.size q)
  clear q RT
  obtain ⟨b0, b1⟩ := bus_cells B.out
  go_upto_region 3 with fail
  clear b0 b1
  go_cut [8, 9] (fun v8 v9 W => ∃ x, v8 = .pointer (some ⟨x, 0, none⟩) ∧ v9 = .int .i64 E ∧ Hid (W.heap[x]? = some (.cells z.cs.toArray 73 (0, 0))) ∧ Hid (W.heap[w.heap.size]? = some (.cells (busL (some ⟨g, off, none⟩) l.length c now).toArray 37 (0, 0))) ∧ Hid (W.heap[w.heap.size + 2]? = some (.cells (busL none 0 0 0).toArray 37 (0, 0))) ∧ Hid (Below w.heap.size w W) ∧ w.heap.size + 2 < x)
  case first =>
    refine wp_region_L [0, 1, 2, 3, 4, 5, 7, 8, 9] [(1, fun W => W.heap[w.heap.size]? = some (.cells (busL (some ⟨g, off, none⟩) l.length c now).toArray 37 (0, 0))), (4, fun W => W.rangeAt g (off + k * 23) d.cs), (5, fun W => W.heap[w.heap.size + 1]? = some (.cells (frc f).toArray 45 (0, 0)))] (by kernel_rfl) ?_
    replace B := hide (show w1.drew.heap[w.heap.size]? = some (.cells (busL (some ⟨g, off, none⟩) l.length c now).toArray 37 (0, 0)) from B.out)
    replace G := hide (show w1.drew.heap[w.heap.size + 1]? = some (.cells (frc f).toArray 45 (0, 0)) from G.out)
    replace R := hide (show w1.drew.heap[w.heap.size + 2]? = some (.cells (busL none 0 0 0).toArray 37 (0, 0)) from R.out)
    replace Q := hide (show Below w.heap.size w w1.drew from Q.out.drew)
    generalize w1.drew = wd at *
    refine wpAnyL_pure (i := 0) (v := .pointer (some ⟨w.heap.size, 0, none⟩)) rfl rfl (by kernel_rfl) (by kernel_rfl) (by kernel_rfl) (by kernel_rfl) (by kernel_rfl) (fun _ _ _ h => h) rfl (fun W => by go_simp) ?_
    go_simp
    refine wpAnyL_load (i := 1) (v := .slice (some ⟨g, off, none⟩) l.length c) rfl rfl (by kernel_rfl) (by kernel_rfl) (by kernel_rfl) (by kernel_rfl) (by kernel_rfl) (fun _ _ _ h => h) rfl (fun W h => by have h0 : W.cell? ⟨w.heap.size, 0, none⟩ = some (.slice (some ⟨g, off, none⟩) l.length c) := (by simp [World.cell?, h, busL]); clear h; go_simp) (B.out) ?_
    go_simp
    refine wpAnyL_pure (i := 2) (v := .int .i64 k) rfl rfl (by kernel_rfl) (by kernel_rfl) (by kernel_rfl) (by kernel_rfl) (by kernel_rfl) (fun _ _ _ h => h) rfl (fun W => by go_simp) ?_
    go_simp
    refine wpAnyL_pure (i := 3) (v := .pointer (some ⟨g, off + k * 23, none⟩)) rfl rfl (by kernel_rfl) (by kernel_rfl) (by kernel_rfl) (by kernel_rfl) (by kernel_rfl) (fun _ _ _ h => h) rfl (fun W => by go_simp) ?_
    go_simp
    refine wpAnyL_load (i := 4) (v := .agg d.cs.toArray) rfl rfl (by kernel_rfl) (by kernel_rfl) (by kernel_rfl) (by kernel_rfl) (by kernel_rfl) (fun _ _ _ h => h) rfl (fun W h => exec_load W g (off + k * 23) 73 d.cs _ h Tryz.underlying73 rfl (by kernel_rfl) _ _ (.tmp 29) (by rfl) (by rfl)) (PA.out _ Q.out) ?_
    go_simp
    refine wpAnyL_load (i := 5) (v := .agg (frc f).toArray) rfl rfl (by kernel_rfl) (by kernel_rfl) (by kernel_rfl) (by kernel_rfl) (by kernel_rfl) (fun _ _ _ h => h) rfl (fun W h => exec_heap W (w.heap.size + 1) 45 (frc f) _ h Tryz.underlying45 rfl (by kernel_rfl) _ _ (.tmp 5) (by rfl) (by rfl)) (G.out) ?_
    go_simp
    have zR : w.heap.size + 2 < wd.heap.size := heap_lt R.out
    refine wpAnyL_two (i := 6) (k := 10) (by kernel_rfl) ?_ ?_
    · refine wpOp_do rfl rfl ?_
      go_simp
      (with_reducible refine (SU.out wd).mono ?_)
      rintro ew2 w2 ⟨rfl, q⟩
      replace B := hide (heap_below B.out q)
      replace G := hide (heap_below G.out q)
      replace R := hide (heap_below R.out q)
      replace Q := hide (below_next Q.out Q.out.size q)
      clear q SU
      go_simp
      refine ⟨keepsL_all (by kernel_rfl) (by kernel_rfl), ?_⟩
      go_simp
      refine wpAnyL_pure (i := 7) (v := .tuple #[.agg z.cs.toArray, .int .i64 E]) rfl rfl (by kernel_rfl) (by kernel_rfl) (by kernel_rfl) (by kernel_rfl) (by kernel_rfl) (fun _ _ _ h => h) rfl (fun W => by go_simp) ?_
      go_simp
      refine wpAnyL_pure (i := 8) (v := .agg z.cs.toArray) rfl rfl (by kernel_rfl) (by kernel_rfl) (by kernel_rfl) (by kernel_rfl) (by kernel_rfl) (fun _ _ _ h => h) rfl (fun W => by go_simp) ?_
      go_simp
      refine wpAnyL_pure (i := 9) (v := .int .i64 E) rfl rfl (by kernel_rfl) (by kernel_rfl) (by kernel_rfl) (by kernel_rfl) (by kernel_rfl) (fun _ _ _ h => h) rfl (fun W => by go_simp) ?_
      go_simp
      refine wpAnyL_one (i := 10) (by kernel_rfl) ?_
      refine wpOp_do rfl rfl ?_
      go_simp
      have q : Below w2.heap.size w2 (w2.alloc (.cells zCl.cs.toArray 73)) := (Below.refl _ _).alloc (Nat.le_refl _) _
      have X := hide (World.alloc_heap_new w2 (.cells zCl.cs.toArray 73))
      have zX : w.heap.size + 2 < w2.heap.size := heap_lt R.out
      replace B := hide (heap_below B.out q)
      replace G := hide (heap_below G.out q)
      replace R := hide (heap_below R.out q)
      replace Q := hide (below_next Q.out Q.out.size q)
      clear q
      refine ⟨keepsL_mk (by kernel_rfl) (.cons B.out (.cons (PA.out _ Q.out) (.cons G.out .nil))), ?_⟩
      change wpAnyL _ _ _ _ _ _ _ _ _ (w2.alloc (.cells zCl.cs.toArray 73))
      generalize w2.alloc (.cells zCl.cs.toArray 73) = w3 at *
      generalize w2.heap.size = x at *
      go_simp
      have TX := hide (show w3.there x 0 23 from there_heap (cs := zCl.cs) X.out)
      refine wpAnyL_one (i := 11) (by kernel_rfl) ?_
      refine wpOp_do rfl rfl ?_
      refine wp_store_as 73 (.tmp 8) (.tmp 33) rfl x 0 z.cs (by rfl) (by rfl) (by exact TX.out) (by kernel_rfl) (by simp [Value.oneCell', Cl.cs]) ?_
      intro wa ea
      replace X := hide (show wa.heap[x]? = some (.cells z.cs.toArray 73 (0, 0)) by rw [ea]; exact whole_heap z.cs (xs := zCl.cs) X.out rfl)
      replace B := hide (show wa.heap[w.heap.size]? = some (.cells (busL (some ⟨g, off, none⟩) l.length c now).toArray 37 (0, 0)) by rw [ea]; exact other_heap (by omega) _ _ _ B.out)
      replace R := hide (show wa.heap[w.heap.size + 2]? = some (.cells (busL none 0 0 0).toArray 37 (0, 0)) by rw [ea]; exact other_heap (by omega) _ _ _ R.out)
      replace Q := hide (show Below w.heap.size w wa by rw [ea]; exact Q.out.trans (below_setCells _ _ _ (by omega)))
      clear ea TX
      refine ⟨keepsL_all (by kernel_rfl) (by kernel_rfl), ?_⟩
      go_simp
      refine wpAnyL_one (i := 12) (by kernel_rfl) ?_
      refine wpOp_do rfl rfl ?_
      go_simp
      refine ⟨keepsL_all (by kernel_rfl) (by kernel_rfl), ?_⟩
      go_simp
      refine wpAnyL_done (by kernel_rfl) ?_ _
      go_wp2_with fail
      go_meet
      exact ⟨x, rfl, rfl, X, B, R, Q, zX⟩
    · refine wpOp_do rfl rfl ?_
      go_simp
      have q : Below wd.heap.size wd (wd.alloc (.cells zCl.cs.toArray 73)) := (Below.refl _ _).alloc (Nat.le_refl _) _
      have X := hide (World.alloc_heap_new wd (.cells zCl.cs.toArray 73))
      have zX : w.heap.size + 2 < wd.heap.size := heap_lt R.out
      replace B := hide (heap_below B.out q)
      replace G := hide (heap_below G.out q)
      replace R := hide (heap_below R.out q)
      replace Q := hide (below_next Q.out Q.out.size q)
      clear q
      refine ⟨keepsL_mk (by kernel_rfl) (.cons B.out (.cons (PA.out _ Q.out) (.cons G.out .nil))), ?_⟩
      change wpAnyL _ _ _ _ _ _ _ _ _ (wd.alloc (.cells zCl.cs.toArray 73))
      generalize wd.alloc (.cells zCl.cs.toArray 73) = w2 at *
      generalize wd.heap.size = x at *
      go_simp
      refine wpAnyL_one (i := 6) (by kernel_rfl) ?_
      refine wpOp_do rfl rfl ?_
      go_simp
      (with_reducible refine (SU.out w2).mono ?_)
      rintro ew3 w3 ⟨rfl, q⟩
      replace B := hide (heap_below B.out q)
      replace R := hide (heap_below R.out q)
      replace X := hide (heap_below X.out q)
      replace Q := hide (below_next Q.out Q.out.size q)
      clear q SU
      go_simp
      refine ⟨keepsL_all (by kernel_rfl) (by kernel_rfl), ?_⟩
      go_simp
      refine wpAnyL_pure (i := 7) (v := .tuple #[.agg z.cs.toArray, .int .i64 E]) rfl rfl (by kernel_rfl) (by kernel_rfl) (by kernel_rfl) (by kernel_rfl) (by kernel_rfl) (fun _ _ _ h => h) rfl (fun W => by go_simp) ?_
      go_simp
      refine wpAnyL_pure (i := 8) (v := .agg z.cs.toArray) rfl rfl (by kernel_rfl) (by kernel_rfl) (by kernel_rfl) (by kernel_rfl) (by kernel_rfl) (fun _ _ _ h => h) rfl (fun W => by go_simp) ?_
      go_simp
      refine wpAnyL_pure (i := 9) (v := .int .i64 E) rfl rfl (by kernel_rfl) (by kernel_rfl) (by kernel_rfl) (by kernel_rfl) (by kernel_rfl) (fun _ _ _ h => h) rfl (fun W => by go_simp) ?_
      go_simp
      have TX := hide (show w3.there x 0 23 from there_heap (cs := zCl.cs) X.out)
      refine wpAnyL_one (i := 11) (by kernel_rfl) ?_
      refine wpOp_do rfl rfl ?_
      refine wp_store_as 73 (.tmp 8) (.tmp 33) rfl x 0 z.cs (by rfl) (by rfl) (by exact TX.out) (by kernel_rfl) (by simp [Value.oneCell', Cl.cs]) ?_
      intro wa ea
      replace X := hide (show wa.heap[x]? = some (.cells z.cs.toArray 73 (0, 0)) by rw [ea]; exact whole_heap z.cs (xs := zCl.cs) X.out rfl)
      replace B := hide (show wa.heap[w.heap.size]? = some (.cells (busL (some ⟨g, off, none⟩) l.length c now).toArray 37 (0, 0)) by rw [ea]; exact other_heap (by omega) _ _ _ B.out)
      replace R := hide (show wa.heap[w.heap.size + 2]? = some (.cells (busL none 0 0 0).toArray 37 (0, 0)) by rw [ea]; exact other_heap (by omega) _ _ _ R.out)
      replace Q := hide (show Below w.heap.size w wa by rw [ea]; exact Q.out.trans (below_setCells _ _ _ (by omega)))
      clear ea TX
      refine ⟨keepsL_all (by kernel_rfl) (by kernel_rfl), ?_⟩
      go_simp
      refine wpAnyL_one (i := 12) (by kernel_rfl) ?_
      refine wpOp_do rfl rfl ?_
      go_simp
      refine ⟨keepsL_all (by kernel_rfl) (by kernel_rfl), ?_⟩
      go_simp
      refine wpAnyL_done (by kernel_rfl) ?_ _
      go_wp2_with fail
      go_meet
      exact ⟨x, rfl, rfl, X, B, R, Q, zX⟩
  case rest =>
    clear B G R Q PA SU
    obtain ⟨x, rfl, rfl, X, B, R, Q, zx⟩ := hcut
    have hw3 : w.heap.size + 2 < wc.heap.size := heap_lt R.out
    have hwx : x < wc.heap.size := heap_lt X.out
    by_cases hE : E = 0
    · subst hE
      have C1 := hide (CL.out wc Q.out)
      obtain ⟨y0, y1, y2, y3⟩ := two_boxM (show wc.heap[w.heap.size]? = some (.cells #[.slice (some ⟨g, off, none⟩) l.length c, .int .i64 now] 37 (0, 0)) from B.out)
      go_wp2_with fail
      (with_reducible refine (C1.out).mono ?_)
      rintro e3 w3 ⟨⟨g2, c2, rfl, O⟩, q⟩
      replace B := hide (heap_below B.out q)
      replace R := hide (heap_below R.out q)
      replace X := hide (heap_below X.out q)
      replace Q := hide (below_next Q.out Q.out.size q)
      replace O := hide O
      clear q C1 y0 y1 y2 y3 CL
      obtain ⟨y0, y1, y2, y3⟩ := two_boxM (show w3.heap[w.heap.size]? = some (.cells #[.slice (some ⟨g, off, none⟩) l.length c, .int .i64 now] 37 (0, 0)) from B.out)
      go_upto_region 7 with fail
      clear y0 y1 y2 y3
      obtain ⟨w4, e4⟩ : ∃ w4, w4 = w3.setCell ⟨w.heap.size, 0, none⟩ (.slice (some ⟨g2, 0, none⟩) l.length c2) := ⟨_, rfl⟩
      rw [← e4]
      replace e4 : Hid (w4 = w3.setCells w.heap.size 0 [.slice (some ⟨g2, 0, none⟩) l.length c2]) := e4
      replace R := hide (show w4.heap[w.heap.size + 2]? = some (.cells (busL none 0 0 0).toArray 37 (0, 0)) by rw [e4.out]; exact other_heap (by omega) _ _ _ R.out)
      replace X := hide (show w4.heap[x]? = some (.cells z.cs.toArray 73 (0, 0)) by rw [e4.out]; exact other_heap (by omega) _ _ _ X.out)
      replace O := hide (show Own w4 wc.heap.size 73 23 (some ⟨g2, 0, none⟩) c2 (clRows l) by rw [e4.out]; exact own_setCells (by omega) _ _ _ O.out)
      replace B := hide (show w4.heap[w.heap.size]? = some (.cells (busL (some ⟨g2, 0, none⟩) l.length c2 now).toArray 37 (0, 0)) by rw [e4.out]; exact heap_setCell_same w3 w.heap.size 0 _ _ _ B.out)
      replace Q := hide (show Below w.heap.size w w4 by rw [e4.out]; exact Q.out.trans (below_setCells _ _ _ (by omega)))
      clear e4
      have hkr : k < (clRows l).length := by rw [clRows_len]; exact HK.out
      have TO := hide (O.out.there (cl_rows _) hkr)
      have hg2 := own_blk O.out g2 0 rfl
      obtain ⟨b0, b1⟩ := bus_cells B.out
      go_wp2_with (first | (refine wpList_load_row rfl 73 (.tmp 8) (by rfl) x (by rfl) 73 z.cs.toArray (0, 0) _ (by exact X.out) Tryz.underlying73 (by rfl) (by kernel_rfl) ?_) | (refine wpList_store_hid (by rfl) 73 (.tmp 47) (.tmp 46) (by rfl) g2 (k * 23) z.cs (by rfl) (by rfl) (by exact TO.out) (by kernel_rfl) (by simp [Value.oneCell', Cl.cs]) ?_))
      intro w5 e5
      replace R := hide (show w5.heap[w.heap.size + 2]? = some (.cells (busL none 0 0 0).toArray 37 (0, 0)) by rw [e5.out]; exact other_heap (by omega) _ _ _ R.out)
      replace B := hide (show w5.heap[w.heap.size]? = some (.cells (busL (some ⟨g2, 0, none⟩) l.length c2 now).toArray 37 (0, 0)) by rw [e5.out]; exact other_heap (by omega) _ _ _ B.out)
      replace O := hide (show Own w5 wc.heap.size 73 23 (some ⟨g2, 0, none⟩) c2 ((clRows l).set k z.cs) by rw [e5.out]; exact (O.out.setRow (cl_rows _) hkr rfl).1)
      replace Q := hide (show Below w.heap.size w w5 by rw [e5.out]; exact Q.out.trans (below_setCells _ _ _ (by omega)))
      clear e5 TO b0 b1 X
      have TR := hide (show w5.there (w.heap.size + 2) 0 2 from there_heap (cs := busL none 0 0 0) R.out)
      go_wp2_with (first | (refine wpList_load_row rfl 37 (.tmp 3) (by rfl) w.heap.size (by rfl) 37 (busL (some ⟨g2, 0, none⟩) l.length c2 now).toArray (0, 0) _ (by exact B.out) Tryz.underlying37 (by rfl) (by kernel_rfl) ?_) | (refine wpList_store_hid (by rfl) 37 (.tmp 6) (.tmp 48) (by rfl) (w.heap.size + 2) 0 (busL (some ⟨g2, 0, none⟩) l.length c2 now) (by rfl) (by rfl) (by exact TR.out) (by kernel_rfl) (by simp [Value.oneCell', busL]) ?_))
      intro w6 e6
      have R6 := hide (show w6.heap[w.heap.size + 2]? = some (.cells (busL (some ⟨g2, 0, none⟩) l.length c2 now).toArray 37 (0, 0)) by rw [e6.out]; exact whole_heap (busL (some ⟨g2, 0, none⟩) l.length c2 now) (xs := busL none 0 0 0) R.out rfl)
      have Q6 := hide (show Below w.heap.size w w6 by rw [e6.out]; exact Q.out.trans (below_setCells _ _ _ (by omega)))
      have O6 := hide (show Own w6 wc.heap.size 73 23 (some ⟨g2, 0, none⟩) c2 ((clRows l).set k z.cs) by rw [e6.out]; exact own_setCells (by omega) _ _ _ O.out)
      clear e6 TR R B Q O
      go_wp2_with fail
      have RD := O6.out.rd (fun r hr => by
        rcases List.mem_or_eq_of_mem_set hr with hr | rfl
        · exact cl_rows _ r hr
        · rfl)
      refine bodyPost_ret (results_cell_tmp (by rfl) _ w6 (w.heap.size + 2) 37 (busL (some ⟨g2, 0, none⟩) l.length c2 now).toArray (0, 0) _ (.int .i64 0) (by rfl) (by rfl) R6.out Tryz.underlying37 (by rfl) (by kernel_rfl)) rfl ⟨HS.out _ _ (.inl ⟨by first | rfl | trivial, _, _, rfl, RD, (fresh_own O6.out).mono (by omega)⟩), Q6.out⟩
    · have hE2 : (E != 0) = true := by simpa using hE
      have hE3 : (E == 0) = false := by simpa using hE
      have TR := hide (show wc.there (w.heap.size + 2) 0 2 from there_heap (cs := busL none 0 0 0) R.out)
      have HE := hide hE
      clear hE CL X B
      go_wp2_with (refine wpList_store_hid (by rfl) 37 (.tmp 6) (.tmp 37) (by rfl) (w.heap.size + 2) 0 (busL none 0 0 0) (by rfl) (by rfl) (by exact TR.out) (by kernel_rfl) (by simp [Value.oneCell', busL]) ?_)
      intro w6 e6
      have R6 := hide (show w6.heap[w.heap.size + 2]? = some (.cells (busL none 0 0 0).toArray 37 (0, 0)) by rw [e6.out]; exact whole_heap (busL none 0 0 0) (xs := busL none 0 0 0) R.out rfl)
      have Q6 := hide (show Below w.heap.size w w6 by rw [e6.out]; exact Q.out.trans (below_setCells _ _ _ (by omega)))
      clear e6 TR R Q
      go_wp2_with fail
      refine bodyPost_ret (results_cell_tmp (by rfl) _ w6 (w.heap.size + 2) 37 (busL none 0 0 0).toArray (0, 0) _ (.int .i64 E) (by rfl) (by rfl) R6.out Tryz.underlying37 (by rfl) (by kernel_rfl)) rfl ⟨HS.out _ _ (.inr ⟨HE.out, rfl⟩), Q6.out⟩
end Go.Proofs.YthkilodnghiocaaGreatDoor
