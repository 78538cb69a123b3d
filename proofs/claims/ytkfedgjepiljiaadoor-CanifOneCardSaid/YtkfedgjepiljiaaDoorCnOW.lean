/- The walk of campanilelaw23.CanifOne. -/
import Derived.Test.YtkfedgjepiljiaaDoorCnX
import Derived.Test.YtkfedgjepiljiaaDoorMgFrR
import Derived.Test.YtkfedgjepiljiaaDoorMgBxL
namespace Go.Proofs.YtkfedgjepiljiaaDoor
open Go.ChangeShapes Go.WideShapes Go.ChangeAt Go.RowKit
open FP (Fr)
open HP (kB at' Hp)

theorem fr_dat {W : World} {B : Nat} {f : Fr} {t : TypeId} (h : W.heap[B]? = some (.cells (frc f).toArray t (0, 0))) : W.cell? ⟨B, 4, none⟩ = some (.string f.data) ∧ W.frozen? ⟨B, 4, none⟩ = false := by
  refine ⟨by simp [World.cell?, h, frc], by simp [World.frozen?, h]⟩
theorem give_ok {f : Fr} (hf : FP.rightB f = true) : (zCl.give f).Ok := zCl_ok.give rfl hf

set_option maxRecDepth 100000 in
set_option maxHeartbeats 64000000 in
theorem canifOne_walk (f0 g0 : Fr) (w : World) (hf : f0.id < 4294967296) (hg : g0.id < 4294967296) (sf : f0.data.size ≤ maxLen) (sg : g0.data.size ≤ maxLen) : Calls Tryd.prog 3 #[.agg (frc f0).toArray, .agg (frc g0).toArray] w fun e w' => e = .returned (.bool true) ∧ Below w.heap.size w w' := by
  obtain ⟨w0, hw0⟩ : ∃ w0, w0 = (w.alloc (.cells (frc f0).toArray 24)).alloc (.cells (frc g0).toArray 24) := ⟨_, rfl⟩
  have F := hide (heap_below (World.alloc_heap_new w (.cells (frc f0).toArray 24)) ((Below.refl _ (w.alloc (.cells (frc f0).toArray 24))).alloc (Nat.le_refl _) (.cells (frc g0).toArray 24)))
  have G := hide (World.alloc_heap_new (w.alloc (.cells (frc f0).toArray 24)) (.cells (frc g0).toArray 24))
  have Q : Hid (Below w.heap.size w w0) := by rw [hw0]; exact hide (((Below.refl w.heap.size w).alloc (Nat.le_refl _) (.cells (frc f0).toArray 24)).alloc (by simp; try omega) (.cells (frc g0).toArray 24))
  rw [← hw0] at F G
  simp only [World.size_alloc] at G
  have AL := hide (fun W => alive23_any W)
  have hf2 : (cutF f0).id < 4294967296 := hf
  have hg2 : (cutF g0).id < 4294967296 := hg
  unfold maxLen at sf sg
  obtain ⟨m1, em1, hm1⟩ := run_min (P := Tryd.prog) (f0.data.size : Int) 12
  obtain ⟨k1, hk1⟩ : ∃ k1 : Nat, k1 = min f0.data.size 12 := ⟨_, rfl⟩
  have hmk1 : m1 = k1 := by omega
  subst hmk1
  have hkl1 : k1 ≤ f0.data.size := by omega
  obtain ⟨m2, em2, hm2⟩ := run_min (P := Tryd.prog) (g0.data.size : Int) 12
  obtain ⟨k2, hk2⟩ : ∃ k2 : Nat, k2 = min g0.data.size 12 := ⟨_, rfl⟩
  have hmk2 : m2 = k2 := by omega
  subst hmk2
  have hkl2 : k2 ≤ g0.data.size := by omega
  have HF := hide (show ({ f0 with data := f0.data.extract 0 k1 } : Fr) = cutF f0 by rw [hk1]; rfl)
  have HG := hide (show ({ g0 with data := g0.data.extract 0 k2 } : Fr) = cutF g0 by rw [hk2]; rfl)
  clear em1 em2 hk1 hk2 hf hg
  go_enter Tryd.func3, Tryd.ntmps3
  go_upto_region 1 with fail
  change Code.wp _ _ _ _ ((w.alloc (.cells (frc f0).toArray 24)).alloc (.cells (frc g0).toArray 24))
  rw [← hw0]
  clear hw0
  refine wp_region_L [0, 1, 2, 3, 4, 5, 6, 7, 8, 9, 10, 11, 12, 13, 14, 16] [(1, fun W => W.heap[w.heap.size]? = some (.cells (frc f0).toArray 24 (0, 0))), (3, fun W => W.heap[w.heap.size]? = some (.cells (frc f0).toArray 24 (0, 0))), (8, fun W => W.heap[w.heap.size + 1]? = some (.cells (frc g0).toArray 24 (0, 0))), (10, fun W => W.heap[w.heap.size + 1]? = some (.cells (frc g0).toArray 24 (0, 0)))] (by kernel_rfl) ?_
  replace F := hide (show w0.drew.heap[w.heap.size]? = some (.cells (frc f0).toArray 24 (0, 0)) from F.out)
  replace G := hide (show w0.drew.heap[w.heap.size + 1]? = some (.cells (frc g0).toArray 24 (0, 0)) from G.out)
  replace Q := hide (show Below w.heap.size w w0.drew from Q.out.drew)
  generalize w0.drew = w1' at *
  refine wpAnyL_pure (i := 0) (v := .pointer (some ⟨w.heap.size, 4, none⟩)) rfl rfl (by kernel_rfl) (by kernel_rfl) (by kernel_rfl) (by kernel_rfl) (by kernel_rfl) (fun _ _ _ h => h) rfl (fun W => by go_simp) ?_
  go_simp
  refine wpAnyL_load (i := 1) (v := .string f0.data) rfl rfl (by kernel_rfl) (by kernel_rfl) (by kernel_rfl) (by kernel_rfl) (by kernel_rfl) (fun _ _ _ h => h) rfl (fun W h => by have h0 : W.cell? ⟨w.heap.size, 4, none⟩ = some (.string f0.data) := (fr_dat h).1; clear h; go_simp) (F.out) ?_
  go_simp
  refine wpAnyL_pure (i := 2) (v := .pointer (some ⟨w.heap.size, 4, none⟩)) rfl rfl (by kernel_rfl) (by kernel_rfl) (by kernel_rfl) (by kernel_rfl) (by kernel_rfl) (fun _ _ _ h => h) rfl (fun W => by go_simp) ?_
  go_simp
  refine wpAnyL_load (i := 3) (v := .string f0.data) rfl rfl (by kernel_rfl) (by kernel_rfl) (by kernel_rfl) (by kernel_rfl) (by kernel_rfl) (fun _ _ _ h => h) rfl (fun W h => by have h0 : W.cell? ⟨w.heap.size, 4, none⟩ = some (.string f0.data) := (fr_dat h).1; clear h; go_simp) (F.out) ?_
  go_simp
  refine wpAnyL_pure (i := 4) (v := .int .i64 f0.data.size) rfl rfl (by kernel_rfl) (by kernel_rfl) (by kernel_rfl) (by kernel_rfl) (by kernel_rfl) (fun _ _ _ h => h) rfl (fun W => by go_simp) ?_
  go_simp
  refine wpAnyL_pure (i := 5) (v := .int .i64 k1) rfl rfl (by kernel_rfl) (by kernel_rfl) (by kernel_rfl) (by kernel_rfl) (by kernel_rfl) (fun _ _ _ h => h) rfl (fun W => by go_simp) ?_
  go_simp
  refine wpAnyL_pure (i := 6) (v := .string (f0.data.extract 0 k1)) rfl rfl (by kernel_rfl) (by kernel_rfl) (by kernel_rfl) (by kernel_rfl) (by kernel_rfl) (fun _ _ _ h => h) rfl (fun W => by go_simp) ?_
  go_simp
  refine wpAnyL_pure (i := 7) (v := .pointer (some ⟨w.heap.size + 1, 4, none⟩)) rfl rfl (by kernel_rfl) (by kernel_rfl) (by kernel_rfl) (by kernel_rfl) (by kernel_rfl) (fun _ _ _ h => h) rfl (fun W => by go_simp) ?_
  go_simp
  refine wpAnyL_load (i := 8) (v := .string g0.data) rfl rfl (by kernel_rfl) (by kernel_rfl) (by kernel_rfl) (by kernel_rfl) (by kernel_rfl) (fun _ _ _ h => h) rfl (fun W h => by have h0 : W.cell? ⟨w.heap.size + 1, 4, none⟩ = some (.string g0.data) := (fr_dat h).1; clear h; go_simp) (G.out) ?_
  go_simp
  refine wpAnyL_pure (i := 9) (v := .pointer (some ⟨w.heap.size + 1, 4, none⟩)) rfl rfl (by kernel_rfl) (by kernel_rfl) (by kernel_rfl) (by kernel_rfl) (by kernel_rfl) (fun _ _ _ h => h) rfl (fun W => by go_simp) ?_
  go_simp
  refine wpAnyL_load (i := 10) (v := .string g0.data) rfl rfl (by kernel_rfl) (by kernel_rfl) (by kernel_rfl) (by kernel_rfl) (by kernel_rfl) (fun _ _ _ h => h) rfl (fun W h => by have h0 : W.cell? ⟨w.heap.size + 1, 4, none⟩ = some (.string g0.data) := (fr_dat h).1; clear h; go_simp) (G.out) ?_
  go_simp
  refine wpAnyL_pure (i := 11) (v := .int .i64 g0.data.size) rfl rfl (by kernel_rfl) (by kernel_rfl) (by kernel_rfl) (by kernel_rfl) (by kernel_rfl) (fun _ _ _ h => h) rfl (fun W => by go_simp) ?_
  go_simp
  refine wpAnyL_pure (i := 12) (v := .int .i64 k2) rfl rfl (by kernel_rfl) (by kernel_rfl) (by kernel_rfl) (by kernel_rfl) (by kernel_rfl) (fun _ _ _ h => h) rfl (fun W => by go_simp) ?_
  go_simp
  refine wpAnyL_pure (i := 13) (v := .string (g0.data.extract 0 k2)) rfl rfl (by kernel_rfl) (by kernel_rfl) (by kernel_rfl) (by kernel_rfl) (by kernel_rfl) (fun _ _ _ h => h) rfl (fun W => by go_simp) ?_
  go_simp
  clear hm1 hm2 hkl1 hkl2 sf sg
  refine wpAnyL_pure (i := 14) (v := .pointer (some ⟨w.heap.size, 4, none⟩)) rfl rfl (by kernel_rfl) (by kernel_rfl) (by kernel_rfl) (by kernel_rfl) (by kernel_rfl) (fun _ _ _ h => h) rfl (fun W => by go_simp) ?_
  go_simp
  obtain ⟨y0, y1⟩ := fr_dat F.out
  refine wpAnyL_one (i := 15) (by kernel_rfl) ?_
  refine wpOp_do rfl rfl ?_
  go_simp
  clear y0 y1
  obtain ⟨w2', ew2'⟩ : ∃ wx, wx = w1'.setCell ⟨w.heap.size, 4, none⟩ (.string (f0.data.extract 0 k1)) := ⟨_, rfl⟩
  rw [← ew2']
  replace ew2' : Hid (w2' = w1'.setCells (w.heap.size) 4 [.string (f0.data.extract 0 k1)]) := ew2'
  replace F := hide (show w2'.heap[w.heap.size]? = some (.cells (frc (cutF f0)).toArray 24 (0, 0)) by rw [ew2'.out, ← HF.out]; exact set_heap [.string (f0.data.extract 0 k1)] (frc f0) 4 _ F.out)
  replace G := hide (show w2'.heap[w.heap.size + 1]? = some (.cells (frc g0).toArray 24 (0, 0)) by rw [ew2'.out]; exact other_heap (by omega) _ _ _ G.out)
  replace Q := hide (show Below w.heap.size w w2' by rw [ew2'.out]; exact Q.out.trans (below_setCells _ _ _ (by omega)))
  clear ew2'
  refine ⟨keepsL_mk (by kernel_rfl) (.past (by kernel_rfl) (.past (by kernel_rfl) (.cons G.out (.cons G.out .nil)))), ?_⟩
  go_simp
  refine wpAnyL_pure (i := 16) (v := .pointer (some ⟨w.heap.size + 1, 4, none⟩)) rfl rfl (by kernel_rfl) (by kernel_rfl) (by kernel_rfl) (by kernel_rfl) (by kernel_rfl) (fun _ _ _ h => h) rfl (fun W => by go_simp) ?_
  go_simp
  obtain ⟨y0, y1⟩ := fr_dat G.out
  refine wpAnyL_one (i := 17) (by kernel_rfl) ?_
  refine wpOp_do rfl rfl ?_
  go_simp
  clear y0 y1
  obtain ⟨w3', ew3'⟩ : ∃ wx, wx = w2'.setCell ⟨w.heap.size + 1, 4, none⟩ (.string (g0.data.extract 0 k2)) := ⟨_, rfl⟩
  rw [← ew3']
  replace ew3' : Hid (w3' = w2'.setCells (w.heap.size + 1) 4 [.string (g0.data.extract 0 k2)]) := ew3'
  replace F := hide (show w3'.heap[w.heap.size]? = some (.cells (frc (cutF f0)).toArray 24 (0, 0)) by rw [ew3'.out]; exact other_heap (by omega) _ _ _ F.out)
  replace G := hide (show w3'.heap[w.heap.size + 1]? = some (.cells (frc (cutF g0)).toArray 24 (0, 0)) by rw [ew3'.out, ← HG.out]; exact set_heap [.string (g0.data.extract 0 k2)] (frc g0) 4 _ G.out)
  replace Q := hide (show Below w.heap.size w w3' by rw [ew3'.out]; exact Q.out.trans (below_setCells _ _ _ (by omega)))
  clear ew3'
  refine ⟨keepsL_all (by kernel_rfl) (by kernel_rfl), ?_⟩
  go_simp
  refine wpAnyL_done (by kernel_rfl) ?_ _
  clear HF HG
  generalize cutF f0 = f at *
  generalize cutF g0 = g at *
  have RF := hide (fun W => show Calls Tryd.prog 5 #[.agg (frc f).toArray] W fun e w' => e = .returned (.bool (FP.rightB f)) ∧ Below W.heap.size W w' from refRight04_any f W hf2)
  have RG := hide (fun W => show Calls Tryd.prog 5 #[.agg (frc g).toArray] W fun e w' => e = .returned (.bool (FP.rightB g)) ∧ Below W.heap.size W w' from refRight04_any g W hg2)
  go_wp2_with (refine wpList_load_row rfl 24 (.tmp 2) (by rfl) w.heap.size (by rfl) 24 (frc f).toArray (0, 0) _ (by exact F.out) Tryd.underlying24 (by rfl) (by kernel_rfl) ?_)
  (with_reducible refine (RF.out _).mono ?_)
  rintro ew4' w4' ⟨rfl, qw4'⟩
  replace F := hide (heap_below F.out qw4')
  replace G := hide (heap_below G.out qw4')
  replace Q := hide (below_next Q.out Q.out.size qw4')
  clear qw4'
  clear RF
  rcases Bool.eq_false_or_eq_true (FP.rightB f) with hrf | hrf
  case inr =>
    rw [hrf]
    go_wp2_with fail
    (with_reducible refine (AL.out _).mono ?_)
    rintro ew5' w5' ⟨rfl, qw5'⟩
    replace F := hide (heap_below F.out qw5')
    replace G := hide (heap_below G.out qw5')
    replace Q := hide (below_next Q.out Q.out.size qw5')
    clear qw5'
    clear AL
    go_wp2_with fail
    go_ret
    exact ⟨rfl, Q.out⟩
  case inl =>
  rw [hrf]
  go_wp2_with (refine wpList_load_rowG (by kernel_rfl) 24 (.tmp 3) (by rfl) (w.heap.size + 1) (by rfl) 24 (frc g).toArray (0, 0) _ (by exact G.out) Tryd.underlying24 (by rfl) (by kernel_rfl) ?_)
  (with_reducible refine (RG.out _).mono ?_)
  rintro ew6' w6' ⟨rfl, qw6'⟩
  replace F := hide (heap_below F.out qw6')
  replace G := hide (heap_below G.out qw6')
  replace Q := hide (below_next Q.out Q.out.size qw6')
  clear qw6'
  clear RG
  rcases Bool.eq_false_or_eq_true (FP.rightB g) with hrg | hrg
  case inr =>
    rw [hrg]
    go_wp2_with fail
    (with_reducible refine (AL.out _).mono ?_)
    rintro ew7' w7' ⟨rfl, qw7'⟩
    replace F := hide (heap_below F.out qw7')
    replace G := hide (heap_below G.out qw7')
    replace Q := hide (below_next Q.out Q.out.size qw7')
    clear qw7'
    clear AL
    go_wp2_with fail
    go_ret
    exact ⟨rfl, Q.out⟩
  case inl =>
  rw [hrg]
  have h0 := newFi_okp (n := 4) (by decide) (by decide)
  have NC := hide (fun W => ctlNew_any W)
  have NW := hide (fun W => cnNew_ok 4 (by decide) (by decide) W)
  have N0 := hide (fun W => cnNext_same (newFi 4) zCl W (h0.at_ Rd.nil) zCl_ok (.inl rfl))
  have GO := hide (fun W => cnGo_on (newFi 4) W (h0.at_ Rd.nil))
  have S1 := hide (fun W => show Calls Tryd.prog 11 #[.agg (newFi 4).go1.cs.toArray, .int .i64 1, .agg (frc f).toArray] W fun e w' => ∃ y : Fi, e = .returned (.tuple #[.agg y.cs.toArray, .int .i64 0]) ∧ Rd w' w'.heap.size y.A 7 (y.m.map bxc) ∧ Fresh W.heap.size y.A ∧ Hid (y.Okp ∧ y.on = true ∧ y.has = -1 ∧ y.m.length = 1 ∧ y.cap = 4 ∧ y.seq = 1) ∧ Below W.heap.size W w' from by
    refine (cnSend_ok (newFi 4).go1 1 f W (h0.go1.at_ Rd.nil) rfl (by decide) (by decide) hrf hf2 (by decide) (by decide)).mono ?_
    rintro e w' ⟨y, rfl, i1, i2, i3, q⟩
    exact ⟨y, rfl, i1, i2, ⟨i3.out.okp h0.go1 rfl (by decide) (by decide) hrf hf2 (by decide) (by decide), i3.out.on, i3.out.has, i3.out.len, i3.out.cap, i3.out.seq⟩, q⟩)
  have S2 := hide (fun (x : Fi) (W : World) (hr : Rd W W.heap.size x.A 7 (x.m.map bxc)) (hx : x.Okp ∧ x.on = true ∧ x.has = -1 ∧ x.m.length = 1 ∧ x.cap = 4 ∧ x.seq = 1) => show Calls Tryd.prog 11 #[.agg x.cs.toArray, .int .i64 2, .agg (frc g).toArray] W fun e w' => ∃ y : Fi, e = .returned (.tuple #[.agg y.cs.toArray, .int .i64 0]) ∧ Rd w' w'.heap.size y.A 7 (y.m.map bxc) ∧ Fresh W.heap.size y.A ∧ Hid (y.Okp ∧ y.on = true ∧ y.has = -1 ∧ y.m.length = 2) ∧ Below W.heap.size W w' from by
    obtain ⟨h1, h2, h3, h4, h5, h6⟩ := hx
    refine (cnSend_ok x 2 g W (h1.at_ hr) h2 (by decide) (by decide) hrg hg2 (by omega) (by omega)).mono ?_
    rintro e w' ⟨y, rfl, i1, i2, i3, q⟩
    exact ⟨y, rfl, i1, i2, ⟨i3.out.okp h1 h2 (by decide) (by decide) hrg hg2 (by omega) (by omega), by rw [i3.out.on]; exact h2, by rw [i3.out.has]; exact h3, by have := i3.out.len; omega⟩, q⟩)
  have N1 := hide (fun (x : Fi) (W : World) (hr : Rd W W.heap.size x.A 7 (x.m.map bxc)) (hx : x.Okp ∧ x.on = true ∧ x.has = -1 ∧ x.m.length = 2) => show Calls Tryd.prog 8 #[.agg x.cs.toArray, .agg zCl.cs.toArray] W fun e w' => ∃ (y : Fi) (d : Cl), e = .returned (.tuple #[.agg y.cs.toArray, .agg d.cs.toArray, .int .i64 0]) ∧ Rd w' w'.heap.size y.A 7 (y.m.map bxc) ∧ Fresh W.heap.size y.A ∧ Hid (y.Okp ∧ y.m.length = 1 ∧ y.has ≠ -1 ∧ d.Ok ∧ d.has = true) ∧ Below W.heap.size W w' from by
    obtain ⟨h1, h2, h3, h4⟩ := hx
    have hm : 0 < x.m.length := by omega
    have hb := h1.fr _ (at_mem hm)
    refine (cnNext_take x zCl W (h1.at_ hr) zCl_ok h2 rfl h3 hm).mono ?_
    rintro e w' ⟨y, rfl, i1, i2, i3, q⟩
    exact ⟨y, _, rfl, i1, i2, ⟨i3.out.okp h1 h2 hm, by have := i3.out.len; omega, by rw [i3.out.has]; omega, give_ok hb.1, rfl⟩, q⟩)
  have LN := hide (fun W => show Calls Tryd.prog 12 #[.agg (newFi 4).cs.toArray, .agg #[.slice none 0 0, .int .i64 0, .int .i64 4, .int .i64 (-1), .bool false, .int .i64 0, .int .i64 0]] W fun e w' => e = .returned (.bool true) ∧ Below W.heap.size W w' from like23_any (newFi 4) W Rd.nil (by decide) (by simp [newFi]))
  clear h0 hf2 hg2 hrf hrg
  go_wp2_with fail
  (with_reducible refine (NW.out _).mono ?_)
  rintro ew8' w8' ⟨rfl, qw8'⟩
  replace F := hide (heap_below F.out qw8')
  replace G := hide (heap_below G.out qw8')
  replace Q := hide (below_next Q.out Q.out.size qw8')
  clear qw8'
  clear NW
  have B := World.alloc_heap_new w8' (.cells zFi.cs.toArray 31)
  have zFb0 : w.heap.size < w8'.heap.size := heap_lt F.out
  have zGb0 : w.heap.size + 1 < w8'.heap.size := heap_lt G.out
  have zQb0 : w.heap.size ≤ w8'.heap.size := Q.out.size
  obtain ⟨w10', hw10'⟩ : ∃ wx, wx = w8'.alloc (.cells zFi.cs.toArray 31) := ⟨_, rfl⟩
  have q9' := hide (show Below w8'.heap.size w8' w10' by rw [hw10']; exact (Below.refl _ _).alloc (Nat.le_refl _) _)
  rw [← hw10'] at B
  replace B := hide B
  have Tw11' := hide (show (w8'.alloc (.cells zFi.cs.toArray 31)).there w8'.heap.size 0 7 by rw [← hw10']; exact there_heap (cs := zFi.cs) B.out)
  go_wp2_with (refine wpList_store_hid (by rfl) 31 (.tmp 5) (.tmp 49) (by rfl) w8'.heap.size 0 ((newFi 4).cs) (by rfl) (by rfl) (by exact Tw11'.out) (by kernel_rfl) (by simp [Value.oneCell', Fi.cs, newFi, zFi, Fi.go1]) ?_)
  intro w11' ew11'
  replace ew11' : Hid (w11' = w10'.setCells w8'.heap.size 0 ((newFi 4).cs)) := by rw [hw10']; exact ew11'
  replace B := hide (show w11'.heap[w8'.heap.size]? = some (.cells ((newFi 4).cs).toArray 31 (0, 0)) by rw [ew11'.out]; exact whole_heap ((newFi 4).cs) (xs := zFi.cs) B.out rfl)
  replace q9' := hide (show Below w8'.heap.size w8' w11' by rw [ew11'.out]; exact q9'.out.trans (below_setCells _ _ _ (by omega)))
  clear ew11' Tw11' hw10'
  replace F := hide (heap_below F.out q9'.out)
  replace G := hide (heap_below G.out q9'.out)
  replace Q := hide (below_next Q.out Q.out.size q9'.out)
  clear q9'
  generalize w8'.heap.size = b0 at *
  go_upto_region 5 with fail
  have zpF := heap_lt F.out
  have zpG := heap_lt G.out
  have zpB := heap_lt B.out
  refine canifOne_r5 w11' b0 (newFi 4) (by rfl) (hide fun W _ => N0.out W) B (by intro _ _ d9 _ _ h; cases d9 <;> exact h) ?_
  intro u7 u8 u9 u51 u52 u53 u54 u55 u56 u57 wc hcut
  obtain ⟨k7, k8, rfl, rfl, rfl, N7, N8, zk7, zk8, zn7, qc⟩ := hcut
  have q := qc.out
  clear qc
  replace F := hide (heap_below F.out q)
  replace G := hide (heap_below G.out q)
  replace B := hide (heap_below B.out q)
  replace Q := hide (below_next Q.out Q.out.size q)
  clear q
  go_wp2_with (refine wpList_load_row rfl 31 (.tmp 5) (by rfl) b0 (by rfl) 31 ((newFi 4).cs).toArray (0, 0) _ (by exact B.out) Tryd.underlying31 (by rfl) (by kernel_rfl) ?_)
  (with_reducible refine (GO.out _).mono ?_)
  rintro ew12' w12' ⟨rfl, qw12'⟩
  replace F := hide (heap_below F.out qw12')
  replace G := hide (heap_below G.out qw12')
  replace B := hide (heap_below B.out qw12')
  replace N7 := hide (heap_below N7.out qw12')
  replace N8 := hide (heap_below N8.out qw12')
  replace Q := hide (below_next Q.out Q.out.size qw12')
  clear qw12'
  clear GO
  have Tw13' := hide (show World.there _ b0 0 7 from there_heap (cs := (newFi 4).cs) B.out)
  go_wp2_with (refine wpList_store_hid (by rfl) 31 (.tmp 5) (.tmp 61) (by rfl) b0 0 ((newFi 4).go1.cs) (by rfl) (by rfl) (by exact Tw13'.out) (by kernel_rfl) (by simp [Value.oneCell', Fi.cs]) ?_)
  intro w13' ew13'
  replace F := hide (show w13'.heap[w.heap.size]? = some (.cells (frc f).toArray 24 (0, 0)) by rw [ew13'.out]; exact other_heap (by omega) _ _ _ F.out)
  replace G := hide (show w13'.heap[w.heap.size + 1]? = some (.cells (frc g).toArray 24 (0, 0)) by rw [ew13'.out]; exact other_heap (by omega) _ _ _ G.out)
  replace N7 := hide (show w13'.heap[k7]? = some (.cells ((newFi 4).cs).toArray 31 (0, 0)) by rw [ew13'.out]; exact other_heap (by omega) _ _ _ N7.out)
  replace N8 := hide (show w13'.heap[k8]? = some (.cells zCl.cs.toArray 40 (0, 0)) by rw [ew13'.out]; exact other_heap (by omega) _ _ _ N8.out)
  replace Q := hide (show Below w.heap.size w w13' by rw [ew13'.out]; exact Q.out.trans (below_setCells _ _ _ (by have := Q.out.size; omega)))
  replace B := hide (show w13'.heap[b0]? = some (.cells ((newFi 4).go1.cs).toArray 31 (0, 0)) by rw [ew13'.out]; exact whole_heap ((newFi 4).go1.cs) (xs := (newFi 4).cs) B.out rfl)
  clear ew13' Tw13'
  go_wp2_with (first | (refine wpList_load_row rfl 31 (.tmp 5) (by rfl) b0 (by rfl) 31 ((newFi 4).go1.cs).toArray (0, 0) _ (by exact B.out) Tryd.underlying31 (by rfl) (by kernel_rfl) ?_) | (refine wpList_load_row rfl 24 (.tmp 2) (by rfl) w.heap.size (by rfl) 24 (frc f).toArray (0, 0) _ (by exact F.out) Tryd.underlying24 (by rfl) (by kernel_rfl) ?_))
  (with_reducible refine (S1.out _).mono ?_)
  rintro ew14' w14' ⟨y1, rfl, R1, FR1, H1, qw14'⟩
  have O_R1_F := hide (show Off y1.A (y1.m.map bxc).length w.heap.size from off_fresh FR1 (heap_lt F.out))
  have O_R1_G := hide (show Off y1.A (y1.m.map bxc).length (w.heap.size + 1) from off_fresh FR1 (heap_lt G.out))
  have O_R1_B := hide (show Off y1.A (y1.m.map bxc).length b0 from off_fresh FR1 (heap_lt B.out))
  have O_R1_N7 := hide (show Off y1.A (y1.m.map bxc).length k7 from off_fresh FR1 (heap_lt N7.out))
  have O_R1_N8 := hide (show Off y1.A (y1.m.map bxc).length k8 from off_fresh FR1 (heap_lt N8.out))
  replace F := hide (heap_below F.out qw14')
  replace G := hide (heap_below G.out qw14')
  replace B := hide (heap_below B.out qw14')
  replace N7 := hide (heap_below N7.out qw14')
  replace N8 := hide (heap_below N8.out qw14')
  replace Q := hide (below_next Q.out Q.out.size qw14')
  clear qw14'
  replace R1 := hide (show Rd w14' w14'.heap.size y1.A 7 (y1.m.map bxc) from R1)
  replace FR1 := hide FR1
  clear S1
  have Tw15' := hide (show World.there _ b0 0 7 from there_heap (cs := (newFi 4).go1.cs) B.out)
  go_wp2_with (refine wpList_store_hid (by rfl) 31 (.tmp 5) (.tmp 67) (by rfl) b0 0 y1.cs (by rfl) (by rfl) (by exact Tw15'.out) (by kernel_rfl) (by simp [Value.oneCell', Fi.cs]) ?_)
  intro w15' ew15'
  replace F := hide (show w15'.heap[w.heap.size]? = some (.cells (frc f).toArray 24 (0, 0)) by rw [ew15'.out]; exact other_heap (by omega) _ _ _ F.out)
  replace G := hide (show w15'.heap[w.heap.size + 1]? = some (.cells (frc g).toArray 24 (0, 0)) by rw [ew15'.out]; exact other_heap (by omega) _ _ _ G.out)
  replace N7 := hide (show w15'.heap[k7]? = some (.cells ((newFi 4).cs).toArray 31 (0, 0)) by rw [ew15'.out]; exact other_heap (by omega) _ _ _ N7.out)
  replace N8 := hide (show w15'.heap[k8]? = some (.cells zCl.cs.toArray 40 (0, 0)) by rw [ew15'.out]; exact other_heap (by omega) _ _ _ N8.out)
  replace R1 := hide (show Rd w15' w15'.heap.size y1.A 7 (y1.m.map bxc) by rw [ew15'.out]; exact off_set R1.out O_R1_B.out _ _)
  replace Q := hide (show Below w.heap.size w w15' by rw [ew15'.out]; exact Q.out.trans (below_setCells _ _ _ (by have := Q.out.size; omega)))
  replace B := hide (show w15'.heap[b0]? = some (.cells y1.cs.toArray 31 (0, 0)) by rw [ew15'.out]; exact whole_heap y1.cs (xs := (newFi 4).go1.cs) B.out rfl)
  clear ew15' Tw15'
  have C2 := hide (S2.out y1 w15' R1.out H1.out)
  clear S2 FR1 H1 F
  go_wp2_with (first | (refine wpList_load_row rfl 31 (.tmp 5) (by rfl) b0 (by rfl) 31 y1.cs.toArray (0, 0) _ (by exact B.out) Tryd.underlying31 (by rfl) (by kernel_rfl) ?_) | (refine wpList_load_row rfl 24 (.tmp 3) (by rfl) (w.heap.size + 1) (by rfl) 24 (frc g).toArray (0, 0) _ (by exact G.out) Tryd.underlying24 (by rfl) (by kernel_rfl) ?_))
  clear R1 O_R1_G O_R1_B O_R1_N7 O_R1_N8
  (with_reducible refine (C2.out).mono ?_)
  rintro ew16' w16' ⟨y2, rfl, R2, FR2, H2, qw16'⟩
  have O_R2_G := hide (show Off y2.A (y2.m.map bxc).length (w.heap.size + 1) from off_fresh FR2 (heap_lt G.out))
  have O_R2_B := hide (show Off y2.A (y2.m.map bxc).length b0 from off_fresh FR2 (heap_lt B.out))
  have O_R2_N7 := hide (show Off y2.A (y2.m.map bxc).length k7 from off_fresh FR2 (heap_lt N7.out))
  have O_R2_N8 := hide (show Off y2.A (y2.m.map bxc).length k8 from off_fresh FR2 (heap_lt N8.out))
  replace G := hide (heap_below G.out qw16')
  replace B := hide (heap_below B.out qw16')
  replace N7 := hide (heap_below N7.out qw16')
  replace N8 := hide (heap_below N8.out qw16')
  replace Q := hide (below_next Q.out Q.out.size qw16')
  clear qw16'
  replace R2 := hide (show Rd w16' w16'.heap.size y2.A 7 (y2.m.map bxc) from R2)
  replace FR2 := hide FR2
  clear C2
  have Tw17' := hide (show World.there _ b0 0 7 from there_heap (cs := y1.cs) B.out)
  go_wp2_with (refine wpList_store_hid (by rfl) 31 (.tmp 5) (.tmp 73) (by rfl) b0 0 y2.cs (by rfl) (by rfl) (by exact Tw17'.out) (by kernel_rfl) (by simp [Value.oneCell', Fi.cs]) ?_)
  intro w17' ew17'
  replace G := hide (show w17'.heap[w.heap.size + 1]? = some (.cells (frc g).toArray 24 (0, 0)) by rw [ew17'.out]; exact other_heap (by omega) _ _ _ G.out)
  replace N7 := hide (show w17'.heap[k7]? = some (.cells ((newFi 4).cs).toArray 31 (0, 0)) by rw [ew17'.out]; exact other_heap (by omega) _ _ _ N7.out)
  replace N8 := hide (show w17'.heap[k8]? = some (.cells zCl.cs.toArray 40 (0, 0)) by rw [ew17'.out]; exact other_heap (by omega) _ _ _ N8.out)
  replace R2 := hide (show Rd w17' w17'.heap.size y2.A 7 (y2.m.map bxc) by rw [ew17'.out]; exact off_set R2.out O_R2_B.out _ _)
  replace Q := hide (show Below w.heap.size w w17' by rw [ew17'.out]; exact Q.out.trans (below_setCells _ _ _ (by have := Q.out.size; omega)))
  replace B := hide (show w17'.heap[b0]? = some (.cells y2.cs.toArray 31 (0, 0)) by rw [ew17'.out]; exact whole_heap y2.cs (xs := y1.cs) B.out rfl)
  clear ew17' Tw17'
  clear FR2 G
  go_upto_region 9 with fail
  have zpB := heap_lt B.out
  have zpN7 := heap_lt N7.out
  have zpN8 := heap_lt N8.out
  refine canifOne_r9 w17' b0 y2 (fun (y : Fi) (d : Cl) => y.Okp ∧ y.m.length = 1 ∧ y.has ≠ -1 ∧ d.Ok ∧ d.has = true) (by rfl) (hide fun W q => N1.out y2 W (R2.out.next q q.size) H2.out) B (by intro _ _ d9 _ _ h; cases d9 <;> exact h) ?_
  intro u13 u14 u15 u75 u76 u77 u78 u79 u80 u81 wc hcut
  obtain ⟨k13, k14, y, d, rfl, rfl, rfl, N13, N14, RY, FRY, HY, zk13, zk14, zn13, qc⟩ := hcut
  have q := qc.out
  clear qc
  replace B := hide (heap_below B.out q)
  replace N7 := hide (heap_below N7.out q)
  replace N8 := hide (heap_below N8.out q)
  replace R2 := hide (Rd.next R2.out q q.size)
  replace Q := hide (below_next Q.out Q.out.size q)
  clear q
  clear FRY
  clear B R2 H2 N1
  have C2 := hide (cnNext_same y d wc (HY.out.1.at_ RY.out) HY.out.2.2.2.1 (.inr (.inl HY.out.2.2.2.2)))
  go_wp2_with (first | (refine wpList_load_row rfl 31 (.tmp 13) (by rfl) k13 (by rfl) 31 y.cs.toArray (0, 0) _ (by exact N13.out) Tryd.underlying31 (by rfl) (by kernel_rfl) ?_) | (refine wpList_load_row rfl 40 (.tmp 14) (by rfl) k14 (by rfl) 40 d.cs.toArray (0, 0) _ (by exact N14.out) Tryd.underlying40 (by rfl) (by kernel_rfl) ?_))
  (with_reducible refine (C2.out).mono ?_)
  rintro ew18' w18' ⟨rfl, qw18'⟩
  replace N7 := hide (heap_below N7.out qw18')
  replace N8 := hide (heap_below N8.out qw18')
  replace N13 := hide (heap_below N13.out qw18')
  replace N14 := hide (heap_below N14.out qw18')
  replace RY := hide (Rd.next RY.out qw18' qw18'.size)
  replace Q := hide (below_next Q.out Q.out.size qw18')
  clear qw18'
  clear C2
  have N16 := heap_below (World.alloc_heap_new w18' (.cells zFi.cs.toArray 31)) ((Below.refl _ _).alloc (Nat.le_refl _) (.cells zCl.cs.toArray 40))
  have N17 := World.alloc_heap_new (w18'.alloc (.cells zFi.cs.toArray 31)) (.cells zCl.cs.toArray 40)
  simp only [World.size_alloc] at N17
  have zN7k16 : k7 < w18'.heap.size := heap_lt N7.out
  have zN8k16 : k8 < w18'.heap.size := heap_lt N8.out
  have zN13k16 : k13 < w18'.heap.size := heap_lt N13.out
  have zN14k16 : k14 < w18'.heap.size := heap_lt N14.out
  have O_RY_N16 := hide (off_new (x := w18'.heap.size) RY.out (by omega))
  have O_RY_N17 := hide (off_new (x := w18'.heap.size + 1) RY.out (by omega))
  have zQk16 : w.heap.size ≤ w18'.heap.size := Q.out.size
  obtain ⟨w20', hw20'⟩ : ∃ wx, wx = (w18'.alloc (.cells zFi.cs.toArray 31)).alloc (.cells zCl.cs.toArray 40) := ⟨_, rfl⟩
  have q19' := hide (show Below w18'.heap.size w18' w20' by rw [hw20']; exact ((Below.refl _ _).alloc (Nat.le_refl _) _).alloc (by simp) _)
  rw [← hw20'] at N16 N17
  replace N16 := hide N16
  replace N17 := hide N17
  have Tw21' := hide (show ((w18'.alloc (.cells zFi.cs.toArray 31)).alloc (.cells zCl.cs.toArray 40)).there w18'.heap.size 0 7 by rw [← hw20']; exact there_heap (cs := zFi.cs) N16.out)
  go_wp2_with (refine wpList_store_hid (by rfl) 31 (.tmp 16) (.tmp 86) (by rfl) w18'.heap.size 0 y.cs (by rfl) (by rfl) (by exact Tw21'.out) (by kernel_rfl) (by simp [Value.oneCell', Fi.cs]) ?_)
  intro w21' ew21'
  replace ew21' : Hid (w21' = w20'.setCells w18'.heap.size 0 y.cs) := by rw [hw20']; exact ew21'
  replace N17 := hide (show w21'.heap[w18'.heap.size + 1]? = some (.cells zCl.cs.toArray 40 (0, 0)) by rw [ew21'.out]; exact other_heap (by omega) _ _ _ N17.out)
  replace N16 := hide (show w21'.heap[w18'.heap.size]? = some (.cells y.cs.toArray 31 (0, 0)) by rw [ew21'.out]; exact whole_heap y.cs (xs := zFi.cs) N16.out rfl)
  replace q19' := hide (show Below w18'.heap.size w18' w21' by rw [ew21'.out]; exact q19'.out.trans (below_setCells _ _ _ (by omega)))
  clear ew21' Tw21' hw20'
  have Tw22' := hide (show w21'.there (w18'.heap.size + 1) 0 23 from there_heap (cs := zCl.cs) N17.out)
  go_wp2_with (refine wpList_store_hid (by rfl) 40 (.tmp 17) (.tmp 87) (by rfl) (w18'.heap.size + 1) 0 d.cs (by rfl) (by rfl) (by exact Tw22'.out) (by kernel_rfl) (by simp [Value.oneCell', Cl.cs]) ?_)
  intro w22' ew22'
  replace N16 := hide (show w22'.heap[w18'.heap.size]? = some (.cells y.cs.toArray 31 (0, 0)) by rw [ew22'.out]; exact other_heap (by omega) _ _ _ N16.out)
  replace N17 := hide (show w22'.heap[w18'.heap.size + 1]? = some (.cells d.cs.toArray 40 (0, 0)) by rw [ew22'.out]; exact whole_heap d.cs (xs := zCl.cs) N17.out rfl)
  replace q19' := hide (show Below w18'.heap.size w18' w22' by rw [ew22'.out]; exact q19'.out.trans (below_setCells _ _ _ (by omega)))
  clear ew22' Tw22'
  replace N7 := hide (heap_below N7.out q19'.out)
  replace N8 := hide (heap_below N8.out q19'.out)
  replace N13 := hide (heap_below N13.out q19'.out)
  replace N14 := hide (heap_below N14.out q19'.out)
  replace RY := hide (Rd.next RY.out q19'.out q19'.out.size)
  replace Q := hide (below_next Q.out Q.out.size q19'.out)
  clear q19'
  generalize w18'.heap.size = k16 at *
  go_upto_region 11 with fail
  have zpN7 := heap_lt N7.out
  have zpN8 := heap_lt N8.out
  have zpN13 := heap_lt N13.out
  have zpN14 := heap_lt N14.out
  have zpN16 := heap_lt N16.out
  have zpN17 := heap_lt N17.out
  refine canifOne_r11 w22' k13 y (by rfl) (hide fun W q => cnNext_same y zCl W (HY.out.1.at_ (RY.out.next q q.size)) zCl_ok (.inr (.inr (.inl HY.out.2.2.1)))) N13 (by intro _ _ d9 _ _ h; cases d9 <;> exact h) ?_
  intro u19 u20 u21 u89 u90 u91 u92 u93 u94 u95 wc hcut
  obtain ⟨k19, k20, rfl, rfl, rfl, N19, N20, zk19, zk20, zn19, qc⟩ := hcut
  have q := qc.out
  clear qc
  replace N7 := hide (heap_below N7.out q)
  replace N8 := hide (heap_below N8.out q)
  replace N13 := hide (heap_below N13.out q)
  replace N14 := hide (heap_below N14.out q)
  replace N16 := hide (heap_below N16.out q)
  replace N17 := hide (heap_below N17.out q)
  replace RY := hide (Rd.next RY.out q q.size)
  replace Q := hide (below_next Q.out Q.out.size q)
  clear q
  go_wp2_with fail
  (with_reducible refine (AL.out _).mono ?_)
  rintro ew23' w23' ⟨rfl, qw23'⟩
  replace N7 := hide (heap_below N7.out qw23')
  replace N8 := hide (heap_below N8.out qw23')
  replace N13 := hide (heap_below N13.out qw23')
  replace N14 := hide (heap_below N14.out qw23')
  replace N16 := hide (heap_below N16.out qw23')
  replace N17 := hide (heap_below N17.out qw23')
  replace N19 := hide (heap_below N19.out qw23')
  replace N20 := hide (heap_below N20.out qw23')
  replace RY := hide (Rd.next RY.out qw23' qw23'.size)
  replace Q := hide (below_next Q.out Q.out.size qw23')
  clear qw23'
  clear AL
  have LY := hide (fun (W : World) (h : Rd W W.heap.size y.A 7 (y.m.map bxc)) => like23_any y W h (by have := HY.out.2.1; omega) (fun b hb => (HY.out.1.fr b hb).1))
  go_wp2_with (refine wpList_load_row rfl 31 (.tmp 7) (by rfl) k7 (by rfl) 31 ((newFi 4).cs).toArray (0, 0) _ (by exact N7.out) Tryd.underlying31 (by rfl) (by kernel_rfl) ?_)
  (with_reducible refine (LN.out _).mono ?_)
  rintro ew24' w24' ⟨rfl, qw24'⟩
  replace N7 := hide (heap_below N7.out qw24')
  replace N8 := hide (heap_below N8.out qw24')
  replace N13 := hide (heap_below N13.out qw24')
  replace N14 := hide (heap_below N14.out qw24')
  replace N16 := hide (heap_below N16.out qw24')
  replace N17 := hide (heap_below N17.out qw24')
  replace N19 := hide (heap_below N19.out qw24')
  replace N20 := hide (heap_below N20.out qw24')
  replace RY := hide (Rd.next RY.out qw24' qw24'.size)
  replace Q := hide (below_next Q.out Q.out.size qw24')
  clear qw24'
  clear LN
  obtain ⟨-, ⟨-, -, -, -, p8⟩, -⟩ := cl_cells N8.out
  obtain ⟨-, ⟨-, -, -, -, q8⟩, -⟩ := cl_cells N14.out
  obtain ⟨c0, -⟩ := fi_cells N13.out
  rw [HY.out.2.1] at c0
  rw [HY.out.2.2.2.2] at q8
  replace p8 : w24'.cell? ⟨k8, 8, none⟩ = some (.bool false) := p8
  have C2 := hide (LY.out w24' RY.out)
  go_wp2_with (first | (refine wpList_load_rowG (by kernel_rfl) 31 (.tmp 16) (by rfl) k16 (by rfl) 31 y.cs.toArray (0, 0) _ (by exact N16.out) Tryd.underlying31 (by rfl) (by kernel_rfl) ?_) | (refine wpList_load_rowG (by kernel_rfl) 31 (.tmp 13) (by rfl) k13 (by rfl) 31 y.cs.toArray (0, 0) _ (by exact N13.out) Tryd.underlying31 (by rfl) (by kernel_rfl) ?_))
  clear p8 q8 c0
  (with_reducible refine (C2.out).mono ?_)
  rintro ew25' w25' ⟨rfl, qw25'⟩
  replace N7 := hide (heap_below N7.out qw25')
  replace N8 := hide (heap_below N8.out qw25')
  replace N13 := hide (heap_below N13.out qw25')
  replace N14 := hide (heap_below N14.out qw25')
  replace N16 := hide (heap_below N16.out qw25')
  replace N17 := hide (heap_below N17.out qw25')
  replace N19 := hide (heap_below N19.out qw25')
  replace N20 := hide (heap_below N20.out qw25')
  replace RY := hide (Rd.next RY.out qw25' qw25'.size)
  replace Q := hide (below_next Q.out Q.out.size qw25')
  clear qw25'
  clear C2
  have EQ := fun W => eq_cl d W
  go_wp2_with (first | (refine wpList_load_rowG (by kernel_rfl) 40 (.tmp 17) (by rfl) (k16 + 1) (by rfl) 40 d.cs.toArray (0, 0) _ (by exact N17.out) Tryd.underlying40 (by rfl) (by kernel_rfl) ?_) | (refine wpList_load_rowG (by kernel_rfl) 40 (.tmp 14) (by rfl) k14 (by rfl) 40 d.cs.toArray (0, 0) _ (by exact N14.out) Tryd.underlying40 (by rfl) (by kernel_rfl) ?_) | (refine wpList_load_rowG (by kernel_rfl) 31 (.tmp 19) (by rfl) k19 (by rfl) 31 y.cs.toArray (0, 0) _ (by exact N19.out) Tryd.underlying31 (by rfl) (by kernel_rfl) ?_) | (refine wpList_load_rowG (by kernel_rfl) 31 (.tmp 13) (by rfl) k13 (by rfl) 31 y.cs.toArray (0, 0) _ (by exact N13.out) Tryd.underlying31 (by rfl) (by kernel_rfl) ?_))
  clear EQ
  have C2 := hide (LY.out w25' RY.out)
  (with_reducible refine (C2.out).mono ?_)
  rintro ew26' w26' ⟨rfl, qw26'⟩
  replace N7 := hide (heap_below N7.out qw26')
  replace N8 := hide (heap_below N8.out qw26')
  replace N13 := hide (heap_below N13.out qw26')
  replace N14 := hide (heap_below N14.out qw26')
  replace N16 := hide (heap_below N16.out qw26')
  replace N17 := hide (heap_below N17.out qw26')
  replace N19 := hide (heap_below N19.out qw26')
  replace N20 := hide (heap_below N20.out qw26')
  replace RY := hide (Rd.next RY.out qw26' qw26'.size)
  replace Q := hide (below_next Q.out Q.out.size qw26')
  clear qw26'
  clear C2
  obtain ⟨-, ⟨-, -, -, -, p8⟩, -⟩ := cl_cells N20.out
  replace p8 : w26'.cell? ⟨k20, 8, none⟩ = some (.bool false) := p8
  go_wp2_with fail
  go_ret
  exact ⟨rfl, Q.out⟩
end Go.Proofs.YtkfedgjepiljiaaDoor
