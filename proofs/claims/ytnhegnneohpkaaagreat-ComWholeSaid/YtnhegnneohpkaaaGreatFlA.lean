/- Walks of package filter. -/
import Derived.Test.YtnhegnneohpkaaaGreatMgFin
import Derived.Test.YtnhegnneohpkaaaGreatMgPdP
import Derived.Test.YtnhegnneohpkaaaGreatOrdL
namespace Go.Proofs.YtnhegnneohpkaaaGreat
open Go.ChangeShapes Go.WideShapes Go.ChangeAt Go.RowKit
open CM


set_option maxRecDepth 100000 in
set_option maxHeartbeats 4000000 in
theorem fltRight_any (f : Flt) (w : World) : Calls Tryz.prog 52 #[.agg #[.int .i64 f.kind, .int .i64 f.mask, .int .i64 f.x, .int .i64 f.mn, .int .i64 f.mx, .int .i64 f.every, .int .i64 f.frm, .int .i64 f.old, .int .i64 f.count]] w fun e w' => e = .returned (.bool (fltB f)) ∧ Below w.heap.size w w' := by
  obtain ⟨r, hr⟩ : ∃ r, r = fltB f := ⟨_, rfl⟩
  have HR := hide (fltB_iff (f := f))
  rw [← hr] at HR ⊢
  clear hr
  obtain ⟨kind, mask, x, mn, mx, every, frm, old, count⟩ := f
  dsimp only at *
  have q0 : Below w.heap.size w (w.alloc (.cells #[.int .i64 kind, .int .i64 mask, .int .i64 x, .int .i64 mn, .int .i64 mx, .int .i64 every, .int .i64 frm, .int .i64 old, .int .i64 count] 29)) := (Below.refl _ _).alloc (Nat.le_refl _) _
  by_cases h8 : kind = 8
  · have e1 : (kind == 8) = true := by rw [beq_iff_eq]; exact h8
    have e2 : (kind != 8) = false := by simp [bne, e1]
    have H8 := hide h8
    clear h8
    go_enter Tryz.func52, Tryz.ntmps52
    go_wp2_with fail
    all_goals have h8 := H8.out
    all_goals go_ret
    all_goals refine ⟨ret_bool ?_, q0⟩
    all_goals (first | exact r_true HR.out (by omega) | exact r_false HR.out (by omega) | exact r_dec HR.out (by omega))
  · have e1 : (kind == 8) = false := by rw [beq_eq_false_iff_ne]; exact h8
    have e2 : (kind != 8) = true := by simp [bne, e1]
    have H8 := hide h8
    clear h8
    go_enter Tryz.func52, Tryz.ntmps52
    go_wp2_with fail
    all_goals have h8 := H8.out
    all_goals go_ret
    all_goals refine ⟨ret_bool ?_, q0⟩
    all_goals (first | exact r_true HR.out (by omega) | exact r_false HR.out (by omega) | exact r_dec HR.out (by omega))

theorem fl_cells {W : World} {B : Nat} {f : Flt} {t : TypeId} {fz : Nat × Nat} (h : W.heap[B]? = some (.cells #[.int .i64 f.kind, .int .i64 f.mask, .int .i64 f.x, .int .i64 f.mn, .int .i64 f.mx, .int .i64 f.every, .int .i64 f.frm, .int .i64 f.old, .int .i64 f.count] t fz)) :
    W.cell? ⟨B, 0, none⟩ = some (.int .i64 f.kind) ∧ W.cell? ⟨B, 1, none⟩ = some (.int .i64 f.mask) ∧ W.cell? ⟨B, 2, none⟩ = some (.int .i64 f.x) ∧ W.cell? ⟨B, 3, none⟩ = some (.int .i64 f.mn) ∧ W.cell? ⟨B, 4, none⟩ = some (.int .i64 f.mx) ∧ W.cell? ⟨B, 5, none⟩ = some (.int .i64 f.every) ∧ W.cell? ⟨B, 6, none⟩ = some (.int .i64 f.frm) ∧ W.cell? ⟨B, 7, none⟩ = some (.int .i64 f.old) ∧ W.cell? ⟨B, 8, none⟩ = some (.int .i64 f.count) := by
  simp [World.cell?, h]

set_option maxRecDepth 100000 in
theorem fkWithin_any (f : Flt) (v : Int) (w : World) : Calls Tryz.prog 106 #[.agg #[.int .i64 f.kind, .int .i64 f.mask, .int .i64 f.x, .int .i64 f.mn, .int .i64 f.mx, .int .i64 f.every, .int .i64 f.frm, .int .i64 f.old, .int .i64 f.count], .int .i64 v] w fun e w' => e = .returned (.bool (inF f v)) ∧ Below w.heap.size w w' := by
  obtain ⟨r, hr⟩ : ∃ r, r = inF f v := ⟨_, rfl⟩
  have HR := hide (show r = true ↔ f.mn ≤ v ∧ v ≤ f.mx from by rw [hr]; unfold inF; simp)
  rw [← hr]
  clear hr
  obtain ⟨kind, mask, x, mn, mx, every, frm, old, count⟩ := f
  dsimp only at *
  have q0 : Below w.heap.size w (w.alloc (.cells #[.int .i64 kind, .int .i64 mask, .int .i64 x, .int .i64 mn, .int .i64 mx, .int .i64 every, .int .i64 frm, .int .i64 old, .int .i64 count] 29)) := (Below.refl _ _).alloc (Nat.le_refl _) _
  go_enter Tryz.func106, Tryz.ntmps106
  go_wp2_with fail
  all_goals go_ret
  all_goals refine ⟨ret_bool ?_, q0⟩
  all_goals (first | exact r_true HR.out (by omega) | exact r_false HR.out (by omega) | exact r_dec HR.out (by omega))
set_option maxRecDepth 100000 in
theorem fkEqual_any (f : Flt) (v : Int) (w : World) : Calls Tryz.prog 107 #[.agg #[.int .i64 f.kind, .int .i64 f.mask, .int .i64 f.x, .int .i64 f.mn, .int .i64 f.mx, .int .i64 f.every, .int .i64 f.frm, .int .i64 f.old, .int .i64 f.count], .int .i64 v] w fun e w' => e = .returned (.bool (eqF f v)) ∧ Below w.heap.size w w' := by
  have E := hide (show eqF f v = (bits .and .i64 v f.mask == f.x) from rfl)
  rw [E.out]
  obtain ⟨kind, mask, x, mn, mx, every, frm, old, count⟩ := f
  dsimp only at *
  have q0 : Below w.heap.size w (w.alloc (.cells #[.int .i64 kind, .int .i64 mask, .int .i64 x, .int .i64 mn, .int .i64 mx, .int .i64 every, .int .i64 frm, .int .i64 old, .int .i64 count] 29)) := (Below.refl _ _).alloc (Nat.le_refl _) _
  go_enter Tryz.func107, Tryz.ntmps107
  go_wp2_with fail
  go_ret
  exact ⟨rfl, q0⟩
set_option maxRecDepth 100000 in
theorem fkAlways_any (f : Flt) (v : Int) (w : World) : Calls Tryz.prog 110 #[.agg #[.int .i64 f.kind, .int .i64 f.mask, .int .i64 f.x, .int .i64 f.mn, .int .i64 f.mx, .int .i64 f.every, .int .i64 f.frm, .int .i64 f.old, .int .i64 f.count], .int .i64 v] w fun e w' => e = .returned (.bool true) ∧ Below w.heap.size w w' := by
  obtain ⟨kind, mask, x, mn, mx, every, frm, old, count⟩ := f
  dsimp only at *
  have q0 : Below w.heap.size w (w.alloc (.cells #[.int .i64 kind, .int .i64 mask, .int .i64 x, .int .i64 mn, .int .i64 mx, .int .i64 every, .int .i64 frm, .int .i64 old, .int .i64 count] 29)) := (Below.refl _ _).alloc (Nat.le_refl _) _
  go_enter Tryz.func110, Tryz.ntmps110
  go_wp2_with fail
  go_ret
  exact ⟨rfl, q0⟩
set_option maxRecDepth 100000 in
theorem fkNew_any (f : Flt) (v : Int) (w : World) : Calls Tryz.prog 111 #[.agg #[.int .i64 f.kind, .int .i64 f.mask, .int .i64 f.x, .int .i64 f.mn, .int .i64 f.mx, .int .i64 f.every, .int .i64 f.frm, .int .i64 f.old, .int .i64 f.count], .int .i64 v] w fun e w' => e = .returned (.bool (newF f v)) ∧ Below w.heap.size w w' := by
  have E := hide (show newF f v = (bits .and .i64 (bits .xor .i64 v f.old) f.mask != 0) from rfl)
  rw [E.out]
  obtain ⟨kind, mask, x, mn, mx, every, frm, old, count⟩ := f
  dsimp only at *
  have q0 : Below w.heap.size w (w.alloc (.cells #[.int .i64 kind, .int .i64 mask, .int .i64 x, .int .i64 mn, .int .i64 mx, .int .i64 every, .int .i64 frm, .int .i64 old, .int .i64 count] 29)) := (Below.refl _ _).alloc (Nat.le_refl _) _
  go_enter Tryz.func111, Tryz.ntmps111
  go_wp2_with fail
  go_ret
  exact ⟨rfl, q0⟩
set_option maxRecDepth 100000 in
theorem fkEvery_any (f : Flt) (v : Int) (w : World) (h : 1 ≤ f.every) (h2 : f.every ≤ 1000000) (h0 : 0 ≤ f.count) : Calls Tryz.prog 112 #[.agg #[.int .i64 f.kind, .int .i64 f.mask, .int .i64 f.x, .int .i64 f.mn, .int .i64 f.mx, .int .i64 f.every, .int .i64 f.frm, .int .i64 f.old, .int .i64 f.count], .int .i64 v] w fun e w' => e = .returned (.bool (evF f)) ∧ Below w.heap.size w w' := by
  have E := hide (show evF f = (f.count.tmod f.every == f.frm) from rfl)
  rw [E.out]
  obtain ⟨kind, mask, x, mn, mx, every, frm, old, count⟩ := f
  dsimp only at *
  have q0 : Below w.heap.size w (w.alloc (.cells #[.int .i64 kind, .int .i64 mask, .int .i64 x, .int .i64 mn, .int .i64 mx, .int .i64 every, .int .i64 frm, .int .i64 old, .int .i64 count] 29)) := (Below.refl _ _).alloc (Nat.le_refl _) _
  have B0 := hide (World.alloc_heap_new w (.cells #[.int .i64 kind, .int .i64 mask, .int .i64 x, .int .i64 mn, .int .i64 mx, .int .i64 every, .int .i64 frm, .int .i64 old, .int .i64 count] 29))
  generalize hw0 : w.alloc (.cells #[.int .i64 kind, .int .i64 mask, .int .i64 x, .int .i64 mn, .int .i64 mx, .int .i64 every, .int .i64 frm, .int .i64 old, .int .i64 count] 29) = w0 at *
  have z0 : w.heap.size < w0.heap.size := heap_lt B0.out
  have hz : (every == 0) = false := by rw [beq_eq_false_iff_ne]; omega
  have hwr : IntKind.i64.wrap (count.tmod every) = count.tmod every := by
    have e := Int.tmod_eq_emod_of_nonneg (b := every) h0
    have b1 := Int.emod_nonneg count (show every ≠ 0 by omega)
    have b2 := Int.emod_lt_of_pos count (show 0 < every by omega)
    rw [e]
    exact IntWalk.i64_in _ (by omega)
  clear h2 h0
  go_enter Tryz.func112, Tryz.ntmps112
  go_wp2_with fail
  obtain ⟨c0, c1, c2, c3, c4, c5, c6, c7, c8⟩ := fl_cells (f := ⟨kind, mask, x, mn, mx, every, frm, old, count⟩) B0.out
  dsimp only at c0 c1 c2 c3 c4 c5 c6 c7 c8
  have f5 := fun s : InW w0 => s.cell z0 c5
  have f6 := fun s : InW w0 => s.cell z0 c6
  have f8 := fun s : InW w0 => s.cell z0 c8
  refine wp_region_tame (by kernel_rfl) (by kernel_rfl) ?_
  repeat (go_big_quiet_step (fail))
  refine wpQuiet_nil ?_
  rintro _ ⟨sw, rfl⟩
  have Q := hide (below_next q0 q0.size sw.h)
  clear f5 f6 f8 c0 c1 c2 c3 c4 c5 c6 c7 c8
  go_wp2_with fail
  go_ret
  exact ⟨rfl, Q.out⟩
set_option maxRecDepth 100000 in
theorem fkNot_any (f : Flt) (v : Int) (p : Bool) (b fid : Nat) (w : World) (hp : ∀ (args : Array Value) (w : World), (callFunc fid args).run Tryz.prog w = .ok (.enter fid args) w) (hb : w.cell? ⟨b, 0, none⟩ = some (.func (.func fid) #[] #[])) (hbl : b < w.heap.size)
    (hc : Hid (∀ w', Below w.heap.size w w' → Calls Tryz.prog fid #[.agg #[.int .i64 f.kind, .int .i64 f.mask, .int .i64 f.x, .int .i64 f.mn, .int .i64 f.mx, .int .i64 f.every, .int .i64 f.frm, .int .i64 f.old, .int .i64 f.count], .int .i64 v] w' fun e w'' => e = .returned (.bool p) ∧ Below w'.heap.size w' w'')) :
    Calls Tryz.prog 109 #[.agg #[.int .i64 f.kind, .int .i64 f.mask, .int .i64 f.x, .int .i64 f.mn, .int .i64 f.mx, .int .i64 f.every, .int .i64 f.frm, .int .i64 f.old, .int .i64 f.count], .int .i64 v, .pointer (some ⟨b, 0, none⟩)] w fun e w' => e = .returned (.bool (!p)) ∧ Below w.heap.size w w' := by
  obtain ⟨kind, mask, x, mn, mx, every, frm, old, count⟩ := f
  dsimp only at *
  have q0 : Below w.heap.size w (w.alloc (.cells #[.int .i64 kind, .int .i64 mask, .int .i64 x, .int .i64 mn, .int .i64 mx, .int .i64 every, .int .i64 frm, .int .i64 old, .int .i64 count] 29)) := (Below.refl _ _).alloc (Nat.le_refl _) _
  have c := cellBelow q0 hbl hb
  have C := hide (hc.out _ q0)
  clear hc hb
  go_enter Tryz.func109, Tryz.ntmps109
  go_wp2_with fail
  (with_reducible refine (C.out).mono ?_)
  rintro e1 w1 ⟨rfl, q1⟩
  have Q := hide (below_next q0 q0.size q1)
  clear q0 q1 C c
  go_wp2_with fail
  go_ret
  exact ⟨rfl, Q.out⟩

/-- What kinds answers, of a world: 0 none, 1 .. 8. -/
def kindsV (b1 b2 b3 : Nat) : Array Value := #[.nilFunc, .func (.func 110) #[] #[], .func (.func 109) #[] #[.pointer (some ⟨b1, 0, none⟩)], .func (.func 107) #[] #[], .func (.func 109) #[] #[.pointer (some ⟨b2, 0, none⟩)], .func (.func 111) #[] #[], .func (.func 106) #[] #[], .func (.func 109) #[] #[.pointer (some ⟨b3, 0, none⟩)], .func (.func 112) #[] #[]]

set_option maxRecDepth 100000 in
set_option maxHeartbeats 4000000 in
theorem fkNotOf_any (fid : Nat) (w : World) : Calls Tryz.prog 108 #[.func (.func fid) #[] #[]] w fun e w' => ∃ t, e = .returned (.func (.func 109) #[] #[.pointer (some ⟨w.heap.size, 0, none⟩)]) ∧ w' = w.alloc (.cells #[.func (.func fid) #[] #[]] t) := by
  go_enter Tryz.func108, Tryz.ntmps108
  go_wp2_with fail
  go_ret
  exact ⟨_, rfl, rfl⟩

set_option maxRecDepth 100000 in
set_option maxHeartbeats 4000000 in
theorem kinds_any (w : World) : Calls Tryz.prog 89 #[] w fun e w' => ∃ b1 b2 b3, e = .returned (.agg (kindsV b1 b2 b3)) ∧ b1 < w'.heap.size ∧ b2 < w'.heap.size ∧ b3 < w'.heap.size ∧ w'.cell? ⟨b1, 0, none⟩ = some (.func (.func 110) #[] #[]) ∧ w'.cell? ⟨b2, 0, none⟩ = some (.func (.func 107) #[] #[]) ∧ w'.cell? ⟨b3, 0, none⟩ = some (.func (.func 106) #[] #[]) ∧ Below w.heap.size w w' := by
  have NT := hide (fun fid W => fkNotOf_any fid W)
  go_enter Tryz.func89, Tryz.ntmps89
  go_wp2_with fail
  obtain ⟨w0, hw0⟩ : ∃ w0, w0 = w.alloc (.cells #[.nilFunc, .nilFunc, .nilFunc, .nilFunc, .nilFunc, .nilFunc, .nilFunc, .nilFunc, .nilFunc] 146) := ⟨_, rfl⟩
  have q0 : Below w.heap.size w w0 := by rw [hw0]; exact (Below.refl _ _).alloc (Nat.le_refl _) _
  have B0 : Hid (w0.heap[w.heap.size]? = some (.cells #[.nilFunc, .nilFunc, .nilFunc, .nilFunc, .nilFunc, .nilFunc, .nilFunc, .nilFunc, .nilFunc] 146 (0, 0))) := by rw [hw0]; exact hide (World.alloc_heap_new w _)
  rw [← hw0]
  clear hw0
  have step : ∀ (W : World) (o : Obj), Below W.heap.size W (W.alloc o) := fun W o => (Below.refl _ _).alloc (Nat.le_refl _) _
  (with_reducible refine (NT.out _ _).mono ?_)
  rintro e1 w1 ⟨t1, rfl, hw1⟩
  have q1 : Below w0.heap.size w0 w1 := by rw [hw1]; exact step _ _
  have A1 : w1.heap[w0.heap.size]? = some (.cells #[.func (.func 110) #[] #[]] t1 (0, 0)) := by rw [hw1]; exact World.alloc_heap_new _ _
  clear hw1
  go_wp2_with fail
  (with_reducible refine (NT.out _ _).mono ?_)
  rintro e2 w2 ⟨t2, rfl, hw2⟩
  have q2 : Below w1.heap.size w1 w2 := by rw [hw2]; exact step _ _
  have A2 : w2.heap[w1.heap.size]? = some (.cells #[.func (.func 107) #[] #[]] t2 (0, 0)) := by rw [hw2]; exact World.alloc_heap_new _ _
  clear hw2
  go_wp2_with fail
  (with_reducible refine (NT.out _ _).mono ?_)
  rintro e3 w3 ⟨t3, rfl, hw3⟩
  have q3 : Below w2.heap.size w2 w3 := by rw [hw3]; exact step _ _
  have A3 : w3.heap[w2.heap.size]? = some (.cells #[.func (.func 106) #[] #[]] t3 (0, 0)) := by rw [hw3]; exact World.alloc_heap_new _ _
  clear hw3 step
  have B3 := hide (heap_below (heap_below (heap_below B0.out q1) q2) q3)
  have A13 := hide (heap_below (heap_below A1 q2) q3)
  have A23 := hide (heap_below A2 q3)
  have A33 := hide A3
  have z1 := heap_lt A1
  have z2 := heap_lt A2
  have z3 := heap_lt A3
  have z0 : w.heap.size < w0.heap.size := heap_lt B0.out
  have y1 := q1.size
  have y2 := q2.size
  have y3 := q3.size
  have Q3 := hide (below_next (below_next (below_next q0 q0.size q1) (below_next q0 q0.size q1).size q2) (below_next (below_next q0 q0.size q1) (below_next q0 q0.size q1).size q2).size q3)
  clear q0 q1 q2 q3 A1 A2 A3 B0
  have th := hide (show w3.there w.heap.size 0 9 from there_heap (cs := [_, _, _, _, _, _, _, _, _]) B3.out)
  go_wp2_with (refine wpList_store_hid (by rfl) 146 (.tmp 0) (.tmp 17) (by rfl) w.heap.size 0 (kindsV w0.heap.size w1.heap.size w2.heap.size).toList (by rfl) (by rfl) (by exact th.out) (by kernel_rfl) (by unfold kindsV; simp [Value.oneCell']) ?_)
  intro w4 e4
  have B4 : w4.heap[w.heap.size]? = some (.cells (kindsV w0.heap.size w1.heap.size w2.heap.size) 146 (0, 0)) := by rw [e4.out]; exact whole_heap (kindsV w0.heap.size w1.heap.size w2.heap.size).toList (xs := [_, _, _, _, _, _, _, _, _]) B3.out rfl
  have Q4 := hide (show Below w.heap.size w w4 by rw [e4.out]; exact Q3.out.trans (below_setCells (g := w.heap.size) _ 0 _ (Nat.le_refl _)))
  have y4 : w3.heap.size = w4.heap.size := by rw [e4.out, setCells_size]
  have D1 : w4.cell? ⟨w0.heap.size, 0, none⟩ = some (.func (.func 110) #[] #[]) := by rw [e4.out, setCells_far (by omega)]; simp [World.cell?, A13.out]
  have D2 : w4.cell? ⟨w1.heap.size, 0, none⟩ = some (.func (.func 107) #[] #[]) := by rw [e4.out, setCells_far (by omega)]; simp [World.cell?, A23.out]
  have D3 : w4.cell? ⟨w2.heap.size, 0, none⟩ = some (.func (.func 106) #[] #[]) := by rw [e4.out, setCells_far (by omega)]; simp [World.cell?, A33.out]
  clear e4 th B3 A13 A23 A33 Q3
  go_wp2_with fail
  have R : ∀ i (hi : i < 9), w4.cell? ⟨w.heap.size, i, none⟩ = (kindsV w0.heap.size w1.heap.size w2.heap.size)[i]? := fun i hi => by simp [World.cell?, B4]
  have r0 := R 0 (by decide)
  have r1 := R 1 (by decide)
  have r2 := R 2 (by decide)
  have r3 := R 3 (by decide)
  have r4 := R 4 (by decide)
  have r5 := R 5 (by decide)
  have r6 := R 6 (by decide)
  have r7 := R 7 (by decide)
  have r8 := R 8 (by decide)
  simp only [kindsV] at r0 r1 r2 r3 r4 r5 r6 r7 r8
  refine bodyPost_ret (v := .agg (kindsV w0.heap.size w1.heap.size w2.heap.size)) (by simp [kindsV, results, Tryz.results89, go_sem, r0, r1, r2, r3, r4, r5, r6, r7, r8]) rfl ⟨_, _, _, rfl, by omega, by omega, by omega, D1, D2, D3, Q4.out⟩

/-- The one of f's kind. -/
theorem kindsV_at (f : Flt) (v : Int) (hr : fltB f = true) (b1 b2 b3 : Nat) (w : World) (h1 : b1 < w.heap.size) (h2 : b2 < w.heap.size) (h3 : b3 < w.heap.size) (c1 : w.cell? ⟨b1, 0, none⟩ = some (.func (.func 110) #[] #[])) (c2 : w.cell? ⟨b2, 0, none⟩ = some (.func (.func 107) #[] #[])) (c3 : w.cell? ⟨b3, 0, none⟩ = some (.func (.func 106) #[] #[])) :
    ∃ fid lb, (kindsV b1 b2 b3)[f.kind.toNat]? = some (.func (.func fid) #[] lb) ∧ (∀ (args : Array Value) (W : World), (callFunc fid args).run Tryz.prog W = .ok (.enter fid args) W) ∧
      ∀ W, Below w.heap.size w W → Calls Tryz.prog fid (#[.agg #[.int .i64 f.kind, .int .i64 f.mask, .int .i64 f.x, .int .i64 f.mn, .int .i64 f.mx, .int .i64 f.every, .int .i64 f.frm, .int .i64 f.old, .int .i64 f.count], .int .i64 v] ++ lb) W fun e w'' => e = .returned (.bool (fltP f v)) ∧ Below W.heap.size W w'' := by
  have hf := fltB_iff.1 hr
  have hk : f.kind = 1 ∨ f.kind = 2 ∨ f.kind = 3 ∨ f.kind = 4 ∨ f.kind = 5 ∨ f.kind = 6 ∨ f.kind = 7 ∨ f.kind = 8 := by omega
  rcases hk with hk | hk | hk | hk | hk | hk | hk | hk
  · refine ⟨110, #[], by rw [hk]; rfl, fun args W => by kernel_rfl, fun W hb => ?_⟩
    rw [show fltP f v = true by unfold fltP; simp [hk]]
    exact fkAlways_any f v W
  · refine ⟨109, #[.pointer (some ⟨b1, 0, none⟩)], by rw [hk]; rfl, fun args W => by kernel_rfl, fun W hb => ?_⟩
    rw [show fltP f v = !true by unfold fltP; simp [hk]]
    exact fkNot_any f v true b1 _ W (fun args W => by kernel_rfl) (cellBelow hb h1 c1) (Nat.lt_of_lt_of_le h1 hb.size) (hide fun w' _ => fkAlways_any f v w')
  · refine ⟨107, #[], by rw [hk]; rfl, fun args W => by kernel_rfl, fun W hb => ?_⟩
    rw [show fltP f v = eqF f v by unfold fltP; simp [hk]]
    exact fkEqual_any f v W
  · refine ⟨109, #[.pointer (some ⟨b2, 0, none⟩)], by rw [hk]; rfl, fun args W => by kernel_rfl, fun W hb => ?_⟩
    rw [show fltP f v = !eqF f v by unfold fltP; simp [hk]]
    exact fkNot_any f v (eqF f v) b2 _ W (fun args W => by kernel_rfl) (cellBelow hb h2 c2) (Nat.lt_of_lt_of_le h2 hb.size) (hide fun w' _ => fkEqual_any f v w')
  · refine ⟨111, #[], by rw [hk]; rfl, fun args W => by kernel_rfl, fun W hb => ?_⟩
    rw [show fltP f v = newF f v by unfold fltP; simp [hk]]
    exact fkNew_any f v W
  · refine ⟨106, #[], by rw [hk]; rfl, fun args W => by kernel_rfl, fun W hb => ?_⟩
    rw [show fltP f v = inF f v by unfold fltP; simp [hk]]
    exact fkWithin_any f v W
  · refine ⟨109, #[.pointer (some ⟨b3, 0, none⟩)], by rw [hk]; rfl, fun args W => by kernel_rfl, fun W hb => ?_⟩
    rw [show fltP f v = !inF f v by unfold fltP; simp [hk]]
    exact fkNot_any f v (inF f v) b3 _ W (fun args W => by kernel_rfl) (cellBelow hb h3 c3) (Nat.lt_of_lt_of_le h3 hb.size) (hide fun w' _ => fkWithin_any f v w')
  · refine ⟨112, #[], by rw [hk]; rfl, fun args W => by kernel_rfl, fun W hb => ?_⟩
    rw [show fltP f v = evF f by unfold fltP; simp [hk]]
    exact fkEvery_any f v W (by have := hf.2.2.2.2.2 hk; omega) (by have := hf.2.2.2.2.2 hk; omega) (by omega)
end Go.Proofs.YtnhegnneohpkaaaGreat
