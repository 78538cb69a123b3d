/- Walks of filter.Passes, Step. -/
import Derived.Test.YtnhegnneohpkaaaGreatFlA
namespace Go.Proofs.YtnhegnneohpkaaaGreat
open Go.ChangeShapes Go.WideShapes Go.ChangeAt Go.RowKit
open CM

/-- 'a[i]' of a row of functions by value. -/
theorem run_index_kinds (W : World) (cs : Array Value) (k : Nat) (v : Value) (hk : k < 9) (h : cs[k]? = some v) : (Instr.index 146 (.agg cs) (.int .i64 k)).run Tryz.prog W = .ok v W := by
  have hi : (0 : Int) ≤ k ∧ (k : Int) < (9 : Nat) := by omega
  have e := Tryz.underlying146
  simp [Instr.index, run_underlying e, asIntOf, hi, go_sem, h]
  intro h9
  omega

set_option maxRecDepth 100000 in
set_option maxHeartbeats 4000000 in
theorem passes_ok (f : Flt) (v : Int) (w : World) (hr : fltB f = true) :
    Calls Tryz.prog 59 #[.agg #[.int .i64 f.kind, .int .i64 f.mask, .int .i64 f.x, .int .i64 f.mn, .int .i64 f.mx, .int .i64 f.every, .int .i64 f.frm, .int .i64 f.old, .int .i64 f.count], .int .i64 v] w fun e w' => e = .returned (.tuple #[.bool (fltP f v), .int .i64 0]) ∧ Below w.heap.size w w' := by
  have RT := hide (fun W => fltRight_any f W)
  rw [hr] at RT
  have KA := hide (fun b1 b2 b3 (W : World) h1 h2 h3 c1 c2 c3 => kindsV_at f v hr b1 b2 b3 W h1 h2 h3 c1 c2 c3)
  obtain ⟨k, hk⟩ : ∃ k : Nat, f.kind = k := ⟨f.kind.toNat, by have := fltB_iff.1 hr; omega⟩
  have hk9 : k < 9 := by have := fltB_iff.1 hr; omega
  have hkt : f.kind.toNat = k := by omega
  rw [hkt] at KA
  clear hr hkt
  generalize fltP f v = r at *
  obtain ⟨kind, mask, x, mn, mx, every, frm, old, count⟩ := f
  dsimp only at *
  subst hk
  have q0 : Below w.heap.size w (w.alloc (.cells #[.int .i64 k, .int .i64 mask, .int .i64 x, .int .i64 mn, .int .i64 mx, .int .i64 every, .int .i64 frm, .int .i64 old, .int .i64 count] 29)) := (Below.refl _ _).alloc (Nat.le_refl _) _
  have B0 := hide (World.alloc_heap_new w (.cells #[.int .i64 k, .int .i64 mask, .int .i64 x, .int .i64 mn, .int .i64 mx, .int .i64 every, .int .i64 frm, .int .i64 old, .int .i64 count] 29))
  have Q0 := hide q0
  clear q0
  generalize hw0 : w.alloc (.cells #[.int .i64 k, .int .i64 mask, .int .i64 x, .int .i64 mn, .int .i64 mx, .int .i64 every, .int .i64 frm, .int .i64 old, .int .i64 count] 29) = w0 at *
  obtain ⟨c0, c1, c2, c3, c4, c5, c6, c7, c8⟩ := fl_cells (f := ⟨k, mask, x, mn, mx, every, frm, old, count⟩) B0.out
  dsimp only at c0 c1 c2 c3 c4 c5 c6 c7 c8
  go_enter Tryz.func59, Tryz.ntmps59
  go_wp2_with fail
  (with_reducible refine (RT.out _).mono ?_)
  rintro e1 w1 ⟨rfl, q1⟩
  have Q1 := hide (below_next Q0.out Q0.out.size q1)
  have B1 := hide (heap_below B0.out q1)
  clear q1 c0 c1 c2 c3 c4 c5 c6 c7 c8 hw0 B0 Q0 RT
  go_wp2_with fail
  refine wp_region_L [1, 2, 4, 5] [(2, fun W => W.heap[w.heap.size]? = some (.cells #[.int .i64 k, .int .i64 mask, .int .i64 x, .int .i64 mn, .int .i64 mx, .int .i64 every, .int .i64 frm, .int .i64 old, .int .i64 count] 29 (0, 0))), (4, fun W => W.heap[w.heap.size]? = some (.cells #[.int .i64 k, .int .i64 mask, .int .i64 x, .int .i64 mn, .int .i64 mx, .int .i64 every, .int .i64 frm, .int .i64 old, .int .i64 count] 29 (0, 0)))] (by kernel_rfl) ?_
  replace B1 : Hid (w1.drew.heap[w.heap.size]? = _) := B1
  replace Q1 : Hid (Below w.heap.size w w1.drew) := hide Q1.out.drew
  generalize w1.drew = wx at *
  refine wpAnyL_pure (i := 1) (v := .pointer (some ⟨w.heap.size, 0, none⟩)) rfl rfl (by kernel_rfl) (by kernel_rfl) (by kernel_rfl) (by kernel_rfl) (by kernel_rfl) (fun _ _ _ h => h) rfl (fun W => by go_simp) ?_
  go_simp
  refine wpAnyL_load (i := 2) (v := .int .i64 k) rfl rfl (by kernel_rfl) (by kernel_rfl) (by kernel_rfl) (by kernel_rfl) (by kernel_rfl) (fun _ _ _ h => h) rfl (fun W h => by (obtain ⟨c0, _⟩ := fl_cells (f := ⟨k, mask, x, mn, mx, every, frm, old, count⟩) h; clear h; dsimp only at c0; go_simp)) (B1.out) ?_
  go_simp
  refine wpAnyL_load (i := 4) (v := .agg #[.int .i64 k, .int .i64 mask, .int .i64 x, .int .i64 mn, .int .i64 mx, .int .i64 every, .int .i64 frm, .int .i64 old, .int .i64 count]) rfl rfl (by kernel_rfl) (by kernel_rfl) (by kernel_rfl) (by kernel_rfl) (by kernel_rfl) (fun _ _ _ h => h) rfl (fun W h => by (obtain ⟨c0, c1, c2, c3, c4, c5, c6, c7, c8⟩ := fl_cells (f := ⟨k, mask, x, mn, mx, every, frm, old, count⟩) h; clear h; dsimp only at c0 c1 c2 c3 c4 c5 c6 c7 c8; go_simp)) (B1.out) ?_
  go_simp
  refine wpAnyL_pure (i := 5) (v := .int .i64 v) rfl rfl (by kernel_rfl) (by kernel_rfl) (by kernel_rfl) (by kernel_rfl) (by kernel_rfl) (fun _ _ _ h => h) rfl (fun W => by go_simp) ?_
  go_simp
  refine wpAnyL_one (i := 0) (by kernel_rfl) ?_
  refine wpOp_do rfl rfl ?_
  go_simp
  (with_reducible refine (kinds_any _).mono ?_)
  rintro e2 w2 ⟨b1, b2, b3, rfl, h1, h2, h3, d1, d2, d3, q2⟩
  have B2 := hide (heap_below B1.out q2)
  have Q2 := hide (below_next Q1.out Q1.out.size q2)
  obtain ⟨fid, lb, hat, hcf, hcall⟩ := KA.out b1 b2 b3 w2 h1 h2 h3 d1 d2 d3
  have CALL := hide hcall
  have HAT := hide hat
  clear q2 hcall hat KA h1 h2 h3 d1 d2 d3
  generalize hkv : kindsV b1 b2 b3 = kv at *
  have hkz : kv.size = 9 := by rw [← hkv]; rfl
  clear hkv
  go_simp
  refine ⟨keepsL_mk (by kernel_rfl) (.cons B2.out (.cons B2.out .nil)), ?_⟩
  go_simp
  have IX := fun W => run_index_kinds W kv k _ hk9 HAT.out
  refine wpAnyL_one (i := 3) (by kernel_rfl) ?_
  refine wpOp_do rfl rfl ?_
  go_simp
  refine ⟨keepsL_mk (by kernel_rfl) (.past (by kernel_rfl) (.cons B2.out .nil)), ?_⟩
  clear IX HAT
  go_simp
  have C := hide (CALL.out _ (Below.refl _ _))
  clear CALL
  refine wpAnyL_one (i := 6) (by kernel_rfl) ?_
  refine wpOp_do rfl rfl ?_
  go_simp
  (with_reducible refine (C.out).mono ?_)
  rintro e3 w3 ⟨rfl, q3⟩
  have B3 := hide (heap_below B2.out q3)
  have Q3 := hide (below_next Q2.out Q2.out.size q3)
  go_simp
  refine ⟨keepsL_mk (by kernel_rfl) (.past (by kernel_rfl) (.past (by kernel_rfl) .nil)), ?_⟩
  clear q3 C B2 Q2
  go_simp
  refine wpAnyL_one (i := 7) (by kernel_rfl) ?_
  refine wpOp_do rfl rfl ?_
  go_simp
  refine ⟨keepsL_all (by kernel_rfl) (by kernel_rfl), ?_⟩
  go_simp
  refine wpAnyL_one (i := 8) (by kernel_rfl) ?_
  refine wpOp_do rfl rfl ?_
  go_simp
  refine ⟨keepsL_all (by kernel_rfl) (by kernel_rfl), ?_⟩
  refine wpAnyL_done (by kernel_rfl) ?_ _
  go_wp2_with fail
  refine bodyPost_ret (v := .tuple #[.bool r, .int .i64 0]) (by simp [results, Tryz.results59, go_sem]) rfl ⟨rfl, Q3.out⟩

set_option maxRecDepth 100000 in
theorem passes_bad (f : Flt) (v : Int) (w : World) (hr : fltB f = false) :
    Calls Tryz.prog 59 #[.agg #[.int .i64 f.kind, .int .i64 f.mask, .int .i64 f.x, .int .i64 f.mn, .int .i64 f.mx, .int .i64 f.every, .int .i64 f.frm, .int .i64 f.old, .int .i64 f.count], .int .i64 v] w fun e w' => e = .returned (.tuple #[.bool false, .int .i64 1]) ∧ Below w.heap.size w w' := by
  have RT := hide (fun W => fltRight_any f W)
  rw [hr] at RT
  clear hr
  obtain ⟨kind, mask, x, mn, mx, every, frm, old, count⟩ := f
  dsimp only at *
  have q0 : Below w.heap.size w (w.alloc (.cells #[.int .i64 kind, .int .i64 mask, .int .i64 x, .int .i64 mn, .int .i64 mx, .int .i64 every, .int .i64 frm, .int .i64 old, .int .i64 count] 29)) := (Below.refl _ _).alloc (Nat.le_refl _) _
  go_enter Tryz.func59, Tryz.ntmps59
  go_wp2_with fail
  (with_reducible refine (RT.out _).mono ?_)
  rintro e1 w1 ⟨rfl, q1⟩
  have Q := hide (below_next q0 q0.size q1)
  clear q0 q1 RT
  go_wp2_with fail
  refine bodyPost_ret (v := .tuple #[.bool false, .int .i64 1]) (by simp [results, Tryz.results59, go_sem]) rfl ⟨rfl, Q.out⟩
end Go.Proofs.YtnhegnneohpkaaaGreat

/- Walks of package send: within, periodic, direct, way, Right, New. -/
namespace Go.Proofs.YtnhegnneohpkaaaGreat
open Go.ChangeShapes Go.WideShapes Go.ChangeAt Go.RowKit
open CM

def inI (n a b : Int) : Bool := decide (a ≤ n ∧ n ≤ b)
set_option maxRecDepth 100000 in
theorem sndWithin_any (n a b : Int) (w : World) : Calls Tryz.prog 56 #[.int .i64 n, .int .i64 a, .int .i64 b] w fun e w' => e = .returned (.bool (inI n a b)) ∧ w = w' := by
  obtain ⟨r, hr⟩ : ∃ r, r = inI n a b := ⟨_, rfl⟩
  have HR := hide (show r = true ↔ a ≤ n ∧ n ≤ b from by rw [hr]; unfold inI; simp)
  rw [← hr]
  clear hr
  go_enter Tryz.func56, Tryz.ntmps56
  go_wp2_with fail
  all_goals go_ret
  all_goals refine ⟨ret_bool ?_, rfl⟩
  all_goals (first | exact r_true HR.out (by omega) | exact r_false HR.out (by omega) | exact r_dec HR.out (by omega))
theorem wy_cells {W : World} {B : Nat} {f : Wy} {t : TypeId} {fz : Nat × Nat} (h : W.heap[B]? = some (.cells #[.int .i64 f.kind, .int .i64 f.first, .int .i64 f.period, .int .i64 f.reps, .int .i64 f.gap] t fz)) :
    W.cell? ⟨B, 0, none⟩ = some (.int .i64 f.kind) ∧ W.cell? ⟨B, 1, none⟩ = some (.int .i64 f.first) ∧ W.cell? ⟨B, 2, none⟩ = some (.int .i64 f.period) ∧ W.cell? ⟨B, 3, none⟩ = some (.int .i64 f.reps) ∧ W.cell? ⟨B, 4, none⟩ = some (.int .i64 f.gap) := by
  simp [World.cell?, h]
set_option maxRecDepth 100000 in
theorem periodic_any (f : Wy) (w : World) : Calls Tryz.prog 88 #[.agg #[.int .i64 f.kind, .int .i64 f.first, .int .i64 f.period, .int .i64 f.reps, .int .i64 f.gap]] w fun e w' => e = .returned (.bool (perB f)) ∧ Below w.heap.size w w' := by
  obtain ⟨r, hr⟩ : ∃ r, r = perB f := ⟨_, rfl⟩
  have HR := hide (show r = true ↔ f.kind = 2 ∨ f.kind = 3 from by rw [hr]; unfold perB; simp)
  rw [← hr]
  clear hr
  obtain ⟨kind, first, period, reps, gap⟩ := f
  dsimp only at *
  have q0 : Below w.heap.size w (w.alloc (.cells #[.int .i64 kind, .int .i64 first, .int .i64 period, .int .i64 reps, .int .i64 gap] 32)) := (Below.refl _ _).alloc (Nat.le_refl _) _
  by_cases h2 : kind = 2
  · have e1 : (kind == 2) = true := by rw [beq_iff_eq]; exact h2
    have H := hide h2
    clear h2
    go_enter Tryz.func88, Tryz.ntmps88
    go_wp2_with fail
    all_goals have h8 := H.out
    all_goals go_ret
    all_goals refine ⟨ret_bool ?_, q0⟩
    all_goals (first | exact r_true HR.out (by omega) | exact r_false HR.out (by omega) | exact r_dec HR.out (by omega))
  · have e1 : (kind == 2) = false := by rw [beq_eq_false_iff_ne]; exact h2
    by_cases h3 : kind = 3
    · have e3 : (kind == 3) = true := by rw [beq_iff_eq]; exact h3
      have H := hide h3
      clear h2 h3
      go_enter Tryz.func88, Tryz.ntmps88
      go_wp2_with fail
      all_goals have h8 := H.out
      all_goals go_ret
      all_goals refine ⟨ret_bool ?_, q0⟩
      all_goals (first | exact r_true HR.out (by omega) | exact r_false HR.out (by omega) | exact r_dec HR.out (by omega))
    · have e3 : (kind == 3) = false := by rw [beq_eq_false_iff_ne]; exact h3
      have H := hide (And.intro h2 h3)
      clear h2 h3
      go_enter Tryz.func88, Tryz.ntmps88
      go_wp2_with fail
      all_goals have h8 := H.out
      all_goals go_ret
      all_goals refine ⟨ret_bool ?_, q0⟩
      all_goals (first | exact r_true HR.out (by omega) | exact r_false HR.out (by omega) | exact r_dec HR.out (by omega))
set_option maxRecDepth 100000 in
theorem direct_any (f : Wy) (w : World) : Calls Tryz.prog 70 #[.agg #[.int .i64 f.kind, .int .i64 f.first, .int .i64 f.period, .int .i64 f.reps, .int .i64 f.gap]] w fun e w' => e = .returned (.bool (dirB f)) ∧ Below w.heap.size w w' := by
  obtain ⟨r, hr⟩ : ∃ r, r = dirB f := ⟨_, rfl⟩
  have HR := hide (show r = true ↔ f.kind = 1 ∨ f.kind = 3 from by rw [hr]; unfold dirB; simp)
  rw [← hr]
  clear hr
  obtain ⟨kind, first, period, reps, gap⟩ := f
  dsimp only at *
  have q0 : Below w.heap.size w (w.alloc (.cells #[.int .i64 kind, .int .i64 first, .int .i64 period, .int .i64 reps, .int .i64 gap] 32)) := (Below.refl _ _).alloc (Nat.le_refl _) _
  by_cases h2 : kind = 1
  · have e1 : (kind == 1) = true := by rw [beq_iff_eq]; exact h2
    have H := hide h2
    clear h2
    go_enter Tryz.func70, Tryz.ntmps70
    go_wp2_with fail
    all_goals have h8 := H.out
    all_goals go_ret
    all_goals refine ⟨ret_bool ?_, q0⟩
    all_goals (first | exact r_true HR.out (by omega) | exact r_false HR.out (by omega) | exact r_dec HR.out (by omega))
  · have e1 : (kind == 1) = false := by rw [beq_eq_false_iff_ne]; exact h2
    by_cases h3 : kind = 3
    · have e3 : (kind == 3) = true := by rw [beq_iff_eq]; exact h3
      have H := hide h3
      clear h2 h3
      go_enter Tryz.func70, Tryz.ntmps70
      go_wp2_with fail
      all_goals have h8 := H.out
      all_goals go_ret
      all_goals refine ⟨ret_bool ?_, q0⟩
      all_goals (first | exact r_true HR.out (by omega) | exact r_false HR.out (by omega) | exact r_dec HR.out (by omega))
    · have e3 : (kind == 3) = false := by rw [beq_eq_false_iff_ne]; exact h3
      have H := hide (And.intro h2 h3)
      clear h2 h3
      go_enter Tryz.func70, Tryz.ntmps70
      go_wp2_with fail
      all_goals have h8 := H.out
      all_goals go_ret
      all_goals refine ⟨ret_bool ?_, q0⟩
      all_goals (first | exact r_true HR.out (by omega) | exact r_false HR.out (by omega) | exact r_dec HR.out (by omega))

/-- The first of a chain of calls that fails. -/
theorem inI_true {n a b : Int} (h : inI n a b = true) : a ≤ n ∧ n ≤ b := by unfold inI at h; simpa using h
theorem inI_false {n a b : Int} (h : inI n a b = false) : ¬ (a ≤ n ∧ n ≤ b) := by unfold inI at h; simpa using h

set_option maxRecDepth 100000 in
set_option maxHeartbeats 4000000 in
theorem way_any (f : Wy) (w : World) : Calls Tryz.prog 55 #[.agg #[.int .i64 f.kind, .int .i64 f.first, .int .i64 f.period, .int .i64 f.reps, .int .i64 f.gap]] w fun e w' => e = .returned (.bool (wayB f)) ∧ Below w.heap.size w w' := by
  obtain ⟨r, hr⟩ : ∃ r, r = wayB f := ⟨_, rfl⟩
  have HR := hide (wayB_iff (w := f))
  rw [← hr] at HR ⊢
  clear hr
  have PR := hide (fun W => periodic_any f W)
  have PB := hide (show perB f = true ↔ f.kind = 2 ∨ f.kind = 3 from by unfold perB; simp)
  generalize perB f = pb at *
  obtain ⟨kind, first, period, reps, gap⟩ := f
  dsimp only at *
  have WI := hide sndWithin_any
  have q0 : Below w.heap.size w (w.alloc (.cells #[.int .i64 kind, .int .i64 first, .int .i64 period, .int .i64 reps, .int .i64 gap] 32)) := (Below.refl _ _).alloc (Nat.le_refl _) _
  have B0 := hide (World.alloc_heap_new w (.cells #[.int .i64 kind, .int .i64 first, .int .i64 period, .int .i64 reps, .int .i64 gap] 32))
  generalize hw0 : w.alloc (.cells #[.int .i64 kind, .int .i64 first, .int .i64 period, .int .i64 reps, .int .i64 gap] 32) = w0 at *
  obtain ⟨c0, c1, c2, c3, c4⟩ := wy_cells (f := ⟨kind, first, period, reps, gap⟩) B0.out
  dsimp only at c0 c1 c2 c3 c4
  go_enter Tryz.func55, Tryz.ntmps55
  go_wp2_with fail
  (with_reducible refine (WI.out _ _ _ _).mono ?_)
  rintro e1 w1 ⟨rfl, rfl⟩
  rcases h1 : inI kind 0 3 with _ | _
  · go_wp2_with fail
    have h := inI_false h1
    go_ret
    refine ⟨ret_bool ?_, q0⟩
    exact r_false HR.out (by omega)
  have H1 := hide (inI_true h1)
  go_wp2_with fail
  (with_reducible refine (WI.out _ _ _ _).mono ?_)
  rintro e1 w1 ⟨rfl, rfl⟩
  rcases h2 : inI first 0 1000000 with _ | _
  · go_wp2_with fail
    have h := inI_false h2
    go_ret
    refine ⟨ret_bool ?_, q0⟩
    exact r_false HR.out (by omega)
  have H2 := hide (inI_true h2)
  go_wp2_with fail
  (with_reducible refine (WI.out _ _ _ _).mono ?_)
  rintro e1 w1 ⟨rfl, rfl⟩
  rcases h3 : inI period 0 1000000 with _ | _
  · go_wp2_with fail
    have h := inI_false h3
    go_ret
    refine ⟨ret_bool ?_, q0⟩
    exact r_false HR.out (by omega)
  have H3 := hide (inI_true h3)
  go_wp2_with fail
  (with_reducible refine (WI.out _ _ _ _).mono ?_)
  rintro e1 w1 ⟨rfl, rfl⟩
  rcases h4 : inI reps 0 100 with _ | _
  · go_wp2_with fail
    have h := inI_false h4
    go_ret
    refine ⟨ret_bool ?_, q0⟩
    exact r_false HR.out (by omega)
  have H4 := hide (inI_true h4)
  go_wp2_with fail
  (with_reducible refine (WI.out _ _ _ _).mono ?_)
  rintro e1 w1 ⟨rfl, rfl⟩
  rcases h5 : inI gap 0 1000000 with _ | _
  · go_wp2_with fail
    have h := inI_false h5
    go_ret
    refine ⟨ret_bool ?_, q0⟩
    exact r_false HR.out (by omega)
  have H5 := hide (inI_true h5)
  clear h1 h2 h3 h4 h5 WI
  have PBH := hide PB.out
  go_wp2_with fail
  (with_reducible refine (PR.out _).mono ?_)
  rintro e1 w1 ⟨rfl, q1⟩
  have Q1 := hide (below_next q0 q0.size q1)
  have B1 := hide (heap_below B0.out q1)
  clear q0 q1 B0 hw0 c0 c1 c2 c3 c4 PR
  obtain ⟨c0, c1, c2, c3, c4⟩ := wy_cells (f := ⟨kind, first, period, reps, gap⟩) B1.out
  dsimp only at c0 c1 c2 c3 c4
  by_cases hre : reps = 0
  · have e1 : (reps == 0) = true := by rw [beq_iff_eq]; exact hre
    have HE := hide hre
    clear hre
    cases pb with
    | false =>
      have PBN := hide (show ¬ (kind = 2 ∨ kind = 3) from fun h => by have := PB.out.2 h; cases this)
      go_wp2_with fail
      all_goals have a1 := H1.out
      all_goals have a2 := H2.out
      all_goals have a3 := H3.out
      all_goals have a4 := H4.out
      all_goals have a5 := H5.out
      all_goals have a6 := HE.out
      all_goals have a7 := PBN.out
      all_goals go_ret
      all_goals refine ⟨ret_bool ?_, Q1.out⟩
      all_goals (first | exact r_true HR.out (by omega) | exact r_false HR.out (by omega) | exact r_dec HR.out (by omega))
    | true =>
      have PBN := hide (PB.out.1 rfl)
      go_wp2_with fail
      all_goals have a1 := H1.out
      all_goals have a2 := H2.out
      all_goals have a3 := H3.out
      all_goals have a4 := H4.out
      all_goals have a5 := H5.out
      all_goals have a6 := HE.out
      all_goals have a7 := PBN.out
      all_goals go_ret
      all_goals refine ⟨ret_bool ?_, Q1.out⟩
      all_goals (first | exact r_true HR.out (by omega) | exact r_false HR.out (by omega) | exact r_dec HR.out (by omega))
  · have e1 : (reps == 0) = false := by rw [beq_eq_false_iff_ne]; exact hre
    have HE := hide hre
    clear hre
    cases pb with
    | false =>
      have PBN := hide (show ¬ (kind = 2 ∨ kind = 3) from fun h => by have := PB.out.2 h; cases this)
      go_wp2_with fail
      all_goals have a1 := H1.out
      all_goals have a2 := H2.out
      all_goals have a3 := H3.out
      all_goals have a4 := H4.out
      all_goals have a5 := H5.out
      all_goals have a6 := HE.out
      all_goals have a7 := PBN.out
      all_goals go_ret
      all_goals refine ⟨ret_bool ?_, Q1.out⟩
      all_goals (first | exact r_true HR.out (by omega) | exact r_false HR.out (by omega) | exact r_dec HR.out (by omega))
    | true =>
      have PBN := hide (PB.out.1 rfl)
      go_wp2_with fail
      all_goals have a1 := H1.out
      all_goals have a2 := H2.out
      all_goals have a3 := H3.out
      all_goals have a4 := H4.out
      all_goals have a5 := H5.out
      all_goals have a6 := HE.out
      all_goals have a7 := PBN.out
      all_goals go_ret
      all_goals refine ⟨ret_bool ?_, Q1.out⟩
      all_goals (first | exact r_true HR.out (by omega) | exact r_false HR.out (by omega) | exact r_dec HR.out (by omega))
end Go.Proofs.YtnhegnneohpkaaaGreat
