/- Walks of package send: within, periodic, direct, way, Right, New. -/
import Derived.Test.YtplpnnjjjfcibaaFlB
namespace Go.Proofs.Ytplpnnjjjfcibaa
open Go.ChangeShapes Go.WideShapes Go.ChangeAt Go.RowKit
open CM

def inI (n a b : Int) : Bool := decide (a ≤ n ∧ n ≤ b)
set_option maxRecDepth 100000 in
theorem sndWithin_any (n a b : Int) (w : World) : Calls Try.prog 94 #[.int .i64 n, .int .i64 a, .int .i64 b] w fun e w' => e = .returned (.bool (inI n a b)) ∧ w = w' := by
  obtain ⟨r, hr⟩ : ∃ r, r = inI n a b := ⟨_, rfl⟩
  have HR := hide (show r = true ↔ a ≤ n ∧ n ≤ b from by rw [hr]; unfold inI; simp)
  rw [← hr]
  clear hr
  go_enter Try.func94, Try.ntmps94
  go_wp2_with fail
  all_goals go_ret
  all_goals refine ⟨ret_bool ?_, rfl⟩
  all_goals (first | exact r_true HR.out (by omega) | exact r_false HR.out (by omega) | exact r_dec HR.out (by omega))
theorem wy_cells {W : World} {B : Nat} {f : Wy} {t : TypeId} {fz : Nat × Nat} (h : W.heap[B]? = some (.cells #[.int .i64 f.kind, .int .i64 f.first, .int .i64 f.period, .int .i64 f.reps, .int .i64 f.gap] t fz)) :
    W.cell? ⟨B, 0, none⟩ = some (.int .i64 f.kind) ∧ W.cell? ⟨B, 1, none⟩ = some (.int .i64 f.first) ∧ W.cell? ⟨B, 2, none⟩ = some (.int .i64 f.period) ∧ W.cell? ⟨B, 3, none⟩ = some (.int .i64 f.reps) ∧ W.cell? ⟨B, 4, none⟩ = some (.int .i64 f.gap) := by
  simp [World.cell?, h]
set_option maxRecDepth 100000 in
theorem periodic_any (f : Wy) (w : World) : Calls Try.prog 96 #[.agg #[.int .i64 f.kind, .int .i64 f.first, .int .i64 f.period, .int .i64 f.reps, .int .i64 f.gap]] w fun e w' => e = .returned (.bool (perB f)) ∧ Below w.heap.size w w' := by
  obtain ⟨r, hr⟩ : ∃ r, r = perB f := ⟨_, rfl⟩
  have HR := hide (show r = true ↔ f.kind = 2 ∨ f.kind = 3 from by rw [hr]; unfold perB; simp)
  rw [← hr]
  clear hr
  obtain ⟨kind, first, period, reps, gap⟩ := f
  dsimp only at *
  have q0 : Below w.heap.size w (w.alloc (.cells #[.int .i64 kind, .int .i64 first, .int .i64 period, .int .i64 reps, .int .i64 gap] 65)) := (Below.refl _ _).alloc (Nat.le_refl _) _
  by_cases h2 : kind = 2
  · have e1 : (kind == 2) = true := by rw [beq_iff_eq]; exact h2
    have H := hide h2
    clear h2
    go_enter Try.func96, Try.ntmps96
    go_wp2_with fail
    all_goals have h8 := H.out
    all_goals go_ret
    all_goals refine ⟨ret_bool ?_, q0⟩
    all_goals (first | exact r_true HR.out (by omega) | exact r_false HR.out (by omega) | exact r_dec HR.out (by omega))
  · have e1 : (kind == 2) = false := by rw [beq_eq_false_iff_ne]; exact h2
    by_cases h3 : kind = 3
    · have e3 : (kind == 3) = true := by rw [beq_iff_eq]; exact h3
      have H := hide h3
      clear h2 h3
      go_enter Try.func96, Try.ntmps96
      go_wp2_with fail
      all_goals have h8 := H.out
      all_goals go_ret
      all_goals refine ⟨ret_bool ?_, q0⟩
      all_goals (first | exact r_true HR.out (by omega) | exact r_false HR.out (by omega) | exact r_dec HR.out (by omega))
    · have e3 : (kind == 3) = false := by rw [beq_eq_false_iff_ne]; exact h3
      have H := hide (And.intro h2 h3)
      clear h2 h3
      go_enter Try.func96, Try.ntmps96
      go_wp2_with fail
      all_goals have h8 := H.out
      all_goals go_ret
      all_goals refine ⟨ret_bool ?_, q0⟩
      all_goals (first | exact r_true HR.out (by omega) | exact r_false HR.out (by omega) | exact r_dec HR.out (by omega))
set_option maxRecDepth 100000 in
theorem direct_any (f : Wy) (w : World) : Calls Try.prog 97 #[.agg #[.int .i64 f.kind, .int .i64 f.first, .int .i64 f.period, .int .i64 f.reps, .int .i64 f.gap]] w fun e w' => e = .returned (.bool (dirB f)) ∧ Below w.heap.size w w' := by
  obtain ⟨r, hr⟩ : ∃ r, r = dirB f := ⟨_, rfl⟩
  have HR := hide (show r = true ↔ f.kind = 1 ∨ f.kind = 3 from by rw [hr]; unfold dirB; simp)
  rw [← hr]
  clear hr
  obtain ⟨kind, first, period, reps, gap⟩ := f
  dsimp only at *
  have q0 : Below w.heap.size w (w.alloc (.cells #[.int .i64 kind, .int .i64 first, .int .i64 period, .int .i64 reps, .int .i64 gap] 65)) := (Below.refl _ _).alloc (Nat.le_refl _) _
  by_cases h2 : kind = 1
  · have e1 : (kind == 1) = true := by rw [beq_iff_eq]; exact h2
    have H := hide h2
    clear h2
    go_enter Try.func97, Try.ntmps97
    go_wp2_with fail
    all_goals have h8 := H.out
    all_goals go_ret
    all_goals refine ⟨ret_bool ?_, q0⟩
    all_goals (first | exact r_true HR.out (by omega) | exact r_false HR.out (by omega) | exact r_dec HR.out (by omega))
  · have e1 : (kind == 1) = false := by rw [beq_eq_false_iff_ne]; exact h2
    by_cases h3 : kind = 3
    · have e3 : (kind == 3) = true := by rw [beq_iff_eq]; exact h3
      have H := hide h3
      clear h2 h3
      go_enter Try.func97, Try.ntmps97
      go_wp2_with fail
      all_goals have h8 := H.out
      all_goals go_ret
      all_goals refine ⟨ret_bool ?_, q0⟩
      all_goals (first | exact r_true HR.out (by omega) | exact r_false HR.out (by omega) | exact r_dec HR.out (by omega))
    · have e3 : (kind == 3) = false := by rw [beq_eq_false_iff_ne]; exact h3
      have H := hide (And.intro h2 h3)
      clear h2 h3
      go_enter Try.func97, Try.ntmps97
      go_wp2_with fail
      all_goals have h8 := H.out
      all_goals go_ret
      all_goals refine ⟨ret_bool ?_, q0⟩
      all_goals (first | exact r_true HR.out (by omega) | exact r_false HR.out (by omega) | exact r_dec HR.out (by omega))

/-- The first of a chain of calls that fails. -/
theorem inI_true {n a b : Int} (h : inI n a b = true) : a ≤ n ∧ n ≤ b := by unfold inI at h; simpa using h
theorem inI_false {n a b : Int} (h : inI n a b = false) : ¬ (a ≤ n ∧ n ≤ b) := by unfold inI at h; simpa using h

set_option maxRecDepth 100000 in
set_option maxHeartbeats 4000000 in
theorem way_any (f : Wy) (w : World) : Calls Try.prog 93 #[.agg #[.int .i64 f.kind, .int .i64 f.first, .int .i64 f.period, .int .i64 f.reps, .int .i64 f.gap]] w fun e w' => e = .returned (.bool (wayB f)) ∧ Below w.heap.size w w' := by
  obtain ⟨r, hr⟩ : ∃ r, r = wayB f := ⟨_, rfl⟩
  have HR := hide (wayB_iff (w := f))
  rw [← hr] at HR ⊢
  clear hr
  have PR := hide (fun W => periodic_any f W)
  have PB := hide (show perB f = true ↔ f.kind = 2 ∨ f.kind = 3 from by unfold perB; simp)
  generalize perB f = pb at *
  obtain ⟨kind, first, period, reps, gap⟩ := f
  dsimp only at *
  have WI := hide sndWithin_any
  have q0 : Below w.heap.size w (w.alloc (.cells #[.int .i64 kind, .int .i64 first, .int .i64 period, .int .i64 reps, .int .i64 gap] 65)) := (Below.refl _ _).alloc (Nat.le_refl _) _
  have B0 := hide (World.alloc_heap_new w (.cells #[.int .i64 kind, .int .i64 first, .int .i64 period, .int .i64 reps, .int .i64 gap] 65))
  generalize hw0 : w.alloc (.cells #[.int .i64 kind, .int .i64 first, .int .i64 period, .int .i64 reps, .int .i64 gap] 65) = w0 at *
  obtain ⟨c0, c1, c2, c3, c4⟩ := wy_cells (f := ⟨kind, first, period, reps, gap⟩) B0.out
  dsimp only at c0 c1 c2 c3 c4
  go_enter Try.func93, Try.ntmps93
  go_wp2_with fail
  (with_reducible refine (WI.out _ _ _ _).mono ?_)
  rintro e1 w1 ⟨rfl, rfl⟩
  rcases h1 : inI kind 0 3 with _ | _
  · go_wp2_with fail
    have h := inI_false h1
    go_ret
    refine ⟨ret_bool ?_, q0⟩
    exact r_false HR.out (by omega)
  have H1 := hide (inI_true h1)
  go_wp2_with fail
  (with_reducible refine (WI.out _ _ _ _).mono ?_)
  rintro e1 w1 ⟨rfl, rfl⟩
  rcases h2 : inI first 0 1000000 with _ | _
  · go_wp2_with fail
    have h := inI_false h2
    go_ret
    refine ⟨ret_bool ?_, q0⟩
    exact r_false HR.out (by omega)
  have H2 := hide (inI_true h2)
  go_wp2_with fail
  (with_reducible refine (WI.out _ _ _ _).mono ?_)
  rintro e1 w1 ⟨rfl, rfl⟩
  rcases h3 : inI period 0 1000000 with _ | _
  · go_wp2_with fail
    have h := inI_false h3
    go_ret
    refine ⟨ret_bool ?_, q0⟩
    exact r_false HR.out (by omega)
  have H3 := hide (inI_true h3)
  go_wp2_with fail
  (with_reducible refine (WI.out _ _ _ _).mono ?_)
  rintro e1 w1 ⟨rfl, rfl⟩
  rcases h4 : inI reps 0 100 with _ | _
  · go_wp2_with fail
    have h := inI_false h4
    go_ret
    refine ⟨ret_bool ?_, q0⟩
    exact r_false HR.out (by omega)
  have H4 := hide (inI_true h4)
  go_wp2_with fail
  (with_reducible refine (WI.out _ _ _ _).mono ?_)
  rintro e1 w1 ⟨rfl, rfl⟩
  rcases h5 : inI gap 0 1000000 with _ | _
  · go_wp2_with fail
    have h := inI_false h5
    go_ret
    refine ⟨ret_bool ?_, q0⟩
    exact r_false HR.out (by omega)
  have H5 := hide (inI_true h5)
  clear h1 h2 h3 h4 h5 WI
  have PBH := hide PB.out
  go_wp2_with fail
  (with_reducible refine (PR.out _).mono ?_)
  rintro e1 w1 ⟨rfl, q1⟩
  have Q1 := hide (below_next q0 q0.size q1)
  have B1 := hide (heap_below B0.out q1)
  clear q0 q1 B0 hw0 c0 c1 c2 c3 c4 PR
  obtain ⟨c0, c1, c2, c3, c4⟩ := wy_cells (f := ⟨kind, first, period, reps, gap⟩) B1.out
  dsimp only at c0 c1 c2 c3 c4
  by_cases hre : reps = 0
  · have e1 : (reps == 0) = true := by rw [beq_iff_eq]; exact hre
    have HE := hide hre
    clear hre
    cases pb with
    | false =>
      have PBN := hide (show ¬ (kind = 2 ∨ kind = 3) from fun h => by have := PB.out.2 h; cases this)
      go_wp2_with fail
      all_goals have a1 := H1.out
      all_goals have a2 := H2.out
      all_goals have a3 := H3.out
      all_goals have a4 := H4.out
      all_goals have a5 := H5.out
      all_goals have a6 := HE.out
      all_goals have a7 := PBN.out
      all_goals go_ret
      all_goals refine ⟨ret_bool ?_, Q1.out⟩
      all_goals (first | exact r_true HR.out (by omega) | exact r_false HR.out (by omega) | exact r_dec HR.out (by omega))
    | true =>
      have PBN := hide (PB.out.1 rfl)
      go_wp2_with fail
      all_goals have a1 := H1.out
      all_goals have a2 := H2.out
      all_goals have a3 := H3.out
      all_goals have a4 := H4.out
      all_goals have a5 := H5.out
      all_goals have a6 := HE.out
      all_goals have a7 := PBN.out
      all_goals go_ret
      all_goals refine ⟨ret_bool ?_, Q1.out⟩
      all_goals (first | exact r_true HR.out (by omega) | exact r_false HR.out (by omega) | exact r_dec HR.out (by omega))
  · have e1 : (reps == 0) = false := by rw [beq_eq_false_iff_ne]; exact hre
    have HE := hide hre
    clear hre
    cases pb with
    | false =>
      have PBN := hide (show ¬ (kind = 2 ∨ kind = 3) from fun h => by have := PB.out.2 h; cases this)
      go_wp2_with fail
      all_goals have a1 := H1.out
      all_goals have a2 := H2.out
      all_goals have a3 := H3.out
      all_goals have a4 := H4.out
      all_goals have a5 := H5.out
      all_goals have a6 := HE.out
      all_goals have a7 := PBN.out
      all_goals go_ret
      all_goals refine ⟨ret_bool ?_, Q1.out⟩
      all_goals (first | exact r_true HR.out (by omega) | exact r_false HR.out (by omega) | exact r_dec HR.out (by omega))
    | true =>
      have PBN := hide (PB.out.1 rfl)
      go_wp2_with fail
      all_goals have a1 := H1.out
      all_goals have a2 := H2.out
      all_goals have a3 := H3.out
      all_goals have a4 := H4.out
      all_goals have a5 := H5.out
      all_goals have a6 := HE.out
      all_goals have a7 := PBN.out
      all_goals go_ret
      all_goals refine ⟨ret_bool ?_, Q1.out⟩
      all_goals (first | exact r_true HR.out (by omega) | exact r_false HR.out (by omega) | exact r_dec HR.out (by omega))
end Go.Proofs.Ytplpnnjjjfcibaa
