import Derived.Test.YtkmddjbialpppaaGreatDoorMgOrdL
namespace Go.Proofs.YtkmddjbialpppaaGreatDoor
open Go.ChangeShapes Go.WideShapes Go.ChangeAt Go.RowKit
open CM
theorem run_index_kinds (W : World) (cs : Array Value) (k : Nat) (v : Value) (hk : k < 9) (h : cs[k]? = some v) : (Instr.index 347 (.agg cs) (.int .i64 k)).run Tryz.prog W = .ok v W := by
  have hi : (0 : Int) ≤ k ∧ (k : Int) < (9 : Nat) := by omega
  have e := Tryz.underlying347
  simp [Instr.index, run_underlying e, asIntOf, hi, go_sem, h]
  intro h9
  omega
set_option maxRecDepth 100000 in
set_option maxHeartbeats 4000000 in
theorem passes_ok (f : Flt) (v : Int) (w : World) (hr : fltB f = true) :
    Calls Tryz.prog 205 #[.agg #[.int .i64 f.kind, .int .i64 f.mask, .int .i64 f.x, .int .i64 f.mn, .int .i64 f.mx, .int .i64 f.every, .int .i64 f.frm, .int .i64 f.old, .int .i64 f.count], .int .i64 v] w fun e w' => e = .returned (.tuple #[.bool (gX f v), .int .i64 0]) ∧ Below w.heap.size w w' := by
  have RT := aA (fun W => iI f W)
  rw [hr] at RT
  have KA := aA (fun b1 b2 b3 (W : World) h1 h2 h3 c1 c2 c3 => kindsV_at f v hr b1 b2 b3 W h1 h2 h3 c1 c2 c3)
  obtain ⟨k, hk⟩ : ∃ k : Nat, f.kind = k := ⟨f.kind.toNat, by have := kN.1 hr; omega⟩
  have hk9 : k < 9 := by have := kN.1 hr; omega
  have hkt : f.kind.toNat = k := by omega
  rw [hkt] at KA
  clear hr hkt
  generalize gX f v = r at *
  obtain ⟨kind, mask, x, mn, mx, every, frm, old, count⟩ := f
  dsimp only at *
  subst hk
  have q0 : Below w.heap.size w (w.alloc (.cells #[.int .i64 k, .int .i64 mask, .int .i64 x, .int .i64 mn, .int .i64 mx, .int .i64 every, .int .i64 frm, .int .i64 old, .int .i64 count] 138)) := (Below.refl _ _).alloc (Nat.le_refl _) _
  have B0 := aA (World.alloc_heap_new w (.cells #[.int .i64 k, .int .i64 mask, .int .i64 x, .int .i64 mn, .int .i64 mx, .int .i64 every, .int .i64 frm, .int .i64 old, .int .i64 count] 138))
  have Q0 := aA q0
  clear q0
  generalize hw0 : w.alloc (.cells #[.int .i64 k, .int .i64 mask, .int .i64 x, .int .i64 mn, .int .i64 mx, .int .i64 every, .int .i64 frm, .int .i64 old, .int .i64 count] 138) = w0 at *
  obtain ⟨c0, c1, c2, c3, c4, c5, c6, c7, c8⟩ := iF (f := ⟨k, mask, x, mn, mx, every, frm, old, count⟩) B0.out
  dsimp only at c0 c1 c2 c3 c4 c5 c6 c7 c8
  go_enter Tryz.func205, Tryz.ntmps205
  go_wp2_with fail
  (with_reducible refine (RT.out _).mono ?_)
  rintro e1 w1 ⟨rfl, q1⟩
  have Q1 := aA (aC Q0.out Q0.out.size q1)
  have B1 := aA (aB B0.out q1)
  clear q1 c0 c1 c2 c3 c4 c5 c6 c7 c8 hw0 B0 Q0 RT
  go_wp2_with fail
  refine bB [1, 2, 4, 5] [(2, fun W => W.heap[w.heap.size]? = some (.cells #[.int .i64 k, .int .i64 mask, .int .i64 x, .int .i64 mn, .int .i64 mx, .int .i64 every, .int .i64 frm, .int .i64 old, .int .i64 count] 138 (0, 0))), (4, fun W => W.heap[w.heap.size]? = some (.cells #[.int .i64 k, .int .i64 mask, .int .i64 x, .int .i64 mn, .int .i64 mx, .int .i64 every, .int .i64 frm, .int .i64 old, .int .i64 count] 138 (0, 0)))] (by kernel_rfl) ?_
  replace B1 : Hid (w1.drew.heap[w.heap.size]? = _) := B1
  replace Q1 : Hid (Below w.heap.size w w1.drew) := aA Q1.out.drew
  generalize w1.drew = wx at *
  refine aD (i := 1) (v := .pointer (some ⟨w.heap.size, 0, none⟩)) rfl rfl (by kernel_rfl) (by kernel_rfl) (by kernel_rfl) (by kernel_rfl) (by kernel_rfl) (fun _ _ _ h => h) rfl (fun W => by go_simp) ?_
  go_simp
  refine aQ (i := 2) (v := .int .i64 k) rfl rfl (by kernel_rfl) (by kernel_rfl) (by kernel_rfl) (by kernel_rfl) (by kernel_rfl) (fun _ _ _ h => h) rfl (fun W h => by (obtain ⟨c0, _⟩ := iF (f := ⟨k, mask, x, mn, mx, every, frm, old, count⟩) h; clear h; dsimp only at c0; go_simp)) (B1.out) ?_
  go_simp
  refine aQ (i := 4) (v := .agg #[.int .i64 k, .int .i64 mask, .int .i64 x, .int .i64 mn, .int .i64 mx, .int .i64 every, .int .i64 frm, .int .i64 old, .int .i64 count]) rfl rfl (by kernel_rfl) (by kernel_rfl) (by kernel_rfl) (by kernel_rfl) (by kernel_rfl) (fun _ _ _ h => h) rfl (fun W h => by (obtain ⟨c0, c1, c2, c3, c4, c5, c6, c7, c8⟩ := iF (f := ⟨k, mask, x, mn, mx, every, frm, old, count⟩) h; clear h; dsimp only at c0 c1 c2 c3 c4 c5 c6 c7 c8; go_simp)) (B1.out) ?_
  go_simp
  refine aD (i := 5) (v := .int .i64 v) rfl rfl (by kernel_rfl) (by kernel_rfl) (by kernel_rfl) (by kernel_rfl) (by kernel_rfl) (fun _ _ _ h => h) rfl (fun W => by go_simp) ?_
  go_simp
  refine aI (i := 0) (by kernel_rfl) ?_
  refine aM rfl rfl ?_
  go_simp
  (with_reducible refine (kinds_any _).mono ?_)
  rintro e2 w2 ⟨b1, b2, b3, rfl, h1, h2, h3, d1, d2, d3, q2⟩
  have B2 := aA (aB B1.out q2)
  have Q2 := aA (aC Q1.out Q1.out.size q2)
  obtain ⟨fid, lb, hat, hcf, hcall⟩ := KA.out b1 b2 b3 w2 h1 h2 h3 d1 d2 d3
  have CALL := aA hcall
  have HAT := aA hat
  clear q2 hcall hat KA h1 h2 h3 d1 d2 d3
  generalize hkv : gF b1 b2 b3 = kv at *
  have hkz : kv.size = 9 := by rw [← hkv]; rfl
  clear hkv
  go_simp
  refine ⟨aO (by kernel_rfl) (.cons B2.out (.cons B2.out .nil)), ?_⟩
  go_simp
  have IX := fun W => run_index_kinds W kv k _ hk9 HAT.out
  refine aI (i := 3) (by kernel_rfl) ?_
  refine aM rfl rfl ?_
  go_simp
  refine ⟨aO (by kernel_rfl) (.past (by kernel_rfl) (.cons B2.out .nil)), ?_⟩
  clear IX HAT
  go_simp
  have C := aA (CALL.out _ (Below.refl _ _))
  clear CALL
  refine aI (i := 6) (by kernel_rfl) ?_
  refine aM rfl rfl ?_
  go_simp
  (with_reducible refine (C.out).mono ?_)
  rintro e3 w3 ⟨rfl, q3⟩
  have B3 := aA (aB B2.out q3)
  have Q3 := aA (aC Q2.out Q2.out.size q3)
  go_simp
  refine ⟨aO (by kernel_rfl) (.past (by kernel_rfl) (.past (by kernel_rfl) .nil)), ?_⟩
  clear q3 C B2 Q2
  go_simp
  refine aI (i := 7) (by kernel_rfl) ?_
  refine aM rfl rfl ?_
  go_simp
  refine ⟨aN (by kernel_rfl) (by kernel_rfl), ?_⟩
  go_simp
  refine aI (i := 8) (by kernel_rfl) ?_
  refine aM rfl rfl ?_
  go_simp
  refine ⟨aN (by kernel_rfl) (by kernel_rfl), ?_⟩
  refine aS (by kernel_rfl) ?_ _
  go_wp2_with fail
  refine bodyPost_ret (v := .tuple #[.bool r, .int .i64 0]) (by simp [results, Tryz.results205, go_sem]) rfl ⟨rfl, Q3.out⟩
set_option maxRecDepth 100000 in
theorem passes_bad (f : Flt) (v : Int) (w : World) (hr : fltB f = false) :
    Calls Tryz.prog 205 #[.agg #[.int .i64 f.kind, .int .i64 f.mask, .int .i64 f.x, .int .i64 f.mn, .int .i64 f.mx, .int .i64 f.every, .int .i64 f.frm, .int .i64 f.old, .int .i64 f.count], .int .i64 v] w fun e w' => e = .returned (.tuple #[.bool false, .int .i64 1]) ∧ Below w.heap.size w w' := by
  have RT := aA (fun W => iI f W)
  rw [hr] at RT
  clear hr
  obtain ⟨kind, mask, x, mn, mx, every, frm, old, count⟩ := f
  dsimp only at *
  have q0 : Below w.heap.size w (w.alloc (.cells #[.int .i64 kind, .int .i64 mask, .int .i64 x, .int .i64 mn, .int .i64 mx, .int .i64 every, .int .i64 frm, .int .i64 old, .int .i64 count] 138)) := (Below.refl _ _).alloc (Nat.le_refl _) _
  go_enter Tryz.func205, Tryz.ntmps205
  go_wp2_with fail
  (with_reducible refine (RT.out _).mono ?_)
  rintro e1 w1 ⟨rfl, q1⟩
  have Q := aA (aC q0 q0.size q1)
  clear q0 q1 RT
  go_wp2_with fail
  refine bodyPost_ret (v := .tuple #[.bool false, .int .i64 1]) (by simp [results, Tryz.results205, go_sem]) rfl ⟨rfl, Q.out⟩
def cK (n a b : Int) : Bool := decide (a ≤ n ∧ n ≤ b)
set_option maxRecDepth 100000 in
theorem gV (n a b : Int) (w : World) : Calls Tryz.prog 101 #[.int .i64 n, .int .i64 a, .int .i64 b] w fun e w' => e = .returned (.bool (cK n a b)) ∧ w = w' := by
  obtain ⟨r, hr⟩ : ∃ r, r = cK n a b := ⟨_, rfl⟩
  have HR := aA (show r = true ↔ a ≤ n ∧ n ≤ b from by rw [hr]; unfold cK; simp)
  rw [← hr]
  clear hr
  go_enter Tryz.func101, Tryz.ntmps101
  go_wp2_with fail
  all_goals go_ret
  all_goals refine ⟨aV ?_, rfl⟩
  all_goals (first | exact cA HR.out (by omega) | exact bI HR.out (by omega) | exact dV HR.out (by omega))
theorem cL {W : World} {B : Nat} {f : Wy} {t : TypeId} {fz : Nat × Nat} (h : W.heap[B]? = some (.cells #[.int .i64 f.kind, .int .i64 f.first, .int .i64 f.period, .int .i64 f.reps, .int .i64 f.gap] t fz)) :
    W.cell? ⟨B, 0, none⟩ = some (.int .i64 f.kind) ∧ W.cell? ⟨B, 1, none⟩ = some (.int .i64 f.first) ∧ W.cell? ⟨B, 2, none⟩ = some (.int .i64 f.period) ∧ W.cell? ⟨B, 3, none⟩ = some (.int .i64 f.reps) ∧ W.cell? ⟨B, 4, none⟩ = some (.int .i64 f.gap) := by
  simp [World.cell?, h]
set_option maxRecDepth 100000 in
theorem iK (f : Wy) (w : World) : Calls Tryz.prog 103 #[.agg #[.int .i64 f.kind, .int .i64 f.first, .int .i64 f.period, .int .i64 f.reps, .int .i64 f.gap]] w fun e w' => e = .returned (.bool (iU f)) ∧ Below w.heap.size w w' := by
  obtain ⟨r, hr⟩ : ∃ r, r = iU f := ⟨_, rfl⟩
  have HR := aA (show r = true ↔ f.kind = 2 ∨ f.kind = 3 from by rw [hr]; unfold iU; simp)
  rw [← hr]
  clear hr
  obtain ⟨kind, first, period, reps, gap⟩ := f
  dsimp only at *
  have q0 : Below w.heap.size w (w.alloc (.cells #[.int .i64 kind, .int .i64 first, .int .i64 period, .int .i64 reps, .int .i64 gap] 73)) := (Below.refl _ _).alloc (Nat.le_refl _) _
  by_cases h2 : kind = 2
  · have e1 : (kind == 2) = true := by rw [beq_iff_eq]; exact h2
    have H := aA h2
    clear h2
    go_enter Tryz.func103, Tryz.ntmps103
    go_wp2_with fail
    all_goals have h8 := H.out
    all_goals go_ret
    all_goals refine ⟨aV ?_, q0⟩
    all_goals (first | exact cA HR.out (by omega) | exact bI HR.out (by omega) | exact dV HR.out (by omega))
  · have e1 : (kind == 2) = false := by rw [beq_eq_false_iff_ne]; exact h2
    by_cases h3 : kind = 3
    · have e3 : (kind == 3) = true := by rw [beq_iff_eq]; exact h3
      have H := aA h3
      clear h2 h3
      go_enter Tryz.func103, Tryz.ntmps103
      go_wp2_with fail
      all_goals have h8 := H.out
      all_goals go_ret
      all_goals refine ⟨aV ?_, q0⟩
      all_goals (first | exact cA HR.out (by omega) | exact bI HR.out (by omega) | exact dV HR.out (by omega))
    · have e3 : (kind == 3) = false := by rw [beq_eq_false_iff_ne]; exact h3
      have H := aA (And.intro h2 h3)
      clear h2 h3
      go_enter Tryz.func103, Tryz.ntmps103
      go_wp2_with fail
      all_goals have h8 := H.out
      all_goals go_ret
      all_goals refine ⟨aV ?_, q0⟩
      all_goals (first | exact cA HR.out (by omega) | exact bI HR.out (by omega) | exact dV HR.out (by omega))
set_option maxRecDepth 100000 in
theorem direct_any (f : Wy) (w : World) : Calls Tryz.prog 104 #[.agg #[.int .i64 f.kind, .int .i64 f.first, .int .i64 f.period, .int .i64 f.reps, .int .i64 f.gap]] w fun e w' => e = .returned (.bool (dirB f)) ∧ Below w.heap.size w w' := by
  obtain ⟨r, hr⟩ : ∃ r, r = dirB f := ⟨_, rfl⟩
  have HR := aA (show r = true ↔ f.kind = 1 ∨ f.kind = 3 from by rw [hr]; unfold dirB; simp)
  rw [← hr]
  clear hr
  obtain ⟨kind, first, period, reps, gap⟩ := f
  dsimp only at *
  have q0 : Below w.heap.size w (w.alloc (.cells #[.int .i64 kind, .int .i64 first, .int .i64 period, .int .i64 reps, .int .i64 gap] 73)) := (Below.refl _ _).alloc (Nat.le_refl _) _
  by_cases h2 : kind = 1
  · have e1 : (kind == 1) = true := by rw [beq_iff_eq]; exact h2
    have H := aA h2
    clear h2
    go_enter Tryz.func104, Tryz.ntmps104
    go_wp2_with fail
    all_goals have h8 := H.out
    all_goals go_ret
    all_goals refine ⟨aV ?_, q0⟩
    all_goals (first | exact cA HR.out (by omega) | exact bI HR.out (by omega) | exact dV HR.out (by omega))
  · have e1 : (kind == 1) = false := by rw [beq_eq_false_iff_ne]; exact h2
    by_cases h3 : kind = 3
    · have e3 : (kind == 3) = true := by rw [beq_iff_eq]; exact h3
      have H := aA h3
      clear h2 h3
      go_enter Tryz.func104, Tryz.ntmps104
      go_wp2_with fail
      all_goals have h8 := H.out
      all_goals go_ret
      all_goals refine ⟨aV ?_, q0⟩
      all_goals (first | exact cA HR.out (by omega) | exact bI HR.out (by omega) | exact dV HR.out (by omega))
    · have e3 : (kind == 3) = false := by rw [beq_eq_false_iff_ne]; exact h3
      have H := aA (And.intro h2 h3)
      clear h2 h3
      go_enter Tryz.func104, Tryz.ntmps104
      go_wp2_with fail
      all_goals have h8 := H.out
      all_goals go_ret
      all_goals refine ⟨aV ?_, q0⟩
      all_goals (first | exact cA HR.out (by omega) | exact bI HR.out (by omega) | exact dV HR.out (by omega))
theorem b8 {n a b : Int} (h : cK n a b = true) : a ≤ n ∧ n ≤ b := by unfold cK at h; simpa using h
theorem iC {n a b : Int} (h : cK n a b = false) : ¬ (a ≤ n ∧ n ≤ b) := by unfold cK at h; simpa using h
set_option maxRecDepth 100000 in
set_option maxHeartbeats 4000000 in
theorem way_any (f : Wy) (w : World) : Calls Tryz.prog 100 #[.agg #[.int .i64 f.kind, .int .i64 f.first, .int .i64 f.period, .int .i64 f.reps, .int .i64 f.gap]] w fun e w' => e = .returned (.bool (jW f)) ∧ Below w.heap.size w w' := by
  obtain ⟨r, hr⟩ : ∃ r, r = jW f := ⟨_, rfl⟩
  have HR := aA (wayB_iff (w := f))
  rw [← hr] at HR ⊢
  clear hr
  have PR := aA (fun W => iK f W)
  have PB := aA (show iU f = true ↔ f.kind = 2 ∨ f.kind = 3 from by unfold iU; simp)
  generalize iU f = pb at *
  obtain ⟨kind, first, period, reps, gap⟩ := f
  dsimp only at *
  have WI := aA gV
  have q0 : Below w.heap.size w (w.alloc (.cells #[.int .i64 kind, .int .i64 first, .int .i64 period, .int .i64 reps, .int .i64 gap] 73)) := (Below.refl _ _).alloc (Nat.le_refl _) _
  have B0 := aA (World.alloc_heap_new w (.cells #[.int .i64 kind, .int .i64 first, .int .i64 period, .int .i64 reps, .int .i64 gap] 73))
  generalize hw0 : w.alloc (.cells #[.int .i64 kind, .int .i64 first, .int .i64 period, .int .i64 reps, .int .i64 gap] 73) = w0 at *
  obtain ⟨c0, c1, c2, c3, c4⟩ := cL (f := ⟨kind, first, period, reps, gap⟩) B0.out
  dsimp only at c0 c1 c2 c3 c4
  go_enter Tryz.func100, Tryz.ntmps100
  go_wp2_with fail
  (with_reducible refine (WI.out _ _ _ _).mono ?_)
  rintro e1 w1 ⟨rfl, rfl⟩
  rcases h1 : cK kind 0 3 with _ | _
  · go_wp2_with fail
    have h := iC h1
    go_ret
    refine ⟨aV ?_, q0⟩
    exact bI HR.out (by omega)
  have H1 := aA (b8 h1)
  go_wp2_with fail
  (with_reducible refine (WI.out _ _ _ _).mono ?_)
  rintro e1 w1 ⟨rfl, rfl⟩
  rcases h2 : cK first 0 1000000 with _ | _
  · go_wp2_with fail
    have h := iC h2
    go_ret
    refine ⟨aV ?_, q0⟩
    exact bI HR.out (by omega)
  have H2 := aA (b8 h2)
  go_wp2_with fail
  (with_reducible refine (WI.out _ _ _ _).mono ?_)
  rintro e1 w1 ⟨rfl, rfl⟩
  rcases h3 : cK period 0 1000000 with _ | _
  · go_wp2_with fail
    have h := iC h3
    go_ret
    refine ⟨aV ?_, q0⟩
    exact bI HR.out (by omega)
  have H3 := aA (b8 h3)
  go_wp2_with fail
  (with_reducible refine (WI.out _ _ _ _).mono ?_)
  rintro e1 w1 ⟨rfl, rfl⟩
  rcases h4 : cK reps 0 100 with _ | _
  · go_wp2_with fail
    have h := iC h4
    go_ret
    refine ⟨aV ?_, q0⟩
    exact bI HR.out (by omega)
  have H4 := aA (b8 h4)
  go_wp2_with fail
  (with_reducible refine (WI.out _ _ _ _).mono ?_)
  rintro e1 w1 ⟨rfl, rfl⟩
  rcases h5 : cK gap 0 1000000 with _ | _
  · go_wp2_with fail
    have h := iC h5
    go_ret
    refine ⟨aV ?_, q0⟩
    exact bI HR.out (by omega)
  have H5 := aA (b8 h5)
  clear h1 h2 h3 h4 h5 WI
  have PBH := aA PB.out
  go_wp2_with fail
  (with_reducible refine (PR.out _).mono ?_)
  rintro e1 w1 ⟨rfl, q1⟩
  have Q1 := aA (aC q0 q0.size q1)
  have B1 := aA (aB B0.out q1)
  clear q0 q1 B0 hw0 c0 c1 c2 c3 c4 PR
  obtain ⟨c0, c1, c2, c3, c4⟩ := cL (f := ⟨kind, first, period, reps, gap⟩) B1.out
  dsimp only at c0 c1 c2 c3 c4
  by_cases hre : reps = 0
  · have e1 : (reps == 0) = true := by rw [beq_iff_eq]; exact hre
    have HE := aA hre
    clear hre
    cases pb with
    | false =>
      have PBN := aA (show ¬ (kind = 2 ∨ kind = 3) from fun h => by have := PB.out.2 h; cases this)
      go_wp2_with fail
      all_goals have a1 := H1.out
      all_goals have a2 := H2.out
      all_goals have a3 := H3.out
      all_goals have a4 := H4.out
      all_goals have a5 := H5.out
      all_goals have a6 := HE.out
      all_goals have a7 := PBN.out
      all_goals go_ret
      all_goals refine ⟨aV ?_, Q1.out⟩
      all_goals (first | exact cA HR.out (by omega) | exact bI HR.out (by omega) | exact dV HR.out (by omega))
    | true =>
      have PBN := aA (PB.out.1 rfl)
      go_wp2_with fail
      all_goals have a1 := H1.out
      all_goals have a2 := H2.out
      all_goals have a3 := H3.out
      all_goals have a4 := H4.out
      all_goals have a5 := H5.out
      all_goals have a6 := HE.out
      all_goals have a7 := PBN.out
      all_goals go_ret
      all_goals refine ⟨aV ?_, Q1.out⟩
      all_goals (first | exact cA HR.out (by omega) | exact bI HR.out (by omega) | exact dV HR.out (by omega))
  · have e1 : (reps == 0) = false := by rw [beq_eq_false_iff_ne]; exact hre
    have HE := aA hre
    clear hre
    cases pb with
    | false =>
      have PBN := aA (show ¬ (kind = 2 ∨ kind = 3) from fun h => by have := PB.out.2 h; cases this)
      go_wp2_with fail
      all_goals have a1 := H1.out
      all_goals have a2 := H2.out
      all_goals have a3 := H3.out
      all_goals have a4 := H4.out
      all_goals have a5 := H5.out
      all_goals have a6 := HE.out
      all_goals have a7 := PBN.out
      all_goals go_ret
      all_goals refine ⟨aV ?_, Q1.out⟩
      all_goals (first | exact cA HR.out (by omega) | exact bI HR.out (by omega) | exact dV HR.out (by omega))
    | true =>
      have PBN := aA (PB.out.1 rfl)
      go_wp2_with fail
      all_goals have a1 := H1.out
      all_goals have a2 := H2.out
      all_goals have a3 := H3.out
      all_goals have a4 := H4.out
      all_goals have a5 := H5.out
      all_goals have a6 := HE.out
      all_goals have a7 := PBN.out
      all_goals go_ret
      all_goals refine ⟨aV ?_, Q1.out⟩
      all_goals (first | exact cA HR.out (by omega) | exact bI HR.out (by omega) | exact dV HR.out (by omega))
end Go.Proofs.YtkmddjbialpppaaGreatDoor
namespace Go.Proofs.YtkmddjbialpppaaGreatDoor
open Go.ChangeShapes Go.WideShapes Go.ChangeAt Go.RowKit
namespace ND
def isB (v : Int) (on : Bool) (a b : Int) : Bool := if on then cK v a b else v == 0
def awkB (st : Int) : Bool := st == 2 || st == 3 || st == 4
def sdsB (st : Int) : Bool := st == 2 || st == 3
structure Nm where
  st : Int
  wants : Bool
  again : Int
  next : Int
  quiet : Int
  left : Int
  rep : Int
  cyc : Int
  hrd : Int
  wt : Int
def bR (n : Nm) : List Value := [.int .i64 n.st, .bool n.wants, .int .i64 n.again, .int .i64 n.next, .int .i64 n.quiet, .int .i64 n.left, .int .i64 n.rep, .int .i64 n.cyc, .int .i64 n.hrd, .int .i64 n.wt]
def fZ : Nm := ⟨0, false, 0, 0, 0, 0, 0, 0, 0, 0⟩
def nmB (n : Nm) : Bool :=
  cK n.rep 0 1000 && (cK n.cyc 1 1000 && (cK n.hrd 1 1000 && (cK n.wt 1 1000 && (cK n.st 0 4 &&
    (isB n.again (n.st == 2) 1 n.rep && (isB n.next (sdsB n.st) 0 n.cyc && (isB n.quiet (awkB n.st) 1 n.hrd && (isB n.left (n.st == 1) 1 n.wt &&
      (n.st == 2 || n.wants == (n.st == 3))))))))))
structure Sm where
  st : Int
  wants : Bool
  left : Int
  times : Int
  fast : Int
  many : Int
  slow : Int
def bW (s : Sm) : List Value := [.int .i64 s.st, .bool s.wants, .int .i64 s.left, .int .i64 s.times, .int .i64 s.fast, .int .i64 s.many, .int .i64 s.slow]
def g8 : Sm := ⟨0, false, 0, 0, 0, 0, 0⟩
def smB (s : Sm) : Bool :=
  cK s.fast 1 1000000 && (cK s.slow 1 1000000 && (cK s.many 0 1000 && (cK s.st 0 2 && (cK s.times 0 1000000 &&
    (!(s.st == 0 && s.times != 0) && (s.wants == (s.st != 0) && (if s.st == 2 then cK s.left 1 (max s.fast s.slow) else s.left == 0)))))))
structure Tv where
  sel : Bool
  id : Int
  mask : Int
  ext : Bool
  dlc : Int
  data : ByteArray
  lim : Int
  mode : Int
  errs : Int
  bus : Bool
  frm : Bool
  loc : Bool
  ovr : Bool
def bD (t : Tv) : List Value := [.bool t.sel, .int .u32 t.id, .int .u32 t.mask, .bool t.ext, .int .i64 t.dlc, .string t.data, .int .i64 t.lim, .int .i64 t.mode, .int .i64 t.errs, .bool t.bus, .bool t.frm, .bool t.loc, .bool t.ovr]
def eX : Tv := ⟨false, 0, 0, false, 0, ⟨#[]⟩, 0, 0, 0, false, false, false, false⟩
def Tv.woken (t : Tv) : Bool := t.bus || t.frm || t.loc || t.ovr
def mdB (m : Int) : Bool := m == 1 || m == 2 || m == 3
def Tv.go (t : Tv) (m : Int) : Tv := if t.mode == m then t else { t with mode := m, errs := 0, bus := false, frm := false, loc := false, ovr := false }
structure Pn where
  mem : Int
  own : Int
  seen : Nat → Int
  lim : Int
def bO (p : Pn) : List Value := [.int .u16 p.mem, .int .u16 p.own, .int .i64 (p.seen 0), .int .i64 (p.seen 1), .int .i64 (p.seen 2), .int .i64 (p.seen 3), .int .i64 (p.seen 4), .int .i64 (p.seen 5), .int .i64 (p.seen 6), .int .i64 (p.seen 7), .int .i64 (p.seen 8), .int .i64 (p.seen 9), .int .i64 (p.seen 10), .int .i64 (p.seen 11), .int .i64 (p.seen 12), .int .i64 (p.seen 13), .int .i64 (p.seen 14), .int .i64 (p.seen 15), .int .i64 p.lim]
def fK : Pn := ⟨0, 0, fun _ => 0, 0⟩
theorem pnL_at (p : Pn) {k : Nat} (hk : k < 16) : (bO p)[2 + k]? = some (.int .i64 (p.seen k)) := by
  rcases k with _ | _ | _ | _ | _ | _ | _ | _ | _ | _ | _ | _ | _ | _ | _ | _ | k
  all_goals first | rfl | omega
theorem eC {W : World} {B : Nat} {n : Pn} {t : TypeId} {fz : Nat × Nat} (h : W.heap[B]? = some (.cells (bO n).toArray t fz)) :
    W.cell? ⟨B, 0, none⟩ = some (.int .u16 n.mem) ∧ W.cell? ⟨B, 1, none⟩ = some (.int .u16 n.own) ∧ W.cell? ⟨B, 18, none⟩ = some (.int .i64 n.lim) ∧ ∀ k, k < 16 → W.cell? ⟨B, 2 + k, none⟩ = some (.int .i64 (n.seen k)) := by
  refine ⟨by simp [World.cell?, h, bO], by simp [World.cell?, h, bO], by simp [World.cell?, h, bO], fun k hk => ?_⟩
  have := pnL_at n hk
  simp [World.cell?, h, this]
end ND
end Go.Proofs.YtkmddjbialpppaaGreatDoor
