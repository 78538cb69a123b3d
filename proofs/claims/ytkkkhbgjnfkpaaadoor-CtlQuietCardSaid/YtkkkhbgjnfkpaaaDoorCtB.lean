/- Walks of count.Right, ctl.out, ctl.Right out of a frame. -/
import Derived.Test.YtkkkhbgjnfkpaaaDoorCtA
import Derived.Test.YtkkkhbgjnfkpaaaDoorFin
namespace Go.Proofs.YtkkkhbgjnfkpaaaDoor
open Go.ChangeShapes Go.WideShapes Go.ChangeAt Go.RowKit
open FP (Fr)

theorem four_cells {W : World} {B : Nat} {a b c d : Value} {t : TypeId} {fz : Nat × Nat} (h : W.heap[B]? = some (.cells #[a, b, c, d] t fz)) : W.cell? ⟨B, 0, none⟩ = some a ∧ W.cell? ⟨B, 1, none⟩ = some b ∧ W.cell? ⟨B, 2, none⟩ = some c ∧ W.cell? ⟨B, 3, none⟩ = some d := by
  simp [World.cell?, h]

set_option maxRecDepth 100000 in
set_option maxHeartbeats 4000000 in
theorem cntRight_any (tc rc : Int) (off : Bool) (rs : Int) (w : World) : Calls Tryd.prog 37 #[.agg #[.int .i64 tc, .int .i64 rc, .bool off, .int .i64 rs]] w fun e w' => e = .returned (.bool (cntB tc rc off rs)) ∧ Below w.heap.size w w' := by
  obtain ⟨r, hr⟩ : ∃ r, r = cntB tc rc off rs := ⟨_, rfl⟩
  rw [← hr]
  unfold cntB at hr
  have q0 : Below w.heap.size w (w.alloc (.cells #[.int .i64 tc, .int .i64 rc, .bool off, .int .i64 rs] 27)) := (Below.refl _ _).alloc (Nat.le_refl _) _
  obtain ⟨c0, c1, c2, c3⟩ := four_cells (World.alloc_heap_new w (.cells #[.int .i64 tc, .int .i64 rc, .bool off, .int .i64 rs] 27))
  have Q0 := hide q0
  clear q0
  generalize hw0 : w.alloc (.cells #[.int .i64 tc, .int .i64 rc, .bool off, .int .i64 rs] 27) = w0 at *
  cases off with
  | true =>
    have HR := hide (show r = true ↔ (tc = 0 ∧ rc = 0 ∧ 1 ≤ rs ∧ rs ≤ 128) by rw [hr]; simp)
    clear hr
    go_enter Tryd.func37, Tryd.ntmps37
    go_upto_region 1 with fail
    clear hw0
    go_wp2_with fail
    all_goals go_ret
    all_goals refine ⟨ret_bool ?_, Q0.out⟩
    all_goals (first | exact r_true HR.out (by omega) | exact r_false HR.out (by omega) | exact r_dec HR.out (by omega))
  | false =>
    have HR := hide (show r = true ↔ (0 ≤ tc ∧ tc ≤ 255 ∧ 0 ≤ rc ∧ rc ≤ 255 ∧ rs = 0) by rw [hr]; simp)
    clear hr
    go_enter Tryd.func37, Tryd.ntmps37
    go_upto_region 1 with fail
    clear hw0
    go_wp2_with fail
    all_goals go_ret
    all_goals refine ⟨ret_bool ?_, Q0.out⟩
    all_goals (first | exact r_true HR.out (by omega) | exact r_false HR.out (by omega) | exact r_dec HR.out (by omega))

set_option maxRecDepth 100000 in
set_option maxHeartbeats 4000000 in
theorem ctlOut_ok (c : Cl) (w : World) (h : c.Out) : Calls Tryd.prog 39 #[.agg c.cs.toArray] w fun e w' => e = .returned (.bool true) ∧ Below w.heap.size w w' := by
  obtain ⟨w0, hw0⟩ : ∃ w0, w0 = w.alloc (.cells c.cs.toArray 31) := ⟨_, rfl⟩
  have B0 := hide (World.alloc_heap_new w (.cells c.cs.toArray 31))
  have Q0 : Hid (Below w.heap.size w w0) := by rw [hw0]; exact hide ((Below.refl _ _).alloc (Nat.le_refl _) _)
  rw [← hw0] at B0
  obtain ⟨_, _, _, d0, d1, d2, d3, d4, d5, d6, d7, d8⟩ := cl_cells B0.out
  obtain ⟨h0, h1, h2, h3, h4, h5, h6, h7, h8⟩ := h
  rw [h0] at d0
  rw [h1] at d1
  rw [h2] at d2
  rw [h3] at d3
  rw [h4] at d4
  rw [h5] at d5
  rw [h6] at d6
  rw [h7] at d7
  rw [h8] at d8
  clear h0 h1 h2 h3 h4 h5 h6 h7 h8 B0
  go_enter Tryd.func39, Tryd.ntmps39
  go_upto_region 1 with fail
  change Code.wp _ _ _ _ (w.alloc (.cells c.cs.toArray 31))
  rw [← hw0]
  clear hw0
  go_wp2_with fail
  go_ret
  exact ⟨rfl, Q0.out⟩

/-- A controller that may be, and joins or is idle. -/
structure Cl.Q (c : Cl) : Prop where
  cnt : cntB c.tc c.rc c.off c.rs = true
  offs : c.off = (c.st == 8)
  has : c.has = true → FP.rightB c.f = true
  hasn : c.has = false → c.f = zFr
  out : c.Out
  st : (c.st = 0 ∧ 0 ≤ c.n ∧ c.n ≤ 10) ∨ (c.st = 1 ∧ c.n = 0)
theorem right_id {f : Fr} (h : FP.rightB f = true) : f.id < 4294967296 := by
  unfold FP.rightB at h
  simp only [Bool.and_eq_true, decide_eq_true_eq] at h
  have := h.1.1.1
  split at this <;> omega

set_option maxRecDepth 100000 in
set_option maxHeartbeats 16000000 in
theorem ctlRight_q (c : Cl) (w : World) (h : c.Q) : Calls Tryd.prog 21 #[.agg c.cs.toArray] w fun e w' => e = .returned (.bool true) ∧ Below w.heap.size w w' := by
  obtain ⟨hcnt, hoff, hhas, hhasn, hout, hst⟩ := h
  have OU := hide (fun W => ctlOut_ok c W hout)
  clear hout
  obtain ⟨tc, rc, off, rs, st, n, was, hard, has, f, sends, out, at_, last, sn, got, en, tail, good⟩ := c
  dsimp only at *
  have HN := hide (show has = false → f = ⟨0, false, false, 0, ⟨#[]⟩⟩ from hhasn)
  have HR := hide hhas
  clear hhas hhasn
  rcases hst with ⟨rfl, hn1, hn2⟩ | ⟨rfl, rfl⟩
  all_goals (first | obtain rfl : off = true := hoff | obtain rfl : off = false := hoff)
  all_goals have CN := hide (fun W => hcnt ▸ cntRight_any tc rc _ rs W)
  all_goals clear hcnt
  all_goals cases has
  all_goals (first | obtain rfl := HN.out rfl | have FR := hide (fun W => HR.out rfl ▸ frRight_any f W (right_id (HR.out rfl))))
  all_goals clear HN HR
  all_goals generalize hc : (⟨tc, rc, _, rs, _, _, was, hard, _, _, sends, out, at_, last, sn, got, en, tail, good⟩ : Cl) = c at OU
  all_goals have HC := hide hc
  all_goals clear hc
  all_goals obtain ⟨w0, hw0⟩ : ∃ w0, w0 = w.alloc (.cells c.cs.toArray 31) := ⟨_, rfl⟩
  all_goals have B0 := hide (World.alloc_heap_new w (.cells c.cs.toArray 31))
  all_goals have Q0 : Hid (Below w.heap.size w w0) := by rw [hw0]; exact hide ((Below.refl _ _).alloc (Nat.le_refl _) _)
  all_goals rw [← hw0] at B0
  all_goals obtain ⟨⟨c0, c1, c2, c3⟩, ⟨c4, c5, c6, c7, c8⟩, ⟨c9, c10, c11, c12, c13⟩, _⟩ := cl_cells B0.out
  all_goals rw [← HC.out] at c0 c1 c2 c3 c4 c5 c8 c9 c10 c11 c12 c13
  all_goals dsimp only at c0 c1 c2 c3 c4 c5 c8 c9 c10 c11 c12 c13
  all_goals clear c6 c7
  all_goals
    go_enter Tryd.func21, Tryd.ntmps21
    go_upto_region 1 with fail
    change Code.wp _ _ _ _ (w.alloc (.cells c.cs.toArray 31))
    rw [← hw0]
    clear hw0
    go_wp2_with fail
    (with_reducible refine (CN.out _).mono ?_)
    rintro e1 w1 ⟨rfl, q1⟩
    have B1 := hide (heap_below B0.out q1)
    have Q1 := hide (below_next Q0.out Q0.out.size q1)
    clear q1 B0 Q0 CN c0 c1 c2 c3 c4 c5 c8 c9 c10 c11 c12 c13
    obtain ⟨⟨c0, c1, c2, c3⟩, ⟨c4, c5, c6, c7, c8⟩, ⟨c9, c10, c11, c12, c13⟩, _⟩ := cl_cells B1.out
    rw [← HC.out] at c0 c1 c2 c3 c4 c5 c8 c9 c10 c11 c12 c13
    dsimp only at c0 c1 c2 c3 c4 c5 c8 c9 c10 c11 c12 c13
    clear c6 c7
    first
    | (go_wp2_with fail
       (with_reducible refine (FR.out _).mono ?_)
       rintro e2 w2 ⟨rfl, q2⟩
       have B2 := hide (heap_below B1.out q2)
       have Q2 := hide (below_next Q1.out Q1.out.size q2)
       clear q2 B1 Q1 FR c0 c1 c2 c3 c4 c5 c8 c9 c10 c11 c12 c13
       obtain ⟨⟨c0, c1, c2, c3⟩, ⟨c4, c5, c6, c7, c8⟩, ⟨c9, c10, c11, c12, c13⟩, _⟩ := cl_cells B2.out
       rw [← HC.out] at c4 c8
       dsimp only at c4 c8
       clear c0 c1 c2 c3 c5 c6 c7 c9 c10 c11 c12 c13
       go_wp2_with (refine wpList_load_row rfl 31 (.tmp 1) (by rfl) w.heap.size (by rfl) 31 c.cs.toArray (0, 0) _ (by exact B2.out) Tryd.underlying31 (by rfl) (by kernel_rfl) ?_)
       (with_reducible refine (OU.out _).mono ?_)
       rintro e3 w3 ⟨rfl, q3⟩
       have Q3 := hide (below_next Q2.out Q2.out.size q3)
       go_wp2_with fail
       go_ret
       exact ⟨rfl, Q3.out⟩)
    | (go_wp2_with (refine wpList_load_row rfl 31 (.tmp 1) (by rfl) w.heap.size (by rfl) 31 c.cs.toArray (0, 0) _ (by exact B1.out) Tryd.underlying31 (by rfl) (by kernel_rfl) ?_)
       (with_reducible refine (OU.out _).mono ?_)
       rintro e3 w3 ⟨rfl, q3⟩
       have Q3 := hide (below_next Q1.out Q1.out.size q3)
       go_wp2_with fail
       go_ret
       exact ⟨rfl, Q3.out⟩)
end Go.Proofs.YtkkkhbgjnfkpaaaDoor
