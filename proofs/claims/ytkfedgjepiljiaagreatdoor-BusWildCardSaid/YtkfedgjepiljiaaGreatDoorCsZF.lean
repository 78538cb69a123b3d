/- The walk of ctl.Right of any controller. -/
import Derived.Test.YtkfedgjepiljiaaGreatDoorCsZE
import Derived.Deep.CutBlock
namespace Go.Proofs.YtkfedgjepiljiaaGreatDoor
open Go.ChangeShapes Go.WideShapes Go.ChangeAt Go.RowKit
open FP (Fr)

def leN (s : Int) : Int := if s = 5 then 1 else 0
def frz (f : Fr) : Bool := decide (f.id = 0) && (!f.ext && (!f.rem && (decide (f.dlc = 0) && decide (f.data.toList = []))))
theorem frz_eq {f : Fr} (h : frz f = true) : f = zFr := by
  unfold frz at h
  simp only [Bool.and_eq_true, decide_eq_true_eq, Bool.not_eq_true'] at h
  obtain ⟨h1, h2, h3, h4, h5⟩ := h
  obtain ⟨a, b, c, d, e⟩ := f
  dsimp only at *
  rw [Lib.toList_data] at h5
  have e5 : e = ⟨#[]⟩ := by rw [ByteArray.ext_iff, ← Array.toList_inj]; exact h5
  rw [h1, h2, h3, h4, e5]
  rfl
/-- What Right asks. -/
def rightC (c : Cl) : Bool := (decide (0 ≤ c.st) && decide (c.st ≤ 8)) && (cntB c.tc c.rc c.off c.rs && ((c.off == (c.st == 8)) && ((decide (leN c.st ≤ c.n) && decide (c.n ≤ topN c.st)) && ((if c.has = true then FP.rightB c.f else frz c.f) && (if c.st = 2 then inB c else outB c)))))
theorem rightC_ok {c : Cl} (hL : c.last = (c.L.toNat : Int)) (h : rightC c = true) : c.Ok := by
  unfold rightC at h
  simp only [Bool.and_eq_true, decide_eq_true_eq, beq_iff_eq] at h
  obtain ⟨⟨h1, h2⟩, h3, h4, ⟨h5, h6⟩, h7, h8⟩ := h
  refine ⟨h3, h4, fun e => ?_, fun e => ?_, h1, h2, ?_, h6, fun e => ?_, fun e => ?_, fun e => ?_⟩
  · rw [if_pos e] at h7; exact h7
  · rw [if_neg (by rw [e]; decide)] at h7; exact frz_eq h7
  · unfold leN at h5; split at h5 <;> omega
  · unfold leN at h5; rw [if_pos e] at h5; exact h5
  · rw [if_neg e] at h8; exact outB_out h8
  · rw [if_pos e] at h8; exact inB_in hL h8

set_option maxRecDepth 100000 in
set_option maxHeartbeats 64000000 in
theorem ctlRight_no (c : Cl) (w : World) (hL : c.last = (c.L.toNat : Int)) (hs : c.got.size ≤ 300) (hid : c.f.id < 4294967296) (h : rightC c = false) : Calls Tryz.prog 5 #[.agg c.cs.toArray] w fun e w' => e = .returned (.bool false) ∧ Below w.heap.size w w' := by
  have CN := hide (fun W => cntRight_any c.tc c.rc c.off c.rs W)
  have FR := hide (fun W => frRight_any c.f W hid)
  have INN := hide (fun (q : c.has = true → FP.rightB c.f = true) W => ctlIn_any c W hL hs hid q)
  have OUT := hide (fun W => ctlOut_any c W)
  have HC := hide (show rightC c = false from h)
  obtain ⟨w0, hw0⟩ : ∃ w0, w0 = w.alloc (.cells c.cs.toArray 33) := ⟨_, rfl⟩
  have B := hide (World.alloc_heap_new w (.cells c.cs.toArray 33))
  have Q : Hid (Below w.heap.size w w0) := by rw [hw0]; exact hide ((Below.refl _ _).alloc (Nat.le_refl _) _)
  rw [← hw0] at B
  obtain ⟨-, ⟨c4, c5, -⟩, -⟩ := cl_cells B.out
  clear h
  by_cases hst : 0 ≤ c.st ∧ c.st ≤ 8
  case neg =>
    have s0 : ¬ c.st = 0 := by omega
    have s1 : ¬ c.st = 1 := by omega
    have s2 : ¬ c.st = 2 := by omega
    have s3 : ¬ c.st = 3 := by omega
    have s4 : ¬ c.st = 4 := by omega
    have s5 : ¬ c.st = 5 := by omega
    have s6 : ¬ c.st = 6 := by omega
    have s7 : ¬ c.st = 7 := by omega
    have s8 : ¬ c.st = 8 := by omega
    clear hst
    go_enter Tryz.func5, Tryz.ntmps5
    go_upto_region 2 with fail
    change Code.wp _ _ _ _ (w.alloc (.cells c.cs.toArray 33))
    rw [← hw0]
    clear hw0
    go_wp2_with fail
    go_ret
    exact ⟨rfl, Q.out⟩
  have HST := hide hst
  clear hst
  go_enter Tryz.func5, Tryz.ntmps5
  go_upto_region 2 with fail
  change Code.wp _ _ _ _ (w.alloc (.cells c.cs.toArray 33))
  rw [← hw0]
  clear hw0
  go_upto_block 0 with fail
  go_cut [3, 4] from 5 (fun a b W => a = .int .i64 (leN c.st) ∧ b = .int .i64 (topN c.st) ∧ W = w0)
  case first =>
    obtain ⟨s0, s8⟩ := HST.out
    clear B Q c5 HST INN OUT CN FR HC
    obtain ⟨s, hs⟩ : ∃ s, s = c.st := ⟨_, rfl⟩
    rw [← hs] at c4 s0 s8 ⊢
    have HS := hide hs
    clear hs
    obtain rfl | rfl | rfl | rfl | rfl | rfl | rfl | rfl | rfl : s = 0 ∨ s = 1 ∨ s = 2 ∨ s = 3 ∨ s = 4 ∨ s = 5 ∨ s = 6 ∨ s = 7 ∨ s = 8 := by omega
    all_goals clear s0 s8
    all_goals go_wp2_with fail
    all_goals go_meet
    all_goals exact ⟨by rw [← HS.out]; rfl, by rw [← HS.out]; rfl, rfl⟩
  case rest =>
  obtain ⟨rfl, rfl, rfl⟩ := hcut
  obtain ⟨⟨c0, c1, c2, c3⟩, -, -⟩ := cl_cells B.out
  clear c4 c5
  obtain ⟨cb, hcb⟩ : ∃ cb, cb = cntB c.tc c.rc c.off c.rs := ⟨_, rfl⟩
  rw [← hcb] at CN
  have HCB := hide hcb
  clear hcb
  go_wp2_with fail
  (with_reducible refine (CN.out _).mono ?_)
  rintro e1 w1 ⟨rfl, q1⟩
  replace B := hide (heap_below B.out q1)
  replace Q := hide (below_next Q.out Q.out.size q1)
  clear q1 CN c0 c1 c2 c3
  obtain ⟨⟨c0, c1, c2, c3⟩, ⟨c4, c5, c6, c7, c8⟩, ⟨c9, c10, c11, c12, c13⟩, -⟩ := cl_cells B.out
  clear c0 c1 c3 c6 c7
  cases cb
  case false =>
    go_wp2_with fail
    go_ret
    exact ⟨rfl, Q.out⟩
  obtain ⟨lt, tp, hlt, htp⟩ : ∃ lt tp : Int, lt = leN c.st ∧ tp = topN c.st := ⟨_, _, rfl, rfl⟩
  rw [← hlt, ← htp]
  have HLT := hide hlt
  have HTP := hide htp
  clear hlt htp
  by_cases h8 : c.off = (c.st == 8)
  case neg =>
    have h9 : c.off = !(c.st == 8) := by cases ho : c.off <;> cases hs8 : (c.st == 8) <;> simp_all
    rw [h9] at c2
    clear h8 h9
    rcases Int.decEq c.st 8 with k | k
    all_goals go_wp2_with fail
    all_goals go_ret
    all_goals exact ⟨rfl, Q.out⟩
  have H8 := hide h8
  rw [h8] at c2
  clear h8
  by_cases hn1 : c.n < lt
  · go_wp2_with fail
    go_ret
    exact ⟨rfl, Q.out⟩
  by_cases hn2 : tp < c.n
  · go_wp2_with fail
    go_ret
    exact ⟨rfl, Q.out⟩
  rcases Bool.eq_false_or_eq_true c.has with hh | hh
  · have HH := hide hh
    rw [hh] at c8
    clear hh
    go_wp2_with fail
    (with_reducible refine (FR.out _).mono ?_)
    rintro e2 w2 ⟨rfl, q2⟩
    replace B := hide (heap_below B.out q2)
    replace Q := hide (below_next Q.out Q.out.size q2)
    clear q2 FR c2 c4 c5 c8 c9 c10 c11 c12 c13
    obtain ⟨-, ⟨c4, -, -, -, c8⟩, -⟩ := cl_cells B.out
    rw [HH.out] at c8
    rcases Bool.eq_false_or_eq_true (FP.rightB c.f) with hrf | hrf
    case inr =>
      rw [hrf]
      go_wp2_with fail
      go_ret
      exact ⟨rfl, Q.out⟩
    rw [hrf]
    have HFR := hide (show (if c.has = true then FP.rightB c.f else frz c.f) = true by rw [if_pos HH.out]; exact hrf)
    have HHR := hide (show c.has = true → FP.rightB c.f = true from fun _ => hrf)
    clear hrf
    have HL2 := hide (show (if c.st = 2 then inB c else outB c) = false from by
      have h := HC.out
      unfold rightC at h
      have hb : (c.off == (c.st == 8)) = true := by rw [H8.out]; exact beq_self_eq_true _
      rw [decide_eq_true HST.out.1, decide_eq_true HST.out.2, ← HCB.out, hb, decide_eq_true (show leN c.st ≤ c.n by rw [← HLT.out]; omega), decide_eq_true (show c.n ≤ topN c.st by rw [← HTP.out]; omega), HFR.out] at h
      simpa using h)
    by_cases e2 : c.st = 2
    · have hI := HL2.out
      rw [if_pos e2] at hI
      have I2 := hide (INN.out HHR.out)
      rw [hI] at I2
      rw [e2] at c4
      clear hI
      go_wp2_with (refine wpList_load_row rfl 33 (.tmp 1) (by rfl) w.heap.size (by rfl) 33 c.cs.toArray (0, 0) _ (by exact B.out) Tryz.underlying33 (by rfl) (by kernel_rfl) ?_)
      (with_reducible refine (I2.out _).mono ?_)
      rintro e3 w3 ⟨rfl, q3⟩
      have Q3 := hide (below_next Q.out Q.out.size q3)
      go_wp2_with fail
      go_ret
      exact ⟨rfl, Q3.out⟩
    · have hI := HL2.out
      rw [if_neg e2] at hI
      have I2 := OUT
      rw [hI] at I2
      have e2' : (c.st == 2) = false := by simpa using e2
      clear hI
      go_wp2_with (refine wpList_load_row rfl 33 (.tmp 1) (by rfl) w.heap.size (by rfl) 33 c.cs.toArray (0, 0) _ (by exact B.out) Tryz.underlying33 (by rfl) (by kernel_rfl) ?_)
      (with_reducible refine (I2.out _).mono ?_)
      rintro e3 w3 ⟨rfl, q3⟩
      have Q3 := hide (below_next Q.out Q.out.size q3)
      go_wp2_with fail
      go_ret
      exact ⟨rfl, Q3.out⟩
  · have HH := hide hh
    rw [hh] at c8
    clear hh FR
    by_cases hz : frz c.f = true
    case neg =>
      have HNZ := hide (show c.f.id = 0 → c.f.ext = false → c.f.rem = false → c.f.dlc = 0 → c.f.data.toList = [] → False from fun a b d e f => hz (by unfold frz; rw [decide_eq_true a, b, d, decide_eq_true e, decide_eq_true f]; rfl))
      clear hz
      obtain ⟨x1, hx1⟩ : ∃ x1, x1 = c.f.ext := ⟨_, rfl⟩
      obtain ⟨x2, hx2⟩ : ∃ x2, x2 = c.f.rem := ⟨_, rfl⟩
      rw [← hx1] at c10
      rw [← hx2] at c11
      have HX1 := hide hx1
      have HX2 := hide hx2
      clear hx1 hx2
      cases x1 <;> cases x2
      all_goals go_wp2_with fail
      all_goals first
        | (go_ret; exact ⟨rfl, Q.out⟩)
        | exact absurd (HNZ.out (by omega) HX1.out.symm HX2.out.symm (by omega) (by assumption)) (fun h => h)
    have hf := frz_eq hz
    have HFR := hide (show (if c.has = true then FP.rightB c.f else frz c.f) = true by rw [if_neg (by rw [HH.out]; decide)]; exact hz)
    have HHR := hide (show c.has = true → FP.rightB c.f = true from fun q => absurd (q.symm.trans HH.out) (by decide))
    have d9 : w1.cell? ⟨w.heap.size, 9, none⟩ = some (.int .u32 0) := by rw [hf] at c9; exact c9
    have d10 : w1.cell? ⟨w.heap.size, 10, none⟩ = some (.bool false) := by rw [hf] at c10; exact c10
    have d11 : w1.cell? ⟨w.heap.size, 11, none⟩ = some (.bool false) := by rw [hf] at c11; exact c11
    have d12 : w1.cell? ⟨w.heap.size, 12, none⟩ = some (.int .i64 0) := by rw [hf] at c12; exact c12
    have d13 : w1.cell? ⟨w.heap.size, 13, none⟩ = some (.string ⟨#[]⟩) := by rw [hf] at c13; exact c13
    clear hf hz c9 c10 c11 c12 c13
    have HL2 := hide (show (if c.st = 2 then inB c else outB c) = false from by
      have h := HC.out
      unfold rightC at h
      have hb : (c.off == (c.st == 8)) = true := by rw [H8.out]; exact beq_self_eq_true _
      rw [decide_eq_true HST.out.1, decide_eq_true HST.out.2, ← HCB.out, hb, decide_eq_true (show leN c.st ≤ c.n by rw [← HLT.out]; omega), decide_eq_true (show c.n ≤ topN c.st by rw [← HTP.out]; omega), HFR.out] at h
      simpa using h)
    by_cases e2 : c.st = 2
    · have hI := HL2.out
      rw [if_pos e2] at hI
      have I2 := hide (INN.out HHR.out)
      rw [hI] at I2
      rw [e2] at c4
      rw [e2] at c2
      clear hI
      go_wp2_with (refine wpList_load_row rfl 33 (.tmp 1) (by rfl) w.heap.size (by rfl) 33 c.cs.toArray (0, 0) _ (by exact B.out) Tryz.underlying33 (by rfl) (by kernel_rfl) ?_)
      (with_reducible refine (I2.out _).mono ?_)
      rintro e3 w3 ⟨rfl, q3⟩
      have Q3 := hide (below_next Q.out Q.out.size q3)
      go_wp2_with fail
      go_ret
      exact ⟨rfl, Q3.out⟩
    · have hI := HL2.out
      rw [if_neg e2] at hI
      have I2 := OUT
      rw [hI] at I2
      have e2' : (c.st == 2) = false := by simpa using e2
      clear hI
      go_wp2_with (refine wpList_load_row rfl 33 (.tmp 1) (by rfl) w.heap.size (by rfl) 33 c.cs.toArray (0, 0) _ (by exact B.out) Tryz.underlying33 (by rfl) (by kernel_rfl) ?_)
      (with_reducible refine (I2.out _).mono ?_)
      rintro e3 w3 ⟨rfl, q3⟩
      have Q3 := hide (below_next Q.out Q.out.size q3)
      go_wp2_with fail
      go_ret
      exact ⟨rfl, Q3.out⟩
end Go.Proofs.YtkfedgjepiljiaaGreatDoor
