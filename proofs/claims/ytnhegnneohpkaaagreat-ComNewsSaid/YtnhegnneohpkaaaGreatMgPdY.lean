/- The walk of PduAgain. -/
import Derived.Test.YtnhegnneohpkaaaGreatMgPdH
import Derived.Test.YtnhegnneohpkaaaGreatPdX
import Derived.Test.YtnhegnneohpkaaaGreatMgSnC
import Derived.Test.YtnhegnneohpkaaaGreatMgPdU
namespace Go.Proofs.YtnhegnneohpkaaaGreat
open Go.ChangeShapes Go.WideShapes Go.ChangeAt Go.RowKit
open SG PD

theorem boRow_rows (l : List Bool) : ∀ r ∈ boRow l, r.length = 1 := by
  intro r hr
  obtain ⟨p, _, rfl⟩ := List.mem_map.1 hr
  rfl
theorem inOwn_rd {W : World} {base : Nat} {A : Option Addr} {c : Nat} {l : List Int} {e : TypeId} (h : Own W base e 1 A c (inRow l)) : InR W W.heap.size A l := h.rd (inRow_rows _)
theorem boOwn_rd {W : World} {base : Nat} {A : Option Addr} {c : Nat} {l : List Bool} {e : TypeId} (h : Own W base e 1 A c (boRow l)) : BoR W W.heap.size A l := h.rd (boRow_rows _)

end Go.Proofs.YtnhegnneohpkaaaGreat

/- The walk of recv.Right. -/
namespace Go.Proofs.YtnhegnneohpkaaaGreat
open Go.ChangeShapes Go.WideShapes Go.ChangeAt Go.RowKit
open CM PD SG

set_option maxRecDepth 100000 in
set_option maxHeartbeats 8000000 in
theorem recvRight_any (f : Wt) (w : World) : Calls Tryz.prog 60 #[.agg #[.int .i64 f.first, .int .i64 f.each, .int .i64 f.left, .bool f.on, .bool f.late]] w fun e w' => e = .returned (.bool (wtB f)) ∧ Below w.heap.size w w' := by
  obtain ⟨r, hr⟩ : ∃ r, r = wtB f := ⟨_, rfl⟩
  have HR := hide (show r = true ↔ 0 ≤ f.first ∧ f.first ≤ 1000000 ∧ 0 ≤ f.each ∧ f.each ≤ 1000000 ∧ 0 ≤ f.left ∧ f.left ≤ max f.first f.each ∧ (f.on = true ∨ f.left = 0 ∧ f.late = false) ∧ (f.late = false ∨ f.left = 0) from by rw [hr]; unfold wtB; rw [decide_eq_true_eq])
  rw [← hr]
  clear hr
  obtain ⟨first, each, left, on, late⟩ := f
  dsimp only at *
  obtain ⟨m, em, hm⟩ := run_max (P := Tryz.prog) first each
  have EM := hide em
  have HMX := hide (show (if first ≤ each then each else first) = max first each by split <;> omega)
  rw [← em] at HR
  clear em
  have q0 : Below w.heap.size w (w.alloc (.cells #[.int .i64 first, .int .i64 each, .int .i64 left, .bool on, .bool late] 45)) := (Below.refl _ _).alloc (Nat.le_refl _) _
  by_cases h0 : left = 0
  · have e1 : (left == 0) = true := by rw [beq_iff_eq]; exact h0
    have H := hide h0
    clear h0
    cases on <;> cases late
    all_goals go_enter Tryz.func60, Tryz.ntmps60
    all_goals go_wp2_with fail
    all_goals have h8 := H.out
    all_goals have h9 : m = max first each := EM.out
    all_goals have h10 := HMX.out
    all_goals generalize (if first ≤ each then each else first) = mm at *
    all_goals go_ret
    all_goals refine ⟨ret_bool ?_, q0⟩
    all_goals have HX := HR.out
    all_goals simp only [Bool.false_eq_true, reduceCtorEq, false_or, and_true, true_and, and_false, false_and, or_false, true_or] at HX
    all_goals (first | exact r_true HX (by omega) | exact r_false HX (by omega) | exact r_false HX (by simp) | exact r_dec HX (by omega))
  · have e1 : (left == 0) = false := by rw [beq_eq_false_iff_ne]; exact h0
    have H := hide h0
    clear h0
    cases on <;> cases late
    all_goals go_enter Tryz.func60, Tryz.ntmps60
    all_goals go_wp2_with fail
    all_goals have h8 := H.out
    all_goals have h9 : m = max first each := EM.out
    all_goals have h10 := HMX.out
    all_goals generalize (if first ≤ each then each else first) = mm at *
    all_goals go_ret
    all_goals refine ⟨ret_bool ?_, q0⟩
    all_goals have HX := HR.out
    all_goals simp only [Bool.false_eq_true, reduceCtorEq, false_or, and_true, true_and, and_false, false_and, or_false, true_or] at HX
    all_goals (first | exact r_true HX (by omega) | exact r_false HX (by omega) | exact r_false HX (by simp) | exact r_dec HX (by omega))
end Go.Proofs.YtnhegnneohpkaaaGreat

/- Walks of recv.New, package group; slices.Clone of int64s. -/
namespace Go.Proofs.YtnhegnneohpkaaaGreat
open Go.ChangeShapes Go.WideShapes Go.ChangeAt Go.RowKit
open CM PD SG
attribute [local go_sem] run_eql_nil

def wtcL (f : Wt) : List Value := [.int .i64 f.first, .int .i64 f.each, .int .i64 f.left, .bool f.on, .bool f.late]
def zWt : Wt := ⟨0, 0, 0, false, false⟩
def newWt (a b : Int) : Wt := if wtB ⟨a, b, 0, false, false⟩ = true then ⟨a, b, 0, false, false⟩ else zWt
def newWtE (a b : Int) : Int := if wtB ⟨a, b, 0, false, false⟩ = true then 0 else 1

def mayG (n : Nat) : Bool := decide (1 ≤ n ∧ n ≤ 16)
set_option maxRecDepth 100000 in
theorem rowMay_any (A : Option Addr) (n c : Nat) (w : World) : Calls Tryz.prog 47 #[.slice A n c] w fun e w' => e = .returned (.bool (mayG n)) ∧ w = w' := by
  obtain ⟨r, hr⟩ : ∃ r, r = mayG n := ⟨_, rfl⟩
  have HR := hide (show r = true ↔ 1 ≤ n ∧ n ≤ 16 from by rw [hr]; unfold mayG; simp)
  rw [← hr]
  clear hr
  go_enter Tryz.func47, Tryz.ntmps47
  go_wp2_with fail
  all_goals go_ret
  all_goals refine ⟨ret_bool ?_, rfl⟩
  all_goals (first | exact r_true HR.out (by omega) | exact r_false HR.out (by omega) | exact r_dec HR.out (by omega))
def grB (n m : Nat) (times : Int) : Bool := mayG n && (decide (m = n) && decide (0 ≤ times ∧ times ≤ 1099511627776))
set_option maxRecDepth 100000 in
set_option maxHeartbeats 4000000 in
theorem grRight_any (S G : Option Addr) (n c m d : Nat) (times : Int) (w : World) : Calls Tryz.prog 50 #[.agg #[.slice S n c, .slice G m d, .int .i64 times]] w fun e w' => e = .returned (.bool (grB n m times)) ∧ Below w.heap.size w w' := by
  obtain ⟨r, hr⟩ : ∃ r, r = grB n m times := ⟨_, rfl⟩
  have HR := hide (show r = true ↔ mayG n = true ∧ m = n ∧ 0 ≤ times ∧ times ≤ 1099511627776 from by rw [hr]; unfold grB; simp)
  rw [← hr]
  clear hr
  have RM := hide (fun W => rowMay_any S n c W)
  generalize mayG n = y at *
  have q0 : Below w.heap.size w (w.alloc (.cells #[.slice S n c, .slice G m d, .int .i64 times] 35)) := (Below.refl _ _).alloc (Nat.le_refl _) _
  have B0 := World.alloc_heap_new w (.cells #[.slice S n c, .slice G m d, .int .i64 times] 35)
  obtain ⟨c0, c1, c2⟩ := three_cells B0
  have Q0 := hide q0
  clear q0 B0
  generalize hw0 : w.alloc (.cells #[.slice S n c, .slice G m d, .int .i64 times] 35) = w0 at *
  cases y with
  | false =>
    go_enter Tryz.func50, Tryz.ntmps50
    go_wp2_with fail
    (with_reducible refine (RM.out _).mono ?_)
    rintro e1 w1 ⟨rfl, rfl⟩
    go_wp2_with fail
    go_ret
    exact ⟨ret_bool (r_false HR.out (by simp)), Q0.out⟩
  | true =>
    by_cases hm : m = n
    · have e1 : ((m : Int) == (n : Int)) = true := by rw [beq_iff_eq]; omega
      have HM := hide hm
      clear hm
      go_enter Tryz.func50, Tryz.ntmps50
      go_wp2_with fail
      (with_reducible refine (RM.out _).mono ?_)
      rintro e1 w1 ⟨rfl, rfl⟩
      have HX : Hid (r = true ↔ 0 ≤ times ∧ times ≤ 1099511627776) := hide (by have := HR.out; simp only [true_and, HM.out] at this; exact this)
      go_wp2_with fail
      all_goals go_ret
      all_goals refine ⟨ret_bool ?_, Q0.out⟩
      all_goals (first | exact r_true HX.out (by omega) | exact r_false HX.out (by omega) | exact r_dec HX.out (by omega))
    · have e1 : ((m : Int) == (n : Int)) = false := by rw [beq_eq_false_iff_ne]; omega
      have HM := hide hm
      clear hm
      go_enter Tryz.func50, Tryz.ntmps50
      go_wp2_with fail
      (with_reducible refine (RM.out _).mono ?_)
      rintro e1 w1 ⟨rfl, rfl⟩
      go_wp2_with fail
      go_ret
      exact ⟨ret_bool (r_false HR.out (fun h => HM.out h.2.1)), Q0.out⟩

set_option maxRecDepth 100000 in
set_option maxHeartbeats 4000000 in
theorem cloneI_any (l : List Int) (A : Option Addr) (c : Nat) (w : World) (hr : InR w w.heap.size A l) (hl : l.length ≤ 1000000) :
    Calls Tryz.prog 48 #[.slice A l.length c] w fun e w' => (∃ A' c', e = .returned (.slice A' l.length c') ∧ Own w' w.heap.size 2 1 A' c' (inRow l)) ∧ Below w.heap.size w w' := by
  cases A with
  | none =>
    have h0 : l = [] := by
      cases l with
      | nil => rfl
      | cons x t =>
        obtain ⟨b, off, he, _⟩ := hr (by simp [inRow])
        cases he
    subst h0
    clear hr
    go_enter Tryz.func48, Tryz.ntmps48
    go_wp2_with fail
    go_ret
    exact ⟨⟨none, 0, rfl, Own.nil⟩, Below.refl _ _⟩
  | some a =>
    have q5 : Below w.heap.size w (w.alloc (.cells #[] 2)) := (Below.refl _ _).alloc (Nat.le_refl _) _
    have O5 := hide (Own.lit w w.heap.size 2 1 [] (Nat.le_refl _) (by simp) (by simp))
    have RD5 := hide (Rd.more (Rd.below hr q5) q5.size)
    have E1 := hide (show (([] : List (List Value)).length + (inRow l).length) * 8 ≤ 140737488355328 by rw [inRow_len]; simp; omega)
    have E2 := hide (show ([] : List (List Value)).length + (inRow l).length ≤ maxLen by rw [inRow_len]; simp [maxLen]; omega)
    have E3 := hide (show l.length = (inRow l).length by rw [inRow_len])
    have E4 := hide (show w.heap.size ≤ (w.alloc (.cells #[] 2)).heap.size by simp)
    have E6 := hide (show ∀ r ∈ inRow l, ∀ u ∈ r, u.oneCell' = true from fun r hr u hu => by
      obtain ⟨x, _, rfl⟩ := List.mem_map.1 hr
      rw [List.mem_singleton.1 hu]
      rfl)
    clear hr hl
    go_enter Tryz.func48, Tryz.ntmps48
    go_wp2_with (at_builtin; refine wpList_append_rows _ rfl _ _ 33 rfl slInt64 w.heap.size _ _ _ [] (by rfl) (by exact O5.out) _ _ _ (inRow l) (by rfl) (by exact RD5.out) (by exact inRow_rows l) (by exact E6.out) (by exact E1.out) (by exact E2.out) (by exact E4.out) (by rfl) (by exact E3.out) ?_)
    intro A6 c6 w6 o6 g6
    have hb6 := hide (q5.trans (below_own g6 O5.out E4.out))
    have O6 := hide (show Own w6 w.heap.size 2 1 A6 c6 (inRow l) from o6)
    clear o6 g6 q5 O5 RD5 E1 E2 E4 E6
    go_wp2_with fail
    refine bodyPost_ret (v := .slice A6 l.length c6) (by simp [results, Tryz.results48, go_sem]) rfl ⟨⟨A6, c6, rfl, O6.out⟩, hb6.out⟩
end Go.Proofs.YtnhegnneohpkaaaGreat
