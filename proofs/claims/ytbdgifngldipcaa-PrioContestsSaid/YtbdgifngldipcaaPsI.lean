/- slices' insertion sort of frames: stable, and sorted. -/
import Derived.Test.YtbdgifngldipcaaPsA
import Derived.Test.YtbdgifngldipcaaPrL
import Derived.Test.YtbdgifngldipcaaOrdL
namespace Go.Proofs.Ytbdgifngldipcaa
open Go.ChangeShapes Go.WideShapes Go.ChangeAt Go.RowKit
open FP (Fr)
open PP (bl)

namespace SP
abbrev F (m : List Fr) (k : Nat) : List UInt8 := fieldF (OP.atF m k)
/-- The i-th one is on its way down, at j. -/
structure InsJ (m : List Fr) (i j : Nat) : Prop where
  hj : j ≤ i
  so : ∀ p q, p < q → q ≤ i → p ≠ j → q ≠ j → bl (F m q) (F m p) = false
  up : ∀ q, j < q → q ≤ i → bl (F m j) (F m q) = true
def preP (m : List Fr) (i : Nat) : Prop := ∀ p q, p < q → q < i → bl (F m q) (F m p) = false
theorem InsJ.start {m : List Fr} {i : Nat} (h : preP m i) : InsJ m i i := ⟨Nat.le_refl _, fun p q hpq hq hp hqi => h p q hpq (by omega), fun q h1 h2 => absurd h1 (by omega)⟩
theorem InsJ.stop {m : List Fr} {i j : Nat} (h : InsJ m i j) (hs : j = 0 ∨ bl (F m j) (F m (j - 1)) = false) : preP m (i + 1) := fun p q hpq hq => by
  by_cases hp : p = j
  · subst hp
    exact bl_asymm (h.up q hpq (by omega))
  · by_cases hqj : q = j
    · subst hqj
      rcases hs with hs | hs
      · omega
      · by_cases e : p = q - 1
        · rw [e]; exact hs
        · exact bl_ntrans hs (h.so p (q - 1) (by omega) (by omega) hp (by omega))
    · exact h.so p q hpq (by omega) hp hqj
/-- Two neighbours have changed places. -/
def swF (m : List Fr) (j p : Nat) : List Fr := (m.set j (OP.atF m p)).set p (OP.atF m j)
theorem swF_len (m : List Fr) (j p : Nat) : (swF m j p).length = m.length := by unfold swF; rw [List.length_set, List.length_set]
theorem swF_at {m : List Fr} {j p : Nat} (hj : j < m.length) (hp : p < m.length) (k : Nat) : OP.atF (swF m j p) k = if k = p then OP.atF m j else if k = j then OP.atF m p else OP.atF m k := by
  unfold swF OP.atF
  rw [List.getElem?_set, List.getElem?_set]
  by_cases h1 : p = k
  · subst h1
    rw [if_pos rfl, if_pos rfl, if_pos (by rw [List.length_set]; exact hp)]
    rfl
  · rw [if_neg h1, if_neg (Ne.symm h1)]
    by_cases h2 : j = k
    · subst h2
      rw [if_pos rfl, if_pos rfl, if_pos hj]
      rfl
    · rw [if_neg h2, if_neg (Ne.symm h2)]
theorem InsJ.step {m : List Fr} {i j p : Nat} (h : InsJ m i j) (hi : i < m.length) (hp : j = p + 1) (hb : bl (F m j) (F m p) = true) : InsJ (swF m j p) i p := by
  have hj := h.hj
  have at' := swF_at (m := m) (j := j) (p := p) (by omega) (by omega)
  refine ⟨by omega, fun a b hab hbi ha hbp => ?_, fun q h1 h2 => ?_⟩
  · unfold F
    rw [at' a, at' b, if_neg ha, if_neg hbp]
    by_cases ea : a = j
    · rw [if_pos ea, if_neg (by omega)]
      exact h.so p b (by omega) hbi (by omega) (by omega)
    · rw [if_neg ea]
      by_cases eb : b = j
      · rw [if_pos eb]
        exact h.so a p (by omega) (by omega) ea (by omega)
      · rw [if_neg eb]
        exact h.so a b hab hbi ea eb
  · unfold F
    rw [at' p, at' q, if_pos rfl, if_neg (by omega)]
    by_cases eq : q = j
    · rw [if_pos eq]; exact hb
    · rw [if_neg eq]
      exact h.up q (by omega) h2
theorem swF_cl {m : List Fr} {j p : Nat} (hj : j < m.length) (hp : j = p + 1) (hb : bl (F m j) (F m p) = true) : clP (swF m j p) m := by
  have hne : fieldF (OP.atF m j) ≠ fieldF (OP.atF m p) := fun e => by
    unfold F at hb
    rw [e, PP.bl_irrefl] at hb
    cases hb
  have hpl : p < m.length := by omega
  have hm : m = m.take p ++ OP.atF m p :: OP.atF m j :: m.drop (j + 1) := by
    have e1 : m.drop p = m[p] :: m.drop (p + 1) := List.drop_eq_getElem_cons hpl
    have e2 : m.drop (p + 1) = m[p + 1] :: m.drop (p + 1 + 1) := List.drop_eq_getElem_cons (by omega)
    rw [OP.atF_lt hpl, OP.atF_lt hj]
    subst hp
    rw [← e2, ← e1, List.take_append_drop]
  have hs : swF m j p = m.take p ++ OP.atF m j :: OP.atF m p :: m.drop (j + 1) := by
    unfold swF
    generalize OP.atF m j = x at *
    generalize OP.atF m p = y at *
    have hl : (m.take p).length = p := by rw [List.length_take]; omega
    generalize m.take p = a at *
    generalize m.drop (j + 1) = b at *
    rw [hm, List.set_append_right _ _ (by omega), hl, List.set_append_right _ _ (by omega), hl, hp, show p + 1 - p = 1 by omega, Nat.sub_self]
    rfl
  intro F'
  rw [hs]
  conv => rhs; rw [hm]
  rw [List.filter_append, List.filter_append]
  congr 1
  rw [List.filter_cons, List.filter_cons, List.filter_cons, List.filter_cons]
  by_cases h1 : (fieldF (OP.atF m j) == F') = true
  · have h2 : (fieldF (OP.atF m p) == F') = false := by
      rw [beq_eq_false_iff_ne]
      intro e
      exact hne (by rw [e]; simpa using h1)
    simp only [h1, h2, if_true, if_false, Bool.false_eq_true]
  · simp only [h1, if_false, Bool.false_eq_true]
theorem preP_all {m : List Fr} (h : preP m m.length) : stP m := by
  unfold stP
  rw [List.pairwise_iff_getElem]
  intro p q hp hq hpq
  have := h p q hpq hq
  unfold F at this
  rw [OP.atF_lt hp, OP.atF_lt hq] at this
  exact this
end SP
end Go.Proofs.Ytbdgifngldipcaa
