/- The reference's Order, as a function. -/
import Derived.Test.YtbdgifngldipcaaRfB
import Derived.Test.YtbdgifngldipcaaPrL
namespace Go.Proofs.Ytbdgifngldipcaa
open Go.ChangeShapes Go.WideShapes Go.ChangeAt Go.RowKit
open FP (Fr)

namespace OP
def atF (l : List Fr) (k : Nat) : Fr := (l[k]?).getD ⟨0, false, false, 0, ⟨#[]⟩⟩
theorem atF_lt {l : List Fr} {k : Nat} (h : k < l.length) : atF l k = l[k] := by unfold atF; rw [List.getElem?_eq_getElem h]; rfl
/-- The place of the best one of the first j. -/
def bestTo (l : List Fr) : Nat → Nat
  | 0 => 0
  | j + 1 => if lessB (atF l j) (atF l (bestTo l j)) = true then j else bestTo l j
theorem bestTo_lt (l : List Fr) : ∀ j, 0 < j → bestTo l j < j
  | 0, h => absurd h (by omega)
  | 1, _ => by unfold bestTo; split <;> simp [bestTo]
  | j + 2, _ => by
    unfold bestTo
    have := bestTo_lt l (j + 1) (by omega)
    split <;> omega
/-- The best one, again and again. -/
def ordN : Nat → List Fr → List Fr
  | 0, _ => []
  | n + 1, l => if l = [] then [] else atF l (bestTo l l.length) :: ordN n (l.take (bestTo l l.length) ++ l.drop (bestTo l l.length + 1))
def orderF (l : List Fr) : List Fr := ordN l.length l
theorem rest_len {l : List Fr} {k : Nat} (h : k < l.length) : (l.take k ++ l.drop (k + 1)).length = l.length - 1 := by
  simp; omega
theorem orderF_nil : orderF [] = [] := rfl
theorem orderF_step {l : List Fr} (h : 0 < l.length) : orderF l = atF l (bestTo l l.length) :: orderF (l.take (bestTo l l.length) ++ l.drop (bestTo l l.length + 1)) := by
  unfold orderF
  obtain ⟨n, hn⟩ : ∃ n, l.length = n + 1 := ⟨l.length - 1, by omega⟩
  have hb := bestTo_lt l l.length h
  have hr := rest_len hb
  conv => lhs; rw [hn]
  rw [ordN, if_neg (by intro e; rw [e] at h; simp at h), hr, show l.length - 1 = n by omega]
theorem ordN_len : ∀ (n : Nat) (l : List Fr), l.length = n → (ordN n l).length = n
  | 0, _, _ => rfl
  | n + 1, l, h => by
    rw [ordN, if_neg (by intro e; rw [e] at h; simp at h), List.length_cons, ordN_len n _ (by rw [rest_len (bestTo_lt l _ (by omega))]; omega)]
theorem orderF_len (l : List Fr) : (orderF l).length = l.length := ordN_len _ l rfl
theorem rest_perm {l : List Fr} {k : Nat} (h : k < l.length) : (l[k] :: (l.take k ++ l.drop (k + 1))).Perm l := by
  have e : l.take k ++ l[k] :: l.drop (k + 1) = l := by rw [← List.drop_eq_getElem_cons h, List.take_append_drop]
  have := (List.perm_middle (a := l[k]) (l₁ := l.take k) (l₂ := l.drop (k + 1))).symm
  rwa [e] at this
theorem ordN_perm : ∀ (n : Nat) (l : List Fr), l.length = n → (ordN n l).Perm l
  | 0, l, h => by rw [List.length_eq_zero_iff.1 h]; exact List.Perm.refl _
  | n + 1, l, h => by
    have hb := bestTo_lt l l.length (by omega)
    rw [ordN, if_neg (by intro e; rw [e] at h; simp at h), atF_lt hb]
    exact (List.Perm.cons _ (ordN_perm n _ (by rw [rest_len hb]; omega))).trans (rest_perm hb)
theorem orderF_perm (l : List Fr) : (orderF l).Perm l := ordN_perm _ l rfl
end OP
end Go.Proofs.Ytbdgifngldipcaa
