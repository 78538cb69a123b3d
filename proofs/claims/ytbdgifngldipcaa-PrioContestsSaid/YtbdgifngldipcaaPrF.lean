/- Fields of frames: their order by numbers; which are left. -/
import Derived.Test.YtbdgifngldipcaaPrPlain
namespace Go.Proofs.Ytbdgifngldipcaa
open FP (bit bitsOf Fr bitB numOf)

namespace PP
theorem numOf_inj : ∀ x y : List UInt8, x.length = y.length → (∀ c ∈ x, c = 48 ∨ c = 49) → (∀ c ∈ y, c = 48 ∨ c = 49) → numOf x = numOf y → x = y
  | [], [], _, _, _, _ => rfl
  | [], _ :: _, h, _, _, _ => by simp at h
  | _ :: _, [], h, _, _, _ => by simp at h
  | a :: x, b :: y, h, hx, hy, hn => by
    have hl : x.length = y.length := by simpa using h
    rw [FP.numOf_cons, FP.numOf_cons, hl] at hn
    have h1 := FP.numOf_lt x
    have h2 := FP.numOf_lt y
    rw [hl] at h1
    rcases hx a (by simp) with rfl | rfl <;> rcases hy b (by simp) with rfl | rfl
    · simp at hn
      rw [numOf_inj x y hl (fun c hc => hx c (by simp [hc])) (fun c hc => hy c (by simp [hc])) hn]
    · simp at hn; omega
    · simp at hn; omega
    · simp at hn
      rw [numOf_inj x y hl (fun c hc => hx c (by simp [hc])) (fun c hc => hy c (by simp [hc])) hn]

/-- Rows of bits, of one length, are ordered as their numbers; what stands behind them decides where they are alike. -/
theorem bl_num : ∀ x y u v : List UInt8, x.length = y.length → (∀ c ∈ x, c = 48 ∨ c = 49) → (∀ c ∈ y, c = 48 ∨ c = 49) → bl (x ++ u) (y ++ v) = if numOf x = numOf y then bl u v else decide (numOf x < numOf y)
  | [], [], u, v, _, _, _ => by simp
  | [], _ :: _, _, _, h, _, _ => by simp at h
  | _ :: _, [], _, _, h, _, _ => by simp at h
  | a :: x, b :: y, u, v, h, hx, hy => by
    have hl : x.length = y.length := by simpa using h
    have h1 := FP.numOf_lt x
    have h2 := FP.numOf_lt y
    rw [hl] at h1
    have ih := bl_num x y u v hl (fun c hc => hx c (by simp [hc])) (fun c hc => hy c (by simp [hc]))
    rw [FP.numOf_cons, FP.numOf_cons, hl]
    simp only [List.cons_append, bl, Op.bytesLess]
    simp only [bl] at ih
    rw [ih]
    rcases hx a (by simp) with rfl | rfl <;> rcases hy b (by simp) with rfl | rfl
    · simp
    · simp
      rw [if_neg (by omega)]
      omega
    · simp
      rw [if_neg (by omega)]
      omega
    · simp

theorem bl_bits (a b w : Nat) (ha : a < 2 ^ w) (hb : b < 2 ^ w) (u v : List UInt8) : bl (bitsOf a w ++ u) (bitsOf b w ++ v) = if a = b then bl u v else decide (a < b) := by
  rw [bl_num _ _ u v (by rw [FP.bitsOf_length, FP.bitsOf_length]) (fun c hc => FP.bitsOf_mem hc) (fun c hc => FP.bitsOf_mem hc), FP.numOf_bitsOf, FP.numOf_bitsOf, Nat.mod_eq_of_lt ha, Nat.mod_eq_of_lt hb]

theorem bitB_or (b : Bool) : bitB b = 48 ∨ bitB b = 49 := by cases b <;> simp [bitB]

theorem fld_of (f : Fr) : Fld (fieldF f) := by
  unfold fieldF
  split
  · refine ⟨fun c hc => ?_, .inr ⟨by simp [FP.bitsOf_length], ?_⟩⟩
    · simp only [List.mem_append, List.mem_cons, List.not_mem_nil, or_false] at hc
      rcases hc with ((hc | rfl | rfl) | hc) | rfl
      · exact FP.bitsOf_mem (List.mem_of_mem_take hc)
      · simp
      · simp
      · exact FP.bitsOf_mem (List.mem_of_mem_drop hc)
      · exact bitB_or _
    · rw [List.append_assoc, List.append_assoc, List.getElem?_append_right (by simp [FP.bitsOf_length])]
      simp [FP.bitsOf_length]
  · refine ⟨fun c hc => ?_, .inl ⟨by simp [FP.bitsOf_length], ?_⟩⟩
    · simp only [List.mem_append, List.mem_cons, List.not_mem_nil, or_false] at hc
      rcases hc with (hc | rfl) | rfl
      · exact FP.bitsOf_mem hc
      · exact bitB_or _
      · simp
    · rw [List.append_assoc, List.getElem?_append_right (by simp [FP.bitsOf_length])]
      simp [FP.bitsOf_length]

theorem lessB_bl {f g : Fr} (hf : FP.rightB f = true) (hg : FP.rightB g = true) : lessB f g = bl (fieldF f) (fieldF g) := by simp [lessB, hf, hg]

theorem best_of (F : Nat → List UInt8) (hF : ∀ j, Fld (F j)) : ∀ n, 0 < n → ∃ b, b < n ∧ ∀ j, j < n → bl (F j) (F b) = false
  | 0, h => absurd h (by omega)
  | 1, _ => ⟨0, by omega, fun j hj => by have : j = 0 := by omega
                                         rw [this]; exact bl_irrefl _⟩
  | n + 2, _ => by
    obtain ⟨b, hb, h⟩ := best_of F hF (n + 1) (by omega)
    by_cases hl : bl (F (n + 1)) (F b) = true
    · refine ⟨n + 1, by omega, fun j hj => ?_⟩
      by_cases hj' : j = n + 1
      · rw [hj']; exact bl_irrefl _
      · by_cases hjl : bl (F j) (F (n + 1)) = true
        · have := bl_trans _ _ _ hjl hl
          rw [h j (by omega)] at this
          cases this
        · simpa using hjl
    · refine ⟨b, by omega, fun j hj => ?_⟩
      by_cases hj' : j = n + 1
      · rw [hj']; simpa using hl
      · exact h j (by omega)

def FL (l : List Fr) (j : Nat) : List UInt8 := if h : j < l.length then fieldF l[j] else fieldF ⟨0, false, false, 0, ⟨#[]⟩⟩
theorem FL_lt {l : List Fr} {j : Nat} (h : j < l.length) : FL l j = fieldF l[j] := dif_pos h
theorem FL_fld (l : List Fr) (j : Nat) : Fld (FL l j) := by unfold FL; split <;> exact fld_of _
theorem busN_congr {S S' : Nat → ByteArray} {x y : Nat → Int} (k : Nat) : ∀ p, (∀ i, i < p → S i = S' i ∧ x i = y i) → busN S x k p = busN S' y k p
  | 0, _ => rfl
  | p + 1, h => by
    unfold busN
    rw [busN_congr k p (fun i hi => h i (by omega)), (h p (by omega)).1, (h p (by omega)).2]
theorem lostN_congr {S S' : Nat → ByteArray} {n : Nat} (h : ∀ i, i < n → S i = S' i) : ∀ k j, j < n → lostN S n k j = lostN S' n k j
  | 0, _, _ => rfl
  | k + 1, j, hj => by
    rw [lostN_succ, lostN_succ, lostN_congr h k j hj, h j hj, busN_congr k n (fun i hi => ⟨h i hi, lostN_congr h k i hi⟩)]
theorem lostF_eq (l : List Fr) (j : Nat) (hj : j < l.length) : lostF l j = lostN (strs (FL l)) l.length 32 j :=
  lostN_congr (fun i hi => by rw [SF_lt hi]; simp only [strs, FL_lt hi]; rfl) 32 j hj

/-- b is among the best ones. -/
def Best (l : List Fr) (b : Nat) : Prop := b < l.length ∧ ∀ j, j < l.length → bl (FL l j) (FL l b) = false
theorem best_is (l : List Fr) (h : 0 < l.length) : ∃ b, Best l b := best_of (FL l) (FL_fld l) l.length h
theorem left_iff {l : List Fr} {b : Nat} (hb : Best l b) {j : Nat} (hj : j < l.length) : lostF l j < 0 ↔ FL l j = FL l b := by
  rw [lostF_eq l j hj]
  exact lost_end (fun j _ => FL_fld l j) hb.1 rfl hb.2 j hj
end PP
end Go.Proofs.Ytbdgifngldipcaa
