/- The plain law of a stable sort of frames by their fields: there is just one, and it is the reference's order. -/
import Derived.Test.YtbdgifngldipcaaRfO
import Derived.Lib.Bytealg
namespace Go.Proofs.Ytbdgifngldipcaa
open FP (Fr)
open PP (bl)

namespace SP
def stP (l : List Fr) : Prop := l.Pairwise fun a b => bl (fieldF b) (fieldF a) = false
def clP (m l : List Fr) : Prop := ∀ F : List UInt8, m.filter (fun f => fieldF f == F) = l.filter (fun f => fieldF f == F)
theorem clP.refl (l : List Fr) : clP l l := fun _ => rfl
theorem clP.trans {a b c : List Fr} (h : clP a b) (k : clP b c) : clP a c := fun F => (h F).trans (k F)

theorem bl_ntrans {a b c : Fr} (h : bl (fieldF a) (fieldF b) = false) (k : bl (fieldF b) (fieldF c) = false) : bl (fieldF a) (fieldF c) = false := by
  by_cases e : fieldF b = fieldF c
  · rw [← e]; exact h
  · by_cases e2 : fieldF a = fieldF b
    · rw [e2]; exact k
    · have t1 := PP.bl_total (PP.fld_of b) (PP.fld_of c) e
      have t2 := PP.bl_total (PP.fld_of a) (PP.fld_of b) e2
      rw [k] at t1
      rw [h] at t2
      have u1 : bl (fieldF c) (fieldF b) = true := by simpa using t1.symm
      have u2 : bl (fieldF b) (fieldF a) = true := by simpa using t2.symm
      have u3 := PP.bl_trans _ _ _ u1 u2
      by_cases e3 : fieldF a = fieldF c
      · rw [e3]; exact PP.bl_irrefl _
      · rw [PP.bl_total (PP.fld_of a) (PP.fld_of c) e3, u3]; rfl
theorem bl_asymm {a b : Fr} (h : bl (fieldF a) (fieldF b) = true) : bl (fieldF b) (fieldF a) = false := by
  by_cases e : fieldF b = fieldF a
  · rw [e] at h; rw [PP.bl_irrefl] at h; cases h
  · rw [PP.bl_total (PP.fld_of b) (PP.fld_of a) e, h]; rfl

theorem mem_cl {l m : List Fr} (h : clP l m) {a : Fr} (ha : a ∈ l) : a ∈ m := by
  have hm : a ∈ m.filter (fun f => fieldF f == fieldF a) := by rw [← h]; exact List.mem_filter.2 ⟨ha, by simp⟩
  exact (List.mem_filter.1 hm).1

theorem st_uniq : ∀ l m : List Fr, stP l → stP m → clP l m → l = m
  | [], [], _, _, _ => rfl
  | [], b :: m, _, _, h => by have := mem_cl (fun F => (h F).symm) (List.mem_cons_self (a := b) (l := m)); cases this
  | a :: l, [], _, _, h => by have := mem_cl h (List.mem_cons_self (a := a) (l := l)); cases this
  | a :: l, b :: m, h1, h2, h => by
    have e : fieldF a = fieldF b := by
      by_cases e : fieldF a = fieldF b
      · exact e
      · exfalso
        have k1 : bl (fieldF a) (fieldF b) = false := by
          rcases List.mem_cons.1 (mem_cl h (List.mem_cons_self (a := a) (l := l))) with e' | hm
          · exact absurd (by rw [e']) e
          · exact (List.pairwise_cons.1 h2).1 a hm
        have k2 : bl (fieldF b) (fieldF a) = false := by
          rcases List.mem_cons.1 (mem_cl (fun F => (h F).symm) (List.mem_cons_self (a := b) (l := m))) with e' | hm
          · exact absurd (by rw [e']) e
          · exact (List.pairwise_cons.1 h1).1 b hm
        rw [PP.bl_total (PP.fld_of a) (PP.fld_of b) e, k2] at k1
        cases k1
    have h0 := h (fieldF a)
    rw [List.filter_cons_of_pos (by simp), List.filter_cons_of_pos (by simp [e])] at h0
    have hab : a = b := (List.cons.inj h0).1
    subst hab
    rw [st_uniq l m (List.pairwise_cons.1 h1).2 (List.pairwise_cons.1 h2).2 (fun F => by
      have := h F
      by_cases k : (fieldF a == F) = true
      · rw [List.filter_cons_of_pos (p := fun f => fieldF f == F) k, List.filter_cons_of_pos (p := fun f => fieldF f == F) k] at this
        exact (List.cons.inj this).2
      · rw [List.filter_cons_of_neg (p := fun f => fieldF f == F) k, List.filter_cons_of_neg (p := fun f => fieldF f == F) k] at this
        exact this)]

theorem cmp_bl : ∀ x y : List UInt8, Lib.compareBytes x y < 0 ↔ bl x y = true
  | [], [] => by simp [Lib.compareBytes, bl, Op.bytesLess]
  | [], _ :: _ => by simp [Lib.compareBytes, bl, Op.bytesLess]
  | _ :: _, [] => by simp [Lib.compareBytes, bl, Op.bytesLess]
  | a :: x, b :: y => by
    have ih := cmp_bl x y
    unfold Lib.compareBytes
    simp only [bl, Op.bytesLess, Bool.or_eq_true, decide_eq_true_eq, Bool.and_eq_true, beq_iff_eq]
    by_cases h : a < b
    · simp [h]
    · by_cases h2 : b < a
      · have hne : a ≠ b := by rintro rfl; exact PP.lt_irrefl8 _ h2
        simp [h, h2, hne]
      · have hab : a = b := by
          by_cases e : a = b
          · exact e
          · rcases PP.lt_or8 e with h' | h'
            · exact absurd h' h
            · exact absurd h' h2
        subst hab
        simp only [h, if_false, false_or, true_and]
        exact ih

theorem bestTo_min {l : List Fr} (hg : ∀ f ∈ l, FP.rightB f = true) : ∀ j, 0 < j → j ≤ l.length → (∀ i, i < j → bl (fieldF (OP.atF l i)) (fieldF (OP.atF l (OP.bestTo l j))) = false) ∧ (∀ i, i < OP.bestTo l j → bl (fieldF (OP.atF l (OP.bestTo l j))) (fieldF (OP.atF l i)) = true)
  | 0, h, _ => absurd h (by omega)
  | 1, _, _ => by
    have e : OP.bestTo l 1 = 0 := by unfold OP.bestTo; split <;> simp [OP.bestTo]
    rw [e]
    refine ⟨fun i hi => ?_, fun i hi => absurd hi (by omega)⟩
    have hi0 : i = 0 := by omega
    rw [hi0]
    exact PP.bl_irrefl _
  | j + 2, _, hj => by
    obtain ⟨h1, h2⟩ := bestTo_min hg (j + 1) (by omega) (by omega)
    have hb := OP.bestTo_lt l (j + 1) (by omega)
    have hr : ∀ i, i < l.length → FP.rightB (OP.atF l i) = true := fun i hi => by rw [OP.atF_lt hi]; exact hg _ (List.getElem_mem hi)
    have hl := PP.lessB_bl (hr (j + 1) (by omega)) (hr (OP.bestTo l (j + 1)) (by omega))
    have e : OP.bestTo l (j + 2) = if lessB (OP.atF l (j + 1)) (OP.atF l (OP.bestTo l (j + 1))) = true then j + 1 else OP.bestTo l (j + 1) := rfl
    rw [e, hl]
    generalize OP.bestTo l (j + 1) = b at *
    split
    · rename_i hlt
      refine ⟨fun i hi => ?_, fun i hi => ?_⟩
      · by_cases ei : i = j + 1
        · rw [ei]; exact PP.bl_irrefl _
        · exact bl_ntrans (h1 i (by omega)) (bl_asymm hlt)
      · have h3 := h1 i hi
        by_cases e2 : fieldF (OP.atF l i) = fieldF (OP.atF l b)
        · rw [e2]; exact hlt
        · rw [PP.bl_total (PP.fld_of _) (PP.fld_of _) e2] at h3
          exact PP.bl_trans _ _ _ hlt (by simpa using h3)
    · rename_i hlt
      refine ⟨fun i hi => ?_, h2⟩
      by_cases ei : i = j + 1
      · rw [ei]; simpa using hlt
      · exact h1 i (by omega)

theorem order_st : ∀ (n : Nat) (l : List Fr), l.length = n → (∀ f ∈ l, FP.rightB f = true) → stP (OP.orderF l) ∧ clP (OP.orderF l) l
  | 0, l, hl, _ => by
    have : l = [] := List.length_eq_zero_iff.1 hl
    subst this
    exact ⟨List.Pairwise.nil, clP.refl _⟩
  | n + 1, l, hl, hg => by
    have h0 : 0 < l.length := by omega
    obtain ⟨h1, h2⟩ := bestTo_min hg l.length h0 (Nat.le_refl _)
    have hk := OP.bestTo_lt l l.length h0
    rw [OP.orderF_step h0]
    generalize OP.bestTo l l.length = k at *
    have hp := OP.rest_perm hk
    have hrest : ∀ f ∈ l.take k ++ l.drop (k + 1), f ∈ l := fun f hf => hp.mem_iff.1 (List.mem_cons_of_mem _ hf)
    obtain ⟨i1, i2⟩ := order_st n (l.take k ++ l.drop (k + 1)) (by rw [OP.rest_len hk]; omega) (fun f hf => hg f (hrest f hf))
    rw [OP.atF_lt hk] at h1 h2 ⊢
    constructor
    · refine List.pairwise_cons.2 ⟨fun b hb => ?_, i1⟩
      have hb := hrest b (mem_cl i2 hb)
      obtain ⟨i, hi, rfl⟩ := List.mem_iff_getElem.1 hb
      have := h1 i hi
      rwa [OP.atF_lt hi] at this
    · intro F
      have hlk : l = l.take k ++ l[k] :: l.drop (k + 1) := by rw [← List.drop_eq_getElem_cons hk, List.take_append_drop]
      have hi2 := i2 F
      rw [List.filter_append] at hi2
      by_cases e : (fieldF l[k] == F) = true
      · have hnil : (l.take k).filter (fun f => fieldF f == F) = [] := by
          rw [List.filter_eq_nil_iff]
          intro x hx hxe
          obtain ⟨i, hi, rfl⟩ := List.mem_take_iff_getElem.1 hx
          have := h2 i (by omega)
          rw [OP.atF_lt (by omega)] at this
          have e1 : fieldF l[k] = F := by simpa using e
          have e2 : fieldF l[i] = F := by simpa using hxe
          rw [e1, e2, PP.bl_irrefl] at this
          cases this
        rw [List.filter_cons_of_pos (p := fun f => fieldF f == F) e, hi2, hnil, List.nil_append]
        conv => rhs; rw [hlk]
        rw [List.filter_append, hnil, List.nil_append, List.filter_cons_of_pos (p := fun f => fieldF f == F) e]
      · rw [List.filter_cons_of_neg (p := fun f => fieldF f == F) e, hi2]
        conv => rhs; rw [hlk]
        rw [List.filter_append, List.filter_cons_of_neg (p := fun f => fieldF f == F) e]

theorem order_uniq {l m : List Fr} (hg : ∀ f ∈ l, FP.rightB f = true) (hs : stP m) (hc : clP m l) : m = OP.orderF l := by
  obtain ⟨h1, h2⟩ := order_st l.length l rfl hg
  exact st_uniq _ _ hs h1 (hc.trans fun F => (h2 F).symm)
end SP
end Go.Proofs.Ytbdgifngldipcaa
