/- The plain law of boxes: which may be, by members; the best one of a heap is the one that Order takes. -/
import Derived.Test.YtbdgifngldipcaaBxL
import Derived.Test.YtbdgifngldipcaaRfO
namespace Go.Proofs.Ytbdgifngldipcaa
open FP (Fr)
open HP (kB at' Hp)
open OP (atF bestTo orderF)

/-- What each box must be. -/
def okM (seq : Int) (x : Bx) : Prop := FP.rightB x.f = true ∧ 0 ≤ x.h ∧ x.h ≤ 1000000 ∧ 0 ≤ x.s ∧ x.s < seq
theorem right_iff {l : List Bx} {seq cap : Int} : rightBx l seq cap = true ↔ 1 ≤ cap ∧ cap ≤ 8 ∧ (l.length : Int) ≤ cap ∧ 0 ≤ seq ∧ seq ≤ 1099511627776 ∧ (∀ x ∈ l, okM seq x) ∧ l.Pairwise (fun x y => x.s ≠ y.s) ∧ Hp l 0 l.length := by
  rw [rightBx_iff]
  have key : okTo l seq l.length ↔ (∀ x ∈ l, okM seq x) ∧ l.Pairwise (fun x y => x.s ≠ y.s) ∧ Hp l 0 l.length := by
    constructor
    · intro h
      have hm : ∀ x ∈ l, okM seq x := fun x hx => by
        obtain ⟨k, hk, rfl⟩ := List.mem_iff_getElem.1 hx
        have := h k hk hk
        unfold okBx at this
        simp only [Bool.and_eq_true, decide_eq_true_eq] at this
        exact ⟨this.1, this.2.1, this.2.2.1, this.2.2.2.1, this.2.2.2.2.1⟩
      refine ⟨hm, ?_, fun k h0 hk _ => ?_⟩
      · rw [List.pairwise_iff_getElem]
        intro i j hi hj hij
        have := h j hj hj
        unfold okBx at this
        simp only [Bool.and_eq_true, Bool.not_eq_true'] at this
        have h3 := List.any_eq_false.1 this.2.2.2.2.2.1 l[i] (by rw [List.mem_take_iff_getElem]; exact ⟨i, by omega, rfl⟩)
        intro e
        apply h3
        rw [e]; simp
      · have hp : (k - 1) / 2 < l.length := by omega
        have := h k hk hk
        unfold okBx at this
        rw [List.getElem?_eq_getElem hp] at this
        simp only [Bool.and_eq_true, Bool.or_eq_true, decide_eq_true_eq, Bool.not_eq_true'] at this
        rcases this.2.2.2.2.2.2 with h' | h'
        · omega
        · rw [HP.at_lt hk, HP.at_lt hp, ← HP.ahead_kB (hm _ (List.getElem_mem hk)).1 (hm _ (List.getElem_mem hp)).1]
          exact h'
    · rintro ⟨hm, hd, hh⟩ k hk _
      obtain ⟨a1, a2, a3, a4, a5⟩ := hm _ (List.getElem_mem hk)
      refine okBx_mk a1 a2 a3 a4 a5 ?_ ?_
      · rw [List.any_eq_false]
        intro y hy
        rw [List.mem_take_iff_getElem] at hy
        obtain ⟨i, hi, rfl⟩ := hy
        have := List.pairwise_iff_getElem.1 hd i k (by omega) hk (by omega)
        simpa using this
      · by_cases h0 : k = 0
        · exact .inl h0
        · have hp : (k - 1) / 2 < l.length := by omega
          refine .inr ⟨_, hp, rfl, ?_⟩
          rw [HP.ahead_kB a1 (hm _ (List.getElem_mem hp)).1, ← HP.at_lt hk, ← HP.at_lt hp]
          exact hh k (by omega) hk (Nat.zero_le _)
  rw [key]

theorem bestTo_law {l : List Bx} (hg : ∀ x ∈ l, FP.rightB x.f = true) (hs : l.Pairwise (fun x y => x.s < y.s)) : ∀ j, 0 < j → j ≤ l.length → ∀ i, i < j → kB (at' l i) (at' l (bestTo (l.map (·.f)) j)) = false
  | 0, h, _, _, _ => absurd h (by omega)
  | j + 1, _, hj, i, hi => by
    have hat : ∀ k, k < l.length → atF (l.map (·.f)) k = (at' l k).f := fun k hk => by
      rw [HP.at_lt hk, OP.atF_lt (by simpa using hk)]; simp
    have hr : ∀ k, k < l.length → FP.rightB (at' l k).f = true := fun k hk => by rw [HP.at_lt hk]; exact hg _ (List.getElem_mem hk)
    have hlt : ∀ a b, a < b → b < l.length → (at' l a).s < (at' l b).s := fun a b hab hb => by
      rw [HP.at_lt hb, HP.at_lt (by omega)]
      exact List.pairwise_iff_getElem.1 hs a b (by omega) hb hab
    by_cases h0 : j = 0
    · subst h0
      have : bestTo (l.map (·.f)) (0 + 1) = 0 := by unfold bestTo; split <;> rfl
      rw [this, show i = 0 by omega]
      exact HP.kB_irrefl _
    · have hbl := OP.bestTo_lt (l.map (·.f)) j (by omega)
      have ih := bestTo_law hg hs j (by omega) (by omega)
      obtain ⟨b, hb⟩ : ∃ b, b = bestTo (l.map (·.f)) j := ⟨_, rfl⟩
      rw [← hb] at ih hbl
      have hst : bestTo (l.map (·.f)) (j + 1) = if lessB (atF (l.map (·.f)) j) (atF (l.map (·.f)) b) = true then j else b := by rw [hb]; rfl
      rw [hst, hat j (by omega), hat b (by omega), PP.lessB_bl (hr j (by omega)) (hr b (by omega))]
      rcases HP.kB_cases (at' l j) (at' l b) with ⟨e, h1⟩ | ⟨e, h1, h2⟩
      · have hsb := hlt b j hbl (by omega)
        rw [e, PP.bl_irrefl, if_neg (by simp)]
        by_cases hij : i = j
        · rw [hij, h1]; simp; omega
        · exact ih i (by omega)
      · by_cases hbb : PP.bl (fieldF (at' l j).f) (fieldF (at' l b).f) = true
        · rw [if_pos hbb]
          rw [hbb] at h1
          by_cases hij : i = j
          · rw [hij]; exact HP.kB_irrefl _
          · exact HP.kB_ntrans (ih i (by omega)) (HP.kB_asymm h1)
        · rw [if_neg hbb]
          by_cases hij : i = j
          · rw [hij, h1]; simpa using hbb
          · exact ih i (by omega)

theorem inc_ne {l : List Bx} (h : l.Pairwise (fun x y => x.s < y.s)) : l.Pairwise (fun x y => x.s ≠ y.s) := h.imp (fun h => by omega)
theorem ne_perm {l m : List Bx} (p : l.Perm m) (h : m.Pairwise (fun x y => x.s ≠ y.s)) : l.Pairwise (fun x y => x.s ≠ y.s) := (p.pairwise_iff (fun h => Ne.symm h)).2 h
theorem ne_uniq {l : List Bx} (h : l.Pairwise (fun x y => x.s ≠ y.s)) {x y : Bx} (hx : x ∈ l) (hy : y ∈ l) (e : x.s = y.s) : x = y := by
  obtain ⟨i, hi, rfl⟩ := List.mem_iff_getElem.1 hx
  obtain ⟨j, hj, rfl⟩ := List.mem_iff_getElem.1 hy
  rcases Nat.lt_trichotomy i j with h1 | h1 | h1
  · exact absurd e (List.pairwise_iff_getElem.1 h i j hi hj h1)
  · subst h1; rfl
  · exact absurd e.symm (List.pairwise_iff_getElem.1 h j i hj hi h1)

/-- The first one of a heap is the one that Order takes, of the same boxes in the order in which they came. -/
theorem first_best {m bs : List Bx} (hp : m.Perm bs) (hg : ∀ x ∈ bs, FP.rightB x.f = true) (hs : bs.Pairwise (fun x y => x.s < y.s)) (hh : Hp m 0 m.length) (h0 : 0 < bs.length) : at' m 0 = at' bs (bestTo (bs.map (·.f)) bs.length) := by
  have hml := hp.length_eq
  have hb := OP.bestTo_lt (bs.map (·.f)) bs.length h0
  have hx : at' m 0 ∈ bs := by rw [HP.at_lt (by omega)]; exact hp.mem_iff.1 (List.getElem_mem _)
  have hy : at' bs (bestTo (bs.map (·.f)) bs.length) ∈ bs := by rw [HP.at_lt hb]; exact List.getElem_mem _
  refine ne_uniq (inc_ne hs) hx hy ?_
  have h1 : kB (at' m 0) (at' bs (bestTo (bs.map (·.f)) bs.length)) = false := by
    obtain ⟨i, hi, e⟩ := List.mem_iff_getElem.1 hx
    have := bestTo_law hg hs bs.length h0 (Nat.le_refl _) i hi
    rwa [HP.at_lt hi, e] at this
  have h2 : kB (at' bs (bestTo (bs.map (·.f)) bs.length)) (at' m 0) = false := by
    obtain ⟨i, hi, e⟩ := List.mem_iff_getElem.1 (hp.mem_iff.2 hy)
    have := hh.first i hi
    rwa [HP.at_lt hi, e] at this
  rcases Int.lt_trichotomy (at' m 0).s (at' bs (bestTo (bs.map (·.f)) bs.length)).s with h | h | h
  · rcases HP.kB_total (x := at' m 0) (y := at' bs (bestTo (bs.map (·.f)) bs.length)) (by omega) with h3 | h3
    · rw [h1] at h3; cases h3
    · rw [h2] at h3; cases h3
  · exact h
  · rcases HP.kB_total (x := at' m 0) (y := at' bs (bestTo (bs.map (·.f)) bs.length)) (by omega) with h3 | h3
    · rw [h1] at h3; cases h3
    · rw [h2] at h3; cases h3
end Go.Proofs.Ytbdgifngldipcaa
