/- The plain law of heaps of boxes: what up and down do; the order in which boxes win. -/
import Derived.Test.YtbdgifngldipcaaBxC
namespace Go.Proofs.Ytbdgifngldipcaa
open FP (Fr)

namespace HP
open PP (bl)
/-- Ahead, of frames that may be. -/
def kB (x y : Bx) : Bool := bl (fieldF x.f) (fieldF y.f) || (!bl (fieldF y.f) (fieldF x.f) && decide (x.s < y.s))
theorem ahead_kB {x y : Bx} (hx : FP.rightB x.f = true) (hy : FP.rightB y.f = true) : aheadB x y = kB x y := by
  unfold aheadB kB
  rw [PP.lessB_bl hx hy, PP.lessB_bl hy hx]

theorem kB_cases (x y : Bx) : (fieldF x.f = fieldF y.f ∧ kB x y = decide (x.s < y.s)) ∨ (fieldF x.f ≠ fieldF y.f ∧ kB x y = bl (fieldF x.f) (fieldF y.f) ∧ bl (fieldF x.f) (fieldF y.f) = !bl (fieldF y.f) (fieldF x.f)) := by
  unfold kB
  by_cases h : fieldF x.f = fieldF y.f
  · left; rw [h, PP.bl_irrefl]; simp
  · right
    have := PP.bl_total (PP.fld_of x.f) (PP.fld_of y.f) h
    refine ⟨h, ?_, this⟩
    rw [this]
    cases bl (fieldF y.f) (fieldF x.f) <;> simp
theorem kB_irrefl (x : Bx) : kB x x = false := by
  unfold kB; rw [PP.bl_irrefl]; simp
theorem kB_asymm {x y : Bx} (h : kB x y = true) : kB y x = false := by
  rcases kB_cases x y with ⟨e, h1⟩ | ⟨e, h1, h2⟩ <;> rcases kB_cases y x with ⟨e', h1'⟩ | ⟨e', h1', h2'⟩
  · rw [h1] at h; rw [h1']; simp at *; omega
  · exact absurd e.symm e'
  · exact absurd e'.symm e
  · rw [h1] at h; rw [h1', h2', h]; rfl
/-- What is not ahead of what is not ahead of a third one, is not ahead of that. -/
theorem kB_ntrans {x y z : Bx} (h : kB x y = false) (h' : kB y z = false) : kB x z = false := by
  rcases kB_cases x y with ⟨e, h1⟩ | ⟨e, h1, h2⟩ <;> rcases kB_cases y z with ⟨e', h1'⟩ | ⟨e', h1', h2'⟩
  · rcases kB_cases x z with ⟨e2, h3⟩ | ⟨e2, _⟩
    · rw [h3]; rw [h1] at h; rw [h1'] at h'; simp at *; omega
    · exact absurd (e.trans e') e2
  · rcases kB_cases x z with ⟨e2, _⟩ | ⟨_, h3, _⟩
    · exact absurd (e.symm.trans e2) e'
    · rw [h3, e, ← h1', h']
  · rcases kB_cases x z with ⟨e2, _⟩ | ⟨_, h3, _⟩
    · exact absurd (e2.trans e'.symm) e
    · rw [h3, ← e', ← h1, h]
  · have hzy : bl (fieldF z.f) (fieldF y.f) = true := by rw [h1', h2'] at h'; simpa using h'
    have hyx : bl (fieldF y.f) (fieldF x.f) = true := by rw [h1, h2] at h; simpa using h
    have hzx := PP.bl_trans _ _ _ hzy hyx
    rcases kB_cases x z with ⟨e2, _⟩ | ⟨_, h3, h4⟩
    · rw [e2, PP.bl_irrefl] at hzx; cases hzx
    · rw [h3, h4, hzx]; rfl
theorem kB_total {x y : Bx} (h : x.s ≠ y.s) : kB x y = true ∨ kB y x = true := by
  rcases kB_cases x y with ⟨e, h1⟩ | ⟨e, h1, h2⟩ <;> rcases kB_cases y x with ⟨e', h1'⟩ | ⟨e', h1', h2'⟩
  · rw [h1, h1']; simp; omega
  · exact absurd e.symm e'
  · exact absurd e'.symm e
  · rw [h1, h1', h2']; cases bl (fieldF x.f) (fieldF y.f) <;> simp

/-- l at k, anything where there is none. -/
def at' (l : List Bx) (k : Nat) : Bx := (l[k]?).getD ⟨0, ⟨0, false, false, 0, ⟨#[]⟩⟩, 0⟩
theorem at_lt {l : List Bx} {k : Nat} (h : k < l.length) : at' l k = l[k] := by unfold at'; rw [List.getElem?_eq_getElem h]; rfl
theorem at_swap {l : List Bx} {i k : Nat} (hi : i < l.length) (hk : k < l.length) (m : Nat) : at' (swapL l i k) m = if m = k then at' l i else if m = i then at' l k else at' l m := by
  rw [swapL_eq hi hk, at_lt hi, at_lt hk]
  unfold at'
  by_cases h : m = k
  · subst h
    rw [if_pos rfl, List.getElem?_set_self (by simpa using hk)]
    rfl
  · rw [if_neg h, List.getElem?_set_ne (Ne.symm h)]
    by_cases h2 : m = i
    · subst h2
      rw [if_pos rfl, List.getElem?_set_self hi]
      rfl
    · rw [if_neg h2, List.getElem?_set_ne (Ne.symm h2)]

theorem perm_set_set (l : List Bx) (i k : Nat) (hi : i < l.length) (hk : k < l.length) : ((l.set i l[k]).set k l[i]).Perm l := by
  letI : DecidableEq Bx := fun _ _ => Classical.propDecidable _
  rw [List.perm_iff_count]
  intro a
  rw [List.count_set (by simpa using hk), List.count_set hi]
  by_cases e : i = k
  · subst e
    simp
    have : 0 < l.count l[i] := List.count_pos_iff.2 (List.getElem_mem hi)
    split
    · rename_i h; have h : l[i] = a := by simpa using h
      subst h; omega
    · omega
  · rw [List.getElem_set_ne e]
    have h1 : 0 < l.count l[i] := List.count_pos_iff.2 (List.getElem_mem hi)
    have h2 : 0 < l.count l[k] := List.count_pos_iff.2 (List.getElem_mem hk)
    by_cases a1 : l[i] = a <;> by_cases a2 : l[k] = a
    · subst a1; simp [a2] <;> omega
    · subst a1; simp [a2] <;> omega
    · subst a2; simp [a1]
    · simp [a1, a2]
theorem swapL_perm (l : List Bx) (i k : Nat) : (swapL l i k).Perm l := by
  by_cases hi : i < l.length
  · by_cases hk : k < l.length
    · rw [swapL_eq hi hk]; exact perm_set_set l i k hi hk
    · unfold swapL; rw [List.getElem?_eq_none (by omega : l.length ≤ k)]; split <;> simp_all
  · unfold swapL; rw [List.getElem?_eq_none (by omega : l.length ≤ i)]

theorem ext_at {l m : List Bx} (hl : l.length = m.length) (h : ∀ k, k < l.length → at' l k = at' m k) : l = m := by
  apply List.ext_getElem hl
  intro k h1 h2
  have := h k h1
  rwa [at_lt h1, at_lt h2] at this

/-- A heap, as far as children of what is not ahead of lo, of the first n. -/
def Hp (l : List Bx) (lo n : Nat) : Prop := ∀ k, 0 < k → k < n → lo ≤ (k - 1) / 2 → kB (at' l k) (at' l ((k - 1) / 2)) = false

/-- A heap but for j, which may be ahead of those above it. -/
structure UpI (l : List Bx) (j : Nat) : Prop where
  lt : j < l.length
  a : ∀ k, 0 < k → k < l.length → k ≠ j → kB (at' l k) (at' l ((k - 1) / 2)) = false
  b : ∀ k, 0 < k → k < l.length → (k - 1) / 2 = j → 0 < j → kB (at' l k) (at' l ((j - 1) / 2)) = false
theorem UpI.stop {l : List Bx} {j : Nat} (h : UpI l j) (hs : j = 0 ∨ kB (at' l j) (at' l ((j - 1) / 2)) = false) : Hp l 0 l.length := fun k h0 hk _ => by
  by_cases e : k = j
  · subst e
    rcases hs with h | h
    · omega
    · exact h
  · exact h.a k h0 hk e
theorem UpI.step {l : List Bx} {j i : Nat} (h : UpI l j) (hi : i = (j - 1) / 2) (h0 : 0 < j) (ha : kB (at' l j) (at' l i) = true) : UpI (swapL l i j) i := by
  have hij : i < j := by omega
  have hil : i < l.length := by have := h.lt; omega
  refine ⟨by rw [swapL_len]; exact hil, fun k hk0 hk hki => ?_, fun k hk0 hk hki hi0 => ?_⟩
  · rw [swapL_len] at hk
    rw [at_swap hil h.lt, at_swap hil h.lt, if_neg hki]
    by_cases e : k = j
    · subst e
      rw [if_pos rfl, if_neg (by omega), if_pos hi.symm]
      exact kB_asymm ha
    · rw [if_neg e]
      by_cases e2 : (k - 1) / 2 = j
      · rw [if_pos e2]
        have := h.b k hk0 hk e2 h0
        rwa [← hi] at this
      · rw [if_neg e2]
        by_cases e3 : (k - 1) / 2 = i
        · rw [if_pos e3]
          have h1 := h.a k hk0 hk e
          rw [e3] at h1
          exact kB_ntrans h1 (kB_asymm ha)
        · rw [if_neg e3]
          exact h.a k hk0 hk e
  · rw [swapL_len] at hk
    rw [at_swap hil h.lt, at_swap hil h.lt, if_neg (by omega : (i - 1) / 2 ≠ j), if_neg (by omega : (i - 1) / 2 ≠ i)]
    by_cases e : k = j
    · subst e
      rw [if_pos rfl]
      exact h.a i hi0 hil (by omega)
    · rw [if_neg e, if_neg (by omega)]
      have h1 := h.a k hk0 hk e
      rw [hki] at h1
      exact kB_ntrans h1 (h.a i hi0 hil (by omega))

/-- A heap from lo on but for i, below which something may be ahead of it; of the first n. -/
structure DnI (l : List Bx) (lo n i : Nat) : Prop where
  le : n ≤ l.length
  low : lo ≤ i
  a : ∀ k, 0 < k → k < n → lo ≤ (k - 1) / 2 → (k - 1) / 2 ≠ i → kB (at' l k) (at' l ((k - 1) / 2)) = false
  b : ∀ k, 0 < k → k < n → (k - 1) / 2 = i → 0 < i → lo ≤ (i - 1) / 2 → kB (at' l k) (at' l ((i - 1) / 2)) = false
theorem DnI.stop {l : List Bx} {lo n i : Nat} (h : DnI l lo n i) (hs : ∀ k, 0 < k → k < n → (k - 1) / 2 = i → kB (at' l k) (at' l i) = false) : Hp l lo n := fun k h0 hk hl => by
  by_cases e : (k - 1) / 2 = i
  · rw [e]; exact hs k h0 hk e
  · exact h.a k h0 hk hl e
theorem DnI.step {l : List Bx} {lo n i j : Nat} (h : DnI l lo n i) (hj : (j - 1) / 2 = i) (h0 : 0 < j) (hjn : j < n) (ha : kB (at' l j) (at' l i) = true)
    (hb : ∀ k, 0 < k → k < n → (k - 1) / 2 = i → kB (at' l k) (at' l j) = false) : DnI (swapL l i j) lo n j := by
  have hij : i < j := by omega
  have hle := h.le
  have hjl : j < l.length := by omega
  have hil : i < l.length := by omega
  have hlo := h.low
  refine ⟨by rw [swapL_len]; exact h.le, by omega, fun k hk0 hk hkl hki => ?_, fun k hk0 hk hki hi0 hjl' => ?_⟩
  · rw [at_swap hil hjl, at_swap hil hjl, if_neg hki]
    by_cases e : (k - 1) / 2 = i
    · rw [if_pos e]
      by_cases e2 : k = j
      · subst e2
        rw [if_pos rfl]
        exact kB_asymm ha
      · rw [if_neg e2, if_neg (by omega)]
        exact hb k hk0 hk e
    · rw [if_neg e]
      by_cases e2 : k = i
      · subst e2
        rw [if_neg (by omega), if_pos rfl]
        exact h.b j h0 hjn hj hk0 hkl
      · rw [if_neg (by intro e3; subst e3; exact e hj), if_neg e2]
        exact h.a k hk0 hk hkl e
  · rw [at_swap hil hjl, at_swap hil hjl, hj, if_neg (by omega : i ≠ j), if_pos rfl, if_neg (by omega), if_neg (by omega)]
    have := h.a k hk0 hk (by omega) (by omega)
    rwa [hki] at this

/-- The first one of a heap: none is ahead of it. -/
theorem Hp.first {l : List Bx} {n : Nat} (h : Hp l 0 n) : ∀ k, k < n → kB (at' l k) (at' l 0) = false := by
  intro k
  induction k using Nat.strongRecOn with
  | _ k ih =>
    intro hk
    by_cases e : k = 0
    · subst e; exact kB_irrefl _
    · exact kB_ntrans (h k (by omega) hk (Nat.zero_le _)) (ih _ (by omega) (by omega))
theorem Hp.mono {l m : List Bx} {lo n n' : Nat} (h : Hp l lo n) (hn : n' ≤ n) (he : ∀ k, k < n' → at' m k = at' l k) : Hp m lo n' := fun k h0 hk hl => by
  rw [he k hk, he _ (by omega)]
  exact h k h0 (by omega) hl
end HP
end Go.Proofs.Ytbdgifngldipcaa
