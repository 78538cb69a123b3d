/- The plain law of Sorted: what stands in it hangs on the boxes alone, not on how they stand. -/
import Derived.Test.YtbdgifngldipcaaBcD
import Derived.Test.YtbdgifngldipcaaHpR
namespace Go.Proofs.Ytbdgifngldipcaa
open FP (Fr)
open HP (kB at' Hp)

def sortedP (l : List Bx) : Prop := l.Pairwise fun a b => kB b a = false
def goodP (l : List Bx) : Prop := ∀ x ∈ l, FP.rightB x.f = true
def neP (l : List Bx) : Prop := l.Pairwise fun x y => x.s ≠ y.s

theorem posB_at {out : List Bx} {x : Bx} (hg : goodP out) (hx : FP.rightB x.f = true) : (∀ y ∈ out.take (posB out x), kB y x = true) ∧ (sortedP out → ∀ y ∈ out.drop (posB out x), kB y x = false) := by
  unfold posB
  induction out with
  | nil => simp
  | cons a l ih =>
    have ih := ih (fun y hy => hg y (List.mem_cons_of_mem _ hy))
    have ea := HP.ahead_kB (hg a List.mem_cons_self) hx
    by_cases e : aheadB a x = true
    · rw [List.takeWhile_cons_of_pos (p := fun y => aheadB y x) e, List.length_cons, List.take_succ_cons, List.drop_succ_cons]
      refine ⟨fun y hy => ?_, fun hs => ih.2 (List.pairwise_cons.1 hs).2⟩
      rcases List.mem_cons.1 hy with rfl | hy
      · rw [← ea]; exact e
      · exact ih.1 y hy
    · rw [List.takeWhile_cons_of_neg (p := fun y => aheadB y x) e]
      refine ⟨by simp, fun hs y hy => ?_⟩
      simp only [List.length_nil, List.drop_zero] at hy
      have e2 : kB a x = false := by rw [← ea]; simpa using e
      rcases List.mem_cons.1 hy with rfl | hy
      · exact e2
      · exact HP.kB_ntrans ((List.pairwise_cons.1 hs).1 y hy) e2

theorem insB_sorted {out : List Bx} {x : Bx} (hg : goodP out) (hx : FP.rightB x.f = true) (hs : sortedP out) : sortedP (insB out x) := by
  obtain ⟨h1, h2⟩ := posB_at hg hx
  have h2 := h2 hs
  unfold insB sortedP
  rw [List.pairwise_append, List.pairwise_cons]
  refine ⟨hs.sublist (List.take_sublist _ _), ⟨h2, hs.sublist (List.drop_sublist _ _)⟩, fun a ha b hb => ?_⟩
  rcases List.mem_cons.1 hb with rfl | hb
  · exact HP.kB_asymm (h1 a ha)
  · have := List.pairwise_append.1 (show (out.take (posB out x) ++ out.drop (posB out x)).Pairwise _ by rw [List.take_append_drop]; exact hs)
    exact this.2.2 a ha b hb

theorem fold_sorted : ∀ (l acc : List Bx), goodP l → goodP acc → sortedP acc → sortedP (l.foldl insB acc)
  | [], _, _, _, h => h
  | x :: l, acc, hg, ha, hs => by
    have hx := hg x List.mem_cons_self
    refine fold_sorted l (insB acc x) (fun y hy => hg y (List.mem_cons_of_mem _ hy)) (fun y hy => ?_) (insB_sorted ha hx hs)
    rcases List.mem_cons.1 ((insB_perm acc x).mem_iff.1 hy) with rfl | hy
    · exact hx
    · exact ha y hy
theorem sortB_sorted {l : List Bx} (hg : goodP l) : sortedP (sortB l) := fold_sorted l [] hg (fun _ h => absurd h (by simp)) List.Pairwise.nil

theorem neP.perm {l m : List Bx} (p : l.Perm m) (h : neP l) : neP m := ne_perm p.symm h
theorem goodP.perm {l m : List Bx} (p : l.Perm m) (h : goodP l) : goodP m := fun x hx => h x (p.mem_iff.2 hx)

theorem sorted_uniq : ∀ (l m : List Bx), l.Perm m → neP l → sortedP l → sortedP m → l = m
  | [], m, p, _, _, _ => by rw [List.nil_perm.1 p]
  | a :: l, [], p, _, _, _ => absurd p.length_eq (by simp)
  | a :: l, b :: m, p, hn, h1, h2 => by
    have e : a = b := by
      rcases List.mem_cons.1 (p.mem_iff.1 (List.mem_cons_self (a := a) (l := l))) with e | hab
      · exact e
      · rcases List.mem_cons.1 (p.mem_iff.2 (List.mem_cons_self (a := b) (l := m))) with e | hba
        · exact e.symm
        · have k1 := (List.pairwise_cons.1 h1).1 b hba
          have k2 := (List.pairwise_cons.1 h2).1 a hab
          by_cases hs : a.s = b.s
          · exact ne_uniq hn List.mem_cons_self (List.mem_cons_of_mem _ hba) hs
          · rcases HP.kB_total hs with h | h
            · rw [k2] at h; cases h
            · rw [k1] at h; cases h
    subst e
    rw [sorted_uniq l m ((List.perm_cons a).1 p) (List.pairwise_cons.1 hn).2 (List.pairwise_cons.1 h1).2 (List.pairwise_cons.1 h2).2]

/-- Boxes that are the same, however they stand, are sorted alike. -/
theorem sortB_eq {l m : List Bx} (p : l.Perm m) (hg : goodP l) (hn : neP l) : sortB l = sortB m :=
  sorted_uniq _ _ ((sortB_perm l).trans (p.trans (sortB_perm m).symm)) (hn.perm (sortB_perm l).symm) (sortB_sorted hg) (sortB_sorted (hg.perm p))

/-- The heap's first one is the sorted ones' first one. -/
theorem sortB_first {l : List Bx} (hg : goodP l) (hn : neP l) (hh : Hp l 0 l.length) (h0 : 0 < l.length) : ∃ r, sortB l = at' l 0 :: r ∧ (r ++ [at' l 0]).Perm l := by
  have hp := sortB_perm l
  have hs := sortB_sorted hg
  rcases hr : sortB l with _ | ⟨b, r⟩
  · rw [hr] at hp
    have := hp.length_eq
    simp at this
    omega
  · rw [hr] at hp hs
    have hm : at' l 0 ∈ l := by rw [HP.at_lt h0]; exact List.getElem_mem h0
    have e : b = at' l 0 := by
      rcases List.mem_cons.1 (hp.mem_iff.2 hm) with e | hr'
      · exact e.symm
      · have k1 := (List.pairwise_cons.1 hs).1 _ hr'
        have hb : b ∈ l := hp.mem_iff.1 List.mem_cons_self
        obtain ⟨k, hk, rfl⟩ := List.mem_iff_getElem.1 hb
        have k2 := Hp.first hh k hk
        rw [HP.at_lt hk] at k2
        by_cases hs' : l[k].s = (at' l 0).s
        · exact ne_uniq hn (List.getElem_mem hk) hm hs'
        · rcases HP.kB_total hs' with h | h
          · rw [k2] at h; cases h
          · rw [k1] at h; cases h
    subst e
    exact ⟨r, rfl, (List.perm_append_comm (l₁ := r) (l₂ := [at' l 0])).trans hp⟩
end Go.Proofs.Ytbdgifngldipcaa
