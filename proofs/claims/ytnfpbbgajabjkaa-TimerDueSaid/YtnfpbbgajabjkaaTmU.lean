/- The map that TimerDue keeps beside its timers: it holds just the row's. Plain. -/
import Derived.Test.YtnfpbbgajabjkaaTmJ
import Derived.Maps.OwnSet
import Derived.Maps.RangeWalk
namespace Go.Proofs.Ytnfpbbgajabjkaa
open Go.ChangeShapes Go.WideShapes Go.ChangeAt Go.RowKit

section
variable {H : Type}
def kI (i : Int) : Lit := .int .i64 i
theorem kI_key (i : Int) : WideAt.IsKeyLit (kI i) := by simp [kI, WideAt.IsKeyLit]
theorem kI_ne {i j : Int} (h : i ≠ j) : kI i ≠ kI j := by simpa [kI] using h

/-- The map D holds just the timers of l. -/
def MpR (D : DataW H) (l : List Tm) : Prop :=
  Maps.Tidy D ∧ Maps.size D = l.length ∧ (l.Pairwise fun a b => a.id ≠ b.id) ∧ (∀ x ∈ l, ∀ z, D.atKey (kI x.id) z = .lit (.int .i64 x.due)) ∧ ∀ i, (∀ x ∈ l, x.id ≠ i) → Maps.has D (kI i) = false

theorem MpR.nil : MpR (.map [] : DataW H) [] := ⟨Maps.tidy_empty, rfl, List.Pairwise.nil, by simp, fun i _ => rfl⟩

theorem MpR.perm {D : DataW H} {l l' : List Tm} (h : MpR D l) (p : List.Perm l l') : MpR D l' := by
  obtain ⟨h1, h2, h3, h4, h5⟩ := h
  exact ⟨h1, by rw [h2, p.length_eq], p.pairwise h3 (fun h => fun e => h e.symm), fun x hx => h4 x (p.mem_iff.2 hx), fun i hi => h5 i fun x hx => hi x (p.mem_iff.1 hx)⟩

theorem MpR.hasMem {D : DataW H} {l : List Tm} (h : MpR D l) {x : Tm} (hx : x ∈ l) : Maps.has D (kI x.id) = true := Maps.has_true_of_atKey (h.2.2.2.1 x hx)

theorem MpR.has_iff {D : DataW H} {l : List Tm} (h : MpR D l) (i : Int) : Maps.has D (kI i) = l.any fun x => x.id == i := by
  by_cases e : ∃ x ∈ l, x.id = i
  · obtain ⟨x, hx, rfl⟩ := e
    rw [h.hasMem hx]; symm; simp; exact ⟨x, hx, rfl⟩
  · have e' : ∀ x ∈ l, x.id ≠ i := fun x hx hi => e ⟨x, hx, hi⟩
    rw [h.2.2.2.2 i e']; symm; simpa using e'

theorem withoutTm_none {l : List Tm} {i : Int} (h : ∀ x ∈ l, x.id ≠ i) : withoutTm i l = l := by
  unfold withoutTm; rw [List.filter_eq_self]; intro x hx; simpa using h x hx

theorem withoutTm_len {l : List Tm} (i : Int) (h : l.Pairwise fun a b => a.id ≠ b.id) : (withoutTm i l).length + (if (l.any fun x => x.id == i) then 1 else 0) = l.length := by
  induction l with
  | nil => rfl
  | cons x l ih =>
    rw [List.pairwise_cons] at h
    by_cases e : x.id = i
    · subst e
      have hn : ∀ y ∈ l, y.id ≠ x.id := fun y hy hh => h.1 y hy hh.symm
      have : withoutTm x.id (x :: l) = l := by
        show List.filter _ (x :: l) = l
        rw [List.filter_cons_of_neg (by simp)]; exact withoutTm_none hn
      rw [this]; simp
    · have h2 := ih h.2
      have : withoutTm i (x :: l) = x :: withoutTm i l := by
        show List.filter _ (x :: l) = _
        rw [List.filter_cons_of_pos (by simpa using e)]; rfl
      rw [this]
      have e2 : (x.id == i) = false := by simpa using e
      simp only [List.any_cons, e2, Bool.false_or, List.length_cons]
      omega

theorem MpR.del {D : DataW H} {l : List Tm} (h : MpR D l) (i : Int) : MpR (D.del (kI i)) (withoutTm i l) := by
  have hh := h.has_iff i
  obtain ⟨h1, h2, h3, h4, h5⟩ := h
  have hs := Maps.size_del (k := kI i) h1
  have hl := withoutTm_len i h3
  rw [hh] at hs
  refine ⟨h1.del _, by omega, h3.sublist List.filter_sublist, fun x hx z => ?_, fun j hj => ?_⟩
  · obtain ⟨hx1, hx2⟩ := List.mem_filter.1 hx
    have hne : x.id ≠ i := by simpa using hx2
    rw [Maps.atKey_del_other (kI_ne hne)]; exact h4 x hx1 z
  · by_cases e : j = i
    · subst e; exact Maps.has_del_same
    · rw [Maps.has_del_other (kI_ne e)]
      refine h5 j fun x hx hxj => hj x (List.mem_filter.2 ⟨hx, ?_⟩) hxj
      subst hxj; simpa using e

theorem MpR.put {D : DataW H} {l : List Tm} (h : MpR D l) (i d : Int) : MpR (D.put (kI i) (.lit (.int .i64 d))) (⟨i, d⟩ :: withoutTm i l) := by
  have hh := h.has_iff i
  obtain ⟨h1, h2, h3, h4, h5⟩ := h
  have hs := Maps.size_put (k := kI i) h1 (.lit (.int .i64 d))
  have hl := withoutTm_len i h3
  rw [hh] at hs
  refine ⟨h1.put (kI_key i) _, ?_, ?_, fun x hx z => ?_, fun j hj => ?_⟩
  · rw [hs, List.length_cons]; split at hl <;> simp_all <;> omega
  · rw [List.pairwise_cons]
    refine ⟨fun y hy => ?_, h3.sublist List.filter_sublist⟩
    have := (List.mem_filter.1 hy).2
    have hne : y.id ≠ i := by simpa using this
    exact fun e => hne e.symm
  · rcases List.mem_cons.1 hx with rfl | hx
    · exact Maps.atKey_put_same h1.isMap (kI_key i) _ z
    · obtain ⟨hx1, hx2⟩ := List.mem_filter.1 hx
      have hne : x.id ≠ i := by simpa using hx2
      rw [Maps.atKey_put_other (kI_ne hne)]; exact h4 x hx1 z
  · have e : j ≠ i := fun e => hj ⟨i, d⟩ (by simp) e.symm
    rw [Maps.has_put_other (kI_ne e)]
    refine h5 j fun x hx hxj => hj x (List.mem_cons.2 (.inr (List.mem_filter.2 ⟨hx, ?_⟩))) hxj
    subst hxj; simpa using e

theorem insT_perm (l : List Tm) (x : Tm) : List.Perm (x :: l) (insT l x) := by
  unfold insT
  have h := (List.perm_middle (a := x) (l₁ := l.take (posT l x)) (l₂ := l.drop (posT l x))).symm
  rwa [List.take_append_drop] at h

theorem MpR.set {D : DataW H} {l : List Tm} (h : MpR D l) (i d : Int) : MpR (D.put (kI i) (.lit (.int .i64 d))) (insT (withoutTm i l) ⟨i, d⟩) := (h.put i d).perm (insT_perm _ _)

/-- The head struck. -/
theorem MpR.tail {D : DataW H} {x : Tm} {l : List Tm} (h : MpR D (x :: l)) : MpR (D.del (kI x.id)) l := by
  have h3 := (List.pairwise_cons.1 h.2.2.1).1
  have hd := h.del x.id
  have e : withoutTm x.id (x :: l) = l := by
    show List.filter _ (x :: l) = l
    rw [List.filter_cons_of_neg (by simp)]; exact withoutTm_none fun y hy hh => h3 y hy hh.symm
  rwa [e] at hd

/-- What the map holds is some timer of the row. -/
theorem MpR.came {D : DataW H} {l : List Tm} (h : MpR D l) {i c : Int} (hat : ∀ z, D.atKey (kI i) z = .lit (.int .i64 c)) : (⟨i, c⟩ : Tm) ∈ l := by
  have hh := Maps.has_true_of_atKey hat
  rw [h.has_iff i] at hh
  obtain ⟨x, hx, hi⟩ := List.any_eq_true.1 hh
  have hi : x.id = i := by simpa using hi
  subst hi
  have e := h.2.2.2.1 x hx (.map [])
  rw [hat] at e
  have e : c = x.due := by simpa using e
  subst e
  exact hx
end
end Go.Proofs.Ytnfpbbgajabjkaa
