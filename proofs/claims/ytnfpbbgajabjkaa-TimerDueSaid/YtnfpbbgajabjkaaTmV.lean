/- Which timers may be, as a plain property; each call keeps it. Plain. -/
import Derived.Test.YtnfpbbgajabjkaaTmU
namespace Go.Proofs.Ytnfpbbgajabjkaa
open Go.ChangeShapes Go.WideShapes Go.ChangeAt Go.RowKit

def idsP (l : List Tm) : Prop := l.Pairwise fun a b => a.id ≠ b.id
def RtP (now : Int) (l : List Tm) : Prop := 0 ≤ now ∧ now ≤ 1099511627776 ∧ l.length ≤ 32 ∧ srtP l ∧ (∀ x ∈ l, 0 ≤ x.id ∧ x.id ≤ 1000000 ∧ now < x.due ∧ x.due ≤ now + 1000000) ∧ idsP l

theorem srtB_of {l : List Tm} (h : srtP l) : srtB l = true := srtB_iff.2 fun k hk _ => by
  rw [ordT_neg]
  exact List.pairwise_iff_getElem.1 h k (k + 1) (by omega) hk (by omega)

theorem rightTm_P {now : Int} {l : List Tm} : rightTm now l = true ↔ RtP now l := by
  constructor
  · intro h
    obtain ⟨h1, h2, h3, h4⟩ := right_due h
    obtain ⟨_, _, _, hs, ho⟩ := rightTm_iff.1 h
    refine ⟨h1, h2, h3, srtP_of hs, h4, ?_⟩
    unfold idsP
    rw [List.pairwise_iff_getElem]
    intro i j hi hj hij e
    have hk := ho j hj hj
    unfold okTm at hk
    simp only [Bool.and_eq_true, Bool.not_eq_true', List.any_eq_false] at hk
    have hm : l[i] ∈ l.take j := by
      rw [List.mem_take_iff_getElem]
      exact ⟨i, by omega, rfl⟩
    exact hk.2.2.2.2 _ hm (by simpa using e)
  · rintro ⟨h1, h2, h3, h4, h5, h6⟩
    refine rightTm_iff.2 ⟨h1, h2, h3, srtB_of h4, fun k hk _ => ?_⟩
    have hb := h5 l[k] (List.getElem_mem _)
    unfold okTm
    simp only [Bool.and_eq_true, decide_eq_true_eq, Bool.not_eq_true', List.any_eq_false]
    refine ⟨hb.1, hb.2.1, hb.2.2.1, by omega, fun y hy => ?_⟩
    obtain ⟨i, hi, rfl⟩ := List.mem_take_iff_getElem.1 hy
    have := List.pairwise_iff_getElem.1 h6 i k (by omega) hk (by omega)
    simpa using this

theorem RtP.without {now : Int} {l : List Tm} (h : RtP now l) (id : Int) : RtP now (withoutTm id l) := by
  obtain ⟨h1, h2, h3, h4, h5, h6⟩ := h
  have hsub : List.Sublist (withoutTm id l) l := List.filter_sublist
  exact ⟨h1, h2, Nat.le_trans hsub.length_le h3, h4.sublist hsub, fun x hx => h5 x (hsub.subset hx), h6.sublist hsub⟩

theorem posT_at {l : List Tm} {x : Tm} : (∀ y ∈ l.take (posT l x), aheadT2 y x) ∧ (srtP l → ∀ y ∈ l.drop (posT l x), ¬ aheadT2 y x) := by
  unfold posT
  induction l with
  | nil => simp
  | cons a l ih =>
    by_cases e : ordT a x < 0
    · rw [List.takeWhile_cons_of_pos (by simpa using e), List.length_cons, List.take_succ_cons, List.drop_succ_cons]
      refine ⟨fun y hy => ?_, fun hs => ih.2 (List.pairwise_cons.1 hs).2⟩
      rcases List.mem_cons.1 hy with rfl | hy
      · exact (ordT_neg _ _).1 e
      · exact ih.1 y hy
    · rw [List.takeWhile_cons_of_neg (by simpa using e)]
      refine ⟨by simp, fun hs y hy => ?_⟩
      simp only [List.length_nil, List.drop_zero] at hy
      rw [ordT_neg] at e
      rcases List.mem_cons.1 hy with rfl | hy
      · exact e
      · have := (List.pairwise_cons.1 hs).1 y hy
        unfold aheadT2 at *
        omega

theorem RtP.insert {now : Int} {l : List Tm} {x : Tm} (h : RtP now l) (hn : ∀ y ∈ l, y.id ≠ x.id) (hl : l.length < 32) (hx : 0 ≤ x.id ∧ x.id ≤ 1000000 ∧ now < x.due ∧ x.due ≤ now + 1000000) : RtP now (insT l x) := by
  obtain ⟨h1, h2, h3, h4, h5, h6⟩ := h
  have p := insT_perm l x
  obtain ⟨q1, q2⟩ := posT_at (l := l) (x := x)
  have q2 := q2 h4
  refine ⟨h1, h2, by rw [← p.length_eq, List.length_cons]; omega, ?_, fun y hy => ?_, ?_⟩
  · unfold insT srtP
    rw [List.pairwise_append, List.pairwise_cons]
    refine ⟨h4.sublist (List.take_sublist _ _), ⟨fun y hy => q2 y hy, h4.sublist (List.drop_sublist _ _)⟩, fun a ha b hb => ?_⟩
    have ha' := q1 a ha
    rcases List.mem_cons.1 hb with rfl | hb
    · unfold aheadT2 at *; omega
    · have hb' := q2 b hb
      unfold aheadT2 at *; omega
  · rcases List.mem_cons.1 (p.mem_iff.2 hy) with rfl | hy
    · exact hx
    · exact h5 y hy
  · refine p.pairwise (List.pairwise_cons.2 ⟨fun y hy e => hn y hy e.symm, h6⟩) (fun h e => h e.symm)

theorem dueN_split (t : Int) {l : List Tm} (h : srtP l) (hd : ∀ x ∈ l, t ≤ x.due) : (∀ x ∈ l.take (dueN t l), x.due = t) ∧ ∀ x ∈ l.drop (dueN t l), t < x.due := by
  unfold dueN
  induction l with
  | nil => simp
  | cons a l ih =>
    obtain ⟨hc, hs⟩ := List.pairwise_cons.1 h
    by_cases e : a.due = t
    · rw [List.takeWhile_cons_of_pos (by simpa using e), List.length_cons, List.take_succ_cons, List.drop_succ_cons]
      have ih := ih hs (fun x hx => hd x (List.mem_cons_of_mem _ hx))
      refine ⟨fun x hx => ?_, ih.2⟩
      rcases List.mem_cons.1 hx with rfl | hx
      · exact e
      · exact ih.1 x hx
    · rw [List.takeWhile_cons_of_neg (by simpa using e)]
      refine ⟨by simp, fun x hx => ?_⟩
      simp only [List.length_nil, List.drop_zero] at hx
      have ha := hd a List.mem_cons_self
      rcases List.mem_cons.1 hx with rfl | hx
      · omega
      · have := hc x hx
        unfold aheadT2 at this
        omega

theorem RtP.tick {now : Int} {l : List Tm} (h : RtP now l) (hnow : now < 1099511627776) : RtP (now + 1) (l.drop (dueN (now + 1) l)) := by
  obtain ⟨h1, h2, h3, h4, h5, h6⟩ := h
  have hs := (dueN_split (now + 1) h4 (fun x hx => by have := h5 x hx; omega)).2
  have hsub := List.drop_sublist (dueN (now + 1) l) l
  refine ⟨by omega, by omega, Nat.le_trans hsub.length_le h3, h4.sublist hsub, fun x hx => ?_, h6.sublist hsub⟩
  have a := h5 x (hsub.subset hx)
  have b := hs x hx
  omega
theorem ids_len : ∀ (n : Nat) (l : List Tm), idsP l → (∀ x ∈ l, 0 ≤ x.id ∧ x.id < (n : Int)) → l.length ≤ n
  | 0, [], _, _ => by simp
  | 0, x :: l, _, h => by have := h x List.mem_cons_self; omega
  | n + 1, l, hp, h => by
    have hl := withoutTm_len (n : Int) hp
    have := ids_len n (withoutTm n l) (hp.sublist List.filter_sublist) (fun x hx => by
      obtain ⟨hx1, hx2⟩ := List.mem_filter.1 hx
      have hne : x.id ≠ n := by simpa using hx2
      have := h x hx1
      omega)
    split at hl <;> omega

/-- What stands in TimerDue's timers: right, of ids below 20, and the map beside. -/
def DueP {H : Type} (now : Int) (l : List Tm) (D : DataW H) : Prop := RtP now l ∧ (∀ x ∈ l, x.id < 20) ∧ MpR D l

section
variable {H : Type} {now : Int} {l : List Tm} {D : DataW H}
theorem DueP.nil : DueP 0 [] (.map [] : DataW H) := ⟨⟨by omega, by omega, by simp, List.Pairwise.nil, by simp, List.Pairwise.nil⟩, by simp, MpR.nil⟩
theorem DueP.right (h : DueP now l D) : rightTm now l = true := rightTm_P.2 h.1
theorem DueP.room (h : DueP now l D) (id : Int) : (withoutTm id l).length < 32 := by
  have := ids_len 20 l h.1.2.2.2.2.2 (fun x hx => ⟨(h.1.2.2.2.2.1 x hx).1, h.2.1 x hx⟩)
  have := (List.filter_sublist (p := fun x : Tm => !(x.id == id)) (l := l)).length_le
  unfold withoutTm
  omega
theorem DueP.stop (h : DueP now l D) (id : Int) : DueP now (withoutTm id l) (D.del (kI id)) :=
  ⟨h.1.without id, fun x hx => h.2.1 x (List.filter_sublist.subset hx), h.2.2.del id⟩
theorem DueP.was (h : DueP now l D) (id : Int) : Maps.has D (kI id) = decide ((withoutTm id l).length < l.length) := by
  rw [h.2.2.has_iff]
  have hl := withoutTm_len id h.1.2.2.2.2.2
  cases e : (l.any fun x => x.id == id) <;> simp only [e, if_true, if_false, Bool.false_eq_true] at hl <;> symm <;> simp <;> omega
theorem DueP.set (h : DueP now l D) {id after : Int} (h0 : 0 ≤ id) (h1 : id < 20) (h2 : 1 ≤ after) (h3 : after ≤ 1000000) : DueP now (insT (withoutTm id l) ⟨id, now + after⟩) (D.put (kI id) (.lit (.int .i64 (now + after)))) := by
  have hw := h.1.without id
  refine ⟨hw.insert (fun y hy => ?_) (h.room id) ⟨h0, by show id ≤ 1000000; omega, by show now < now + after; omega, by show now + after ≤ now + 1000000; omega⟩, fun x hx => ?_, h.2.2.set id _⟩
  · have := (List.mem_filter.1 hy).2
    simpa using this
  · rcases List.mem_cons.1 ((insT_perm _ _).mem_iff.2 hx) with rfl | hx
    · exact h1
    · exact h.2.1 x (List.filter_sublist.subset hx)
theorem DueP.size (h : DueP now l D) : Maps.size D = l.length := h.2.2.2.1

theorem DueP.tick {D' : DataW H} (h : DueP now l D) (hnow : now < 1099511627776) (hD : MpR (H := H) D' (l.drop (dueN (now + 1) l))) : DueP (now + 1) (l.drop (dueN (now + 1) l)) D' :=
  ⟨h.1.tick hnow, fun x hx => h.2.1 x ((List.drop_sublist _ _).subset hx), hD⟩
theorem DueP.due_at (h : DueP now l D) {k : Nat} (hk : k < dueN (now + 1) l) : ∃ hl : k < l.length, l[k].due = now + 1 := by
  have hle := dueN_le (now + 1) l
  refine ⟨by omega, ?_⟩
  refine (dueN_split (now + 1) h.1.2.2.2.1 (fun x hx => by have := h.1.2.2.2.2.1 x hx; omega)).1 _ ?_
  rw [List.mem_take_iff_getElem]
  exact ⟨k, by omega, rfl⟩
/-- One of those that are due, struck. -/
theorem strike {k : Nat} (hl : k < l.length) (h : MpR D (l.drop k)) : (∀ z, D.atKey (kI l[k].id) z = .lit (.int .i64 l[k].due)) ∧ Maps.has D (kI l[k].id) = true ∧ MpR (D.del (kI l[k].id)) (l.drop (k + 1)) := by
  rw [List.drop_eq_getElem_cons hl] at h
  exact ⟨h.2.2.2.1 _ List.mem_cons_self, h.hasMem List.mem_cons_self, h.tail⟩
end
end Go.Proofs.Ytnfpbbgajabjkaa
