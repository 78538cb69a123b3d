/- The plain law of BoxDrops: which boxes are put, and which are left. -/
import Derived.Test.YtbdgifngldipcaaHpT
namespace Go.Proofs.Ytbdgifngldipcaa
open FP (Fr)
open HP (kB at' Hp)
open OP (atF bestTo orderF)

/-- The boxes that BoxDrops puts, of the first k frames. -/
def dsK (l : List Fr) : Nat → List Bx
  | 0 => []
  | k + 1 => if k < 8 ∧ FP.rightB (cutF (atF l k)) = true then dsK l k ++ [⟨(k : Int) % 3, cutF (atF l k), (dsK l k).length⟩] else dsK l k
theorem dsK_len (l : List Fr) : ∀ k, (dsK l k).length ≤ min k 8
  | 0 => by simp [dsK]
  | k + 1 => by
    have := dsK_len l k
    unfold dsK
    split
    · rw [List.length_append, List.length_singleton]; omega
    · omega
theorem dsK_mem (l : List Fr) (hid : ∀ k, (atF l k).id < 4294967296) : ∀ k, ∀ x ∈ dsK l k, okM ((dsK l k).length : Int) x ∧ x.f.id < 4294967296
  | 0, x, h => by simp [dsK] at h
  | k + 1, x, h => by
    unfold dsK at h ⊢
    split at h
    · rename_i hc
      rw [if_pos hc, List.length_append, List.length_singleton]
      rcases List.mem_append.1 h with h | h
      · obtain ⟨⟨a, b, c, d, e⟩, f⟩ := dsK_mem l hid k x h
        exact ⟨⟨a, b, c, d, by omega⟩, f⟩
      · rw [List.mem_singleton] at h
        subst h
        exact ⟨⟨hc.2, by show (0 : Int) ≤ (k : Int) % 3; omega, by show (k : Int) % 3 ≤ 1000000; omega, by show (0 : Int) ≤ ((dsK l k).length : Int); omega, by show ((dsK l k).length : Int) < _; omega⟩, hid k⟩
    · rename_i hc
      rw [if_neg hc]
      exact dsK_mem l hid k x h
theorem dsK_inc (l : List Fr) (hid : ∀ k, (atF l k).id < 4294967296) : ∀ k, (dsK l k).Pairwise (fun x y => x.s < y.s)
  | 0 => by simp [dsK]
  | k + 1 => by
    unfold dsK
    split
    · rw [List.pairwise_append]
      refine ⟨dsK_inc l hid k, by simp, fun x hx y hy => ?_⟩
      rw [List.mem_singleton] at hy
      subst hy
      exact (dsK_mem l hid k x hx).1.2.2.2.2
    · exact dsK_inc l hid k
theorem dsK_right {l : List Fr} (hid : ∀ k, (atF l k).id < 4294967296) {k : Nat} {m : List Bx} (p : m.Perm (dsK l k)) (hh : Hp m 0 m.length) : rightBx m (dsK l k).length 8 = true := by
  have hl := dsK_len l k
  have hml := p.length_eq
  exact right_iff.2 ⟨by omega, by omega, by omega, by omega, by omega, fun x hx => (dsK_mem l hid k x (p.mem_iff.1 hx)).1, ne_perm p (inc_ne (dsK_inc l hid k)), hh⟩

theorem dsK_succ (l : List Fr) (k : Nat) : dsK l (k + 1) = if k < 8 ∧ FP.rightB (cutF (atF l k)) = true then dsK l k ++ [⟨(k : Int) % 3, cutF (atF l k), (dsK l k).length⟩] else dsK l k := rfl
/-- Those that stay, and those that go. -/
def stay (q : Int) (l : List Bx) : List Bx := l.filter fun x => !(x.h == q)
def goes (q : Int) (l : List Bx) : List Bx := l.filter fun x => x.h == q
theorem stay_goes (q : Int) (l : List Bx) : (stay q l).length + (goes q l).length = l.length := by
  unfold stay goes
  induction l with
  | nil => rfl
  | cons x l ih =>
    rw [List.filter_cons, List.filter_cons]
    cases x.h == q
    · simp only [Bool.not_false, if_true, List.length_cons]; simp; omega
    · simp only [Bool.not_true, if_true, List.length_cons]; simp; omega
theorem stay_yes {q : Int} {l : List Bx} {x : Bx} (h : (x.h == q) = true) : stay q (l ++ [x]) = stay q l := by
  unfold stay; rw [List.filter_append]; simp [List.filter_cons, h]
theorem stay_no {q : Int} {l : List Bx} {x : Bx} (h : (x.h == q) = false) : stay q (l ++ [x]) = stay q l ++ [x] := by
  unfold stay; rw [List.filter_append]; simp [List.filter_cons, h]
theorem goes_yes {q : Int} {l : List Bx} {x : Bx} (h : (x.h == q) = true) : (goes q (l ++ [x])).length = (goes q l).length + 1 := by
  unfold goes; rw [List.filter_append]; simp [List.filter_cons, h]
theorem goes_no {q : Int} {l : List Bx} {x : Bx} (h : (x.h == q) = false) : goes q (l ++ [x]) = goes q l := by
  unfold goes; rw [List.filter_append]; simp [List.filter_cons, h]
theorem stay_start {l : List Fr} (hid : ∀ k, (atF l k).id < 4294967296) {n : Nat} {q : Int} {m m' : List Bx} (hp : m.Perm (dsK l n)) (hm : m'.Perm (stay q m)) (hh : Hp m' 0 m'.length) :
    TkP (fun x => (x.h == q) = false) ((stay q (dsK l n)).map (·.f)) (dsK l n).length 0 (-1) m' (stay q (dsK l n)) := by
  have hl := dsK_len l n
  have hsub : ∀ x ∈ stay q (dsK l n), x ∈ dsK l n ∧ (x.h == q) = false := fun x hx => by
    have := List.mem_filter.1 hx
    exact ⟨this.1, by simpa using this.2⟩
  refine ⟨hm.trans (hp.filter _), hh, (dsK_inc l hid n).sublist List.filter_sublist, fun x hx => ⟨(dsK_mem l hid n x (hsub x hx).1).1, (dsK_mem l hid n x (hsub x hx).1).2, (hsub x hx).2⟩, by omega, by omega, ?_, rfl, fun h => absurd h (by omega)⟩
  have := List.length_filter_le (fun x : Bx => !(x.h == q)) (dsK l n)
  unfold stay
  omega
end Go.Proofs.Ytbdgifngldipcaa
