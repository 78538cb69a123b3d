/- The plain law of taking: the boxes that are left are taken in the order that is left. -/
import Derived.Test.YtbdgifngldipcaaHpS
namespace Go.Proofs.Ytbdgifngldipcaa
open FP (Fr)
open HP (kB at' Hp)
open OP (atF bestTo orderF)

/-- What is known when j boxes have been taken, last the one with the number 'last'; bs are left, m is their heap. -/
structure TkP (p : Bx → Prop) (ins : List Fr) (seq : Int) (j : Nat) (last : Int) (m bs : List Bx) : Prop where
  perm : m.Perm bs
  heap : Hp m 0 m.length
  inc : bs.Pairwise (fun x y => x.s < y.s)
  ok : ∀ x ∈ bs, okM seq x ∧ x.f.id < 4294967296 ∧ p x
  s0 : 0 ≤ seq
  s1 : seq ≤ 1099511627776
  len : bs.length ≤ 8
  drop : (orderF ins).drop j = orderF (bs.map (·.f))
  last : 0 < j → ∀ x ∈ bs, fieldF (atF (orderF ins) (j - 1)) = fieldF x.f → last < x.s

section
variable {p : Bx → Prop} {ins : List Fr} {seq : Int} {j : Nat} {last : Int} {m m' bs : List Bx}
theorem TkP.mlen (h : TkP p ins seq j last m bs) : m.length = (orderF ins).length - j := by
  rw [h.perm.length_eq, ← List.length_drop, h.drop, OP.orderF_len, List.length_map]
theorem TkP.right (h : TkP p ins seq j last m bs) : rightBx m seq 8 = true := by
  have := h.perm.length_eq
  have := h.len
  exact right_iff.2 ⟨by omega, by omega, by omega, h.s0, h.s1, fun x hx => (h.ok x (h.perm.mem_iff.1 hx)).1, ne_perm h.perm (inc_ne h.inc), h.heap⟩
theorem TkP.id (h : TkP p ins seq j last m bs) : ∀ x ∈ m, x.f.id < 4294967296 := fun x hx => (h.ok x (h.perm.mem_iff.1 hx)).2.1
theorem TkP.step (h : TkP p ins seq j last m bs) (hj : j < (orderF ins).length) (ht : (m' ++ [at' m 0]).Perm m) (hh : Hp m' 0 m'.length) :
    (at' m 0).f = (orderF ins)[j] ∧ p (at' m 0) ∧ (0 < j → fieldF (atF (orderF ins) (j - 1)) = fieldF (orderF ins)[j] → last < (at' m 0).s) ∧ TkP p ins seq (j + 1) (at' m 0).s m' (restB bs) := by
  have hml := h.mlen
  have hpl := h.perm.length_eq
  have h0 : 0 < bs.length := by omega
  have hg : ∀ x ∈ bs, FP.rightB x.f = true := fun x hx => (h.ok x hx).1.1
  have e := first_best h.perm hg h.inc h.heap h0
  have hb := OP.bestTo_lt (bs.map (·.f)) bs.length h0
  have hmem : at' m 0 ∈ bs := by rw [e, HP.at_lt hb]; exact List.getElem_mem _
  have hd := h.drop
  rw [List.drop_eq_getElem_cons hj, order_restB h0, ← e] at hd
  injection hd with hd1 hd2
  have hperm := take_rest h.perm hg h.inc h.heap h0 ht
  have hrp := restB_perm h0
  have hsub : ∀ x ∈ restB bs, x ∈ bs := fun x hx => hrp.mem_iff.1 (List.mem_append_left _ hx)
  refine ⟨hd1.symm, (h.ok _ hmem).2.2, fun h0j hf => h.last h0j _ hmem (by rw [hf, hd1]), ⟨hperm, hh, restB_inc h.inc, fun x hx => h.ok x (hsub x hx), h.s0, h.s1, ?_, hd2, fun _ x hx hf => ?_⟩⟩
  · have := hrp.length_eq
    have := h.len
    rw [List.length_append, List.length_singleton] at *
    omega
  · rw [Nat.add_sub_cancel, OP.atF_lt hj, hd1] at hf
    have hxm : x ∈ m' := hperm.mem_iff.2 hx
    have hne : x.s ≠ (at' m 0).s := by
      have h1 := ne_perm (ht.trans h.perm) (inc_ne h.inc)
      exact (List.pairwise_append.1 h1).2.2 x hxm _ (List.mem_singleton.2 rfl)
    have hk : kB x (at' m 0) = false := by
      obtain ⟨i, hi, rfl⟩ := List.mem_iff_getElem.1 (h.perm.mem_iff.2 (hsub x hx))
      have := h.heap.first i hi
      rwa [HP.at_lt hi] at this
    rcases HP.kB_cases x (at' m 0) with ⟨_, h1⟩ | ⟨h1, _⟩
    · rw [h1] at hk
      have := of_decide_eq_false hk
      omega
    · exact absurd hf.symm h1
end
end Go.Proofs.Ytbdgifngldipcaa
