/- What BusCuts, BusAlone, BusOrder share: comparing rows; Submit said in one way. -/
import Derived.Test.YtjfgapljfbkfiaaGreatDoorBuQ
namespace Go.Proofs.YtjfgapljfbkfiaaGreatDoor
open Go.ChangeShapes Go.WideShapes Go.ChangeAt Go.RowKit
open FP (Fr)

set_option maxRecDepth 100000 in
theorem neq_sn (y : Sn) (W : World) : (binOp .neq 46 (.agg (sncs y).toArray) (.agg (sncs y).toArray)).run Tryz.prog W = .ok (.bool false) W := by
  unfold sncs evL
  go_simp
set_option maxRecDepth 100000 in
theorem neq_cl (c : Cl) (W : World) : (binOp .neq 53 (.agg c.cs.toArray) (.agg c.cs.toArray)).run Tryz.prog W = .ok (.bool false) W := by
  unfold Cl.cs
  go_simp
set_option maxRecDepth 100000 in
theorem exec_neq_sn (y : Sn) (ev : Operand → Value) (op : Oper) (p q : Operand) (t : TypeId) (ho : op.op = .binOp .neq 46 p q t) (hp : ev p = .agg (sncs y).toArray) (hq : ev q = .agg (sncs y).toArray) (W : World) : (execOp ev op).run Tryz.prog W = .ok (.value (.bool false)) W := by
  unfold execOp
  simp only [ho, hp, hq]
  unfold sncs evL
  go_simp
set_option maxRecDepth 100000 in
theorem exec_neq_cl (c : Cl) (ev : Operand → Value) (op : Oper) (p q : Operand) (t : TypeId) (ho : op.op = .binOp .neq 53 p q t) (hp : ev p = .agg c.cs.toArray) (hq : ev q = .agg c.cs.toArray) (W : World) : (execOp ev op).run Tryz.prog W = .ok (.value (.bool false)) W := by
  unfold execOp
  simp only [ho, hp, hq]
  unfold Cl.cs
  go_simp
/-- A row of n does not lie in the block that grows. -/
def OffB (A : Option Addr) (n : Nat) (row : Option Nat) : Prop := n = 0 ∨ ∀ g off, A = some ⟨g, off, none⟩ → row ≠ some g
theorem offB_old {W w : World} {B : Nat} {A : Option Addr} {sz : Nat} {R : List (List Value)} {base : Nat} {e : TypeId} {sz2 : Nat} {E : Option Addr} {n c : Nat} {rows : List (List Value)} (h : Rd w B A sz R) (ho : Own W base e sz2 E c rows) (hb : B ≤ base) : OffB A R.length (Value.slice E n c).ownBlock := by
  by_cases hn : 0 < R.length
  · obtain ⟨g, off, e, hlt, _⟩ := h hn
    refine .inr fun g2 off2 e2 => ?_
    rw [e] at e2
    cases e2
    exact own_not ho (by omega)
  · exact .inl (by omega)
theorem offB_new {W : World} {N m : Nat} {A : Option Addr} {base : Nat} {e : TypeId} {sz2 : Nat} {E : Option Addr} {n c : Nat} {rows : List (List Value)} (h : Fresh N A) (ho : Own W base e sz2 E c rows) (hN : W.heap.size ≤ N) : OffB A m (Value.slice E n c).ownBlock :=
  .inr fun g off e => own_ne ho (by have := h g off e; omega)
theorem offB_ty {W : World} {b1 b2 e1 e2 s1 s2 m n c1 c2 : Nat} {A E : Option Addr} {R1 R2 : List (List Value)} (h : Own W b1 e1 s1 A c1 R1) (ho : Own W b2 e2 s2 E c2 R2) (hte : e1 ≠ e2) : OffB A m (Value.slice E n c2).ownBlock := by
  refine .inr fun g off hA hx => ?_
  subst hA
  rcases h.2 with ⟨hv, _⟩ | ⟨g1, cap, cur, hv, _, hgh, _⟩
  · simp only [Value.slice.injEq] at hv
    exact absurd hv.1 (by simp)
  · simp only [Value.slice.injEq, Option.some.injEq] at hv
    obtain ⟨hv, _, _⟩ := hv
    cases hv
    rcases ho.2 with ⟨hv', _⟩ | ⟨g2, cap', cur', hv', _, hgh', _⟩
    · simp only [Value.slice.injEq] at hv'
      obtain ⟨rfl, _, _⟩ := hv'
      simp [Value.ownBlock] at hx
    · simp only [Value.slice.injEq] at hv'
      obtain ⟨rfl, _, _⟩ := hv'
      simp only [Value.ownBlock, Option.some.injEq] at hx
      subst hx
      rw [hgh] at hgh'
      injection hgh' with hgh'
      injection hgh' with _ h2 _
      exact hte h2
theorem off_lenB {A : Option Addr} {n m : Nat} {row : Option Nat} (h : OffB A n row) (hm : n = 0 → m = 0) : OffB A m row := h.elim (fun e => .inl (hm e)) .inr
theorem snRows_ones (s : List Sn) : ∀ r ∈ snRows s, ∀ u ∈ r, u.oneCell' = true := fun r hr => by
  unfold snRows at hr
  obtain ⟨c, _, rfl⟩ := List.mem_map.1 hr
  simp [sncs, evL, Value.oneCell']
theorem rd_grown2 {w w' : World} {A : Option Addr} {sz : Nat} {R : List (List Value)} {row : Option Nat} (h : Rd w w.heap.size A sz R) (hg : w.grownBy w' row) (ho : OffB A R.length row) : Rd w' w'.heap.size A sz R := by
  rcases ho with ho | ho
  · intro hn; omega
  · exact Rd.grown h hg (Nat.le_refl _) fun b off e he => ho b off e he.symm
/-- The bus behind a Submit; nothing if it is refused. -/
def subR (l : List Cl) (k : Nat) (f : Fr) : List Cl := if (l.getD k zCl).subE f = 0 then subL l k f else []
theorem busSubmit_all (l : List Cl) (A : Option Addr) (c : Nat) (now : Int) (k : Nat) (f : Fr) (w : World) (hr : ClR w w.heap.size A l) (hk : k < l.length) (h4 : l.length ≤ 4) (hn0 : 0 ≤ now) (hn1 : now ≤ 1099511627776) (hok : AllOk l) (hid : f.id < 4294967296) :
    Calls Tryz.prog 12 #[.agg (busL A l.length c now).toArray, .int .i64 k, .agg (frc f).toArray] w fun e w' => ∃ A' c' now', e = .returned (.tuple #[.agg (busL A' (subR l k f).length c' now').toArray, .int .i64 ((l.getD k zCl).subE f)]) ∧ ClR w' w'.heap.size A' (subR l k f) ∧ Fresh w.heap.size A' ∧ ((l.getD k zCl).subE f = 0 → now' = now) ∧ Below w.heap.size w w' := by
  refine (busSubmit_in l A c now k f w hr hk h4 hn0 hn1 hok hid).mono ?_
  rintro e w' ⟨⟨h1, A', c', rfl, h2, h3⟩ | ⟨h1, rfl⟩, q⟩
  · have e : subR l k f = subL l k f := if_pos h1
    have el : (subL l k f).length = l.length := by unfold subL; rw [List.length_set]
    rw [e]
    exact ⟨A', c', now, by rw [h1, el], h2, h3, fun _ => rfl, q⟩
  · have e : subR l k f = [] := if_neg h1
    rw [e]
    exact ⟨none, 0, 0, rfl, fun h => absurd h (by simp), fun _ _ h => (by cases h), fun h => absurd h h1, q⟩
theorem subL_ok {l : List Cl} (h : AllOk l) {k : Nat} (hk : k < l.length) {f : Fr} (he : (l.getD k zCl).subE f = 0) : AllOk (subL l k f) := by
  intro d hd
  unfold subL at hd
  have e : l.getD k zCl = l[k] := by rw [List.getD_eq_getElem?_getD, List.getElem?_eq_getElem hk]; rfl
  rcases List.mem_or_eq_of_mem_set hd with hd | rfl
  · exact h d hd
  · rw [e] at he ⊢
    unfold Cl.subE at he
    unfold Cl.subC
    split at he
    · cases he
    · rename_i h1
      split at he
      · cases he
      · rename_i h2
        rw [if_neg h1, if_neg h2]
        exact (h _ (List.getElem_mem hk)).give (by simpa using h2) (by simpa using h1)
end Go.Proofs.YtjfgapljfbkfiaaGreatDoor
