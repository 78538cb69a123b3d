/- Rows of a slice and stores into boxes beside them. Nothing of the program's text. -/
import Derived.Test.YtnhegnneohpkaaaGreatOrdL
namespace Go.Proofs.YtnhegnneohpkaaaGreat
open Go.ChangeShapes Go.WideShapes Go.ChangeAt Go.RowKit

/-- A row of n does not lie in block x. -/
def Off (A : Option Addr) (n x : Nat) : Prop := n = 0 ∨ ∀ g off, A = some ⟨g, off, none⟩ → g ≠ x
theorem off_set {w : World} {A : Option Addr} {sz : Nat} {R : List (List Value)} {x : Nat} (h : Rd w w.heap.size A sz R) (ho : Off A R.length x) (vs : List Value) (o : Nat) : Rd (w.setCells x o vs) (w.setCells x o vs).heap.size A sz R := by
  rcases ho with ho | ho
  · intro hn
    omega
  · exact rd_setCells ho _ _ _ h
theorem off_new {w : World} {B : Nat} {A : Option Addr} {sz : Nat} {R : List (List Value)} {x : Nat} (h : Rd w B A sz R) (hx : B ≤ x) : Off A R.length x := by
  by_cases hn : 0 < R.length
  · obtain ⟨g, off, e, hb, _⟩ := h hn
    refine .inr fun g2 off2 e2 => ?_
    rw [e] at e2
    cases e2
    omega
  · exact .inl (by omega)
theorem off_fresh {N n x : Nat} {A : Option Addr} (h : ∀ g off, A = some ⟨g, off, none⟩ → N ≤ g) (hx : x < N) : Off A n x := .inr fun g off e => by have := h g off e; omega
theorem off_len {A : Option Addr} {n m x : Nat} (h : Off A n x) (hm : n = 0 → m = 0) : Off A m x := h.elim (fun e => .inl (hm e)) .inr
def Fresh (N : Nat) (A : Option Addr) : Prop := ∀ g off, A = some ⟨g, off, none⟩ → N ≤ g
theorem Fresh.mono {N M : Nat} {A : Option Addr} (h : Fresh N A) (hm : M ≤ N) : Fresh M A := fun g off e => Nat.le_trans hm (h g off e)
theorem fresh_own {W : World} {base : Nat} {e : TypeId} {sz : Nat} {A : Option Addr} {c : Nat} {R : List (List Value)} (h : Own W base e sz A c R) : Fresh base A := own_blk h
theorem splat_go : ∀ (xs : List Value) (n : Nat) (pre suf : List Value), pre.length = n → suf.length = xs.length → List.foldl (fun (cs : Array Value) (x : Value × Nat) => cs.setIfInBounds x.2 x.1) (pre ++ suf).toArray (xs.zipIdx n) = (pre ++ xs).toArray
  | [], _, pre, suf, _, h => by
    cases suf with
    | nil => rfl
    | cons => simp at h
  | x :: xs, n, pre, suf, hp, h => by
    cases suf with
    | nil => simp at h
    | cons s suf =>
      rw [List.zipIdx_cons, List.foldl_cons]
      have e : (pre ++ s :: suf).toArray.setIfInBounds n x = ((pre ++ [x]) ++ suf).toArray := by
        subst hp
        simp
      show List.foldl _ ((pre ++ s :: suf).toArray.setIfInBounds n x) _ = _
      rw [e, splat_go xs (n + 1) (pre ++ [x]) suf (by simp [hp]) (by simpa using h)]
      simp
theorem splat_any (z : Array Value) (xs : List Value) (h : z.size = xs.length) : List.foldl (fun (cs : Array Value) (x : Value × Nat) => cs.setIfInBounds x.2 x.1) z xs.zipIdx = xs.toArray :=
  splat_go xs 0 [] z.toList rfl (by simpa using h)
section
variable {P : Program} {ops : Array Oper} {Q : Exit → Act → World → Prop} {md : Region.Mode} {L : List Nat} {l : List (Nat × (World → Prop))}
theorem wpAnyL_three {i k m : Nat} {fuel : Nat} {listed : Array Bool} {a : Act} {w : World} (hr : Region.ready md ops listed = [i, k, m])
    (h : wpOp P ops Q i (fun a' w' => keepsL md ops L l i w w' ∧ wpAnyL P md ops Q L l fuel (listed.setIfInBounds i true) a' w') a w)
    (h' : wpOp P ops Q k (fun a' w' => keepsL md ops L l k w w' ∧ wpAnyL P md ops Q L l fuel (listed.setIfInBounds k true) a' w') a w)
    (h'' : wpOp P ops Q m (fun a' w' => keepsL md ops L l m w w' ∧ wpAnyL P md ops Q L l fuel (listed.setIfInBounds m true) a' w') a w) : wpAnyL P md ops Q L l (fuel + 1) listed a w :=
  ⟨fun h0 => absurd (hr.symm.trans h0) (by simp), hr ▸ fun j hj => by
    simp only [List.mem_cons, List.not_mem_nil, or_false] at hj
    rcases hj with rfl | rfl | rfl
    · exact h
    · exact h'
    · exact h''⟩
end
theorem own_not {W : World} {base : Nat} {e : TypeId} {sz : Nat} {A : Option Addr} {c n : Nat} {r : List (List Value)} (h : Own W base e sz A c r) {x : Nat} (hx : x < base) : (Value.slice A n c).ownBlock ≠ some x := fun he => by
  have he' : (Value.slice A r.length c).ownBlock = some x := by rw [← he]; cases A <;> rfl
  have := (World.ownsRow.lt h x he').1
  omega

/-- A row of n does not lie in the block that grows. -/
def OffB (A : Option Addr) (n : Nat) (row : Option Nat) : Prop := n = 0 ∨ ∀ g off, A = some ⟨g, off, none⟩ → row ≠ some g
theorem offB_old {W w : World} {B : Nat} {A : Option Addr} {sz : Nat} {R : List (List Value)} {base : Nat} {e : TypeId} {sz2 : Nat} {E : Option Addr} {n c : Nat} {rows : List (List Value)} (h : Rd w B A sz R) (ho : Own W base e sz2 E c rows) (hb : B ≤ base) : OffB A R.length (Value.slice E n c).ownBlock := by
  by_cases hn : 0 < R.length
  · obtain ⟨g, off, e, hlt, _⟩ := h hn
    refine .inr fun g2 off2 e2 => ?_
    rw [e] at e2
    cases e2
    exact own_not ho (by omega)
  · exact .inl (by omega)
theorem offB_new {W : World} {N m : Nat} {A : Option Addr} {base : Nat} {e : TypeId} {sz2 : Nat} {E : Option Addr} {n c : Nat} {rows : List (List Value)} (h : Fresh N A) (ho : Own W base e sz2 E c rows) (hN : W.heap.size ≤ N) : OffB A m (Value.slice E n c).ownBlock :=
  .inr fun g off e => own_ne ho (by have := h g off e; omega)
theorem offB_ty {W : World} {b1 b2 e1 e2 s1 s2 m n c1 c2 : Nat} {A E : Option Addr} {R1 R2 : List (List Value)} (h : Own W b1 e1 s1 A c1 R1) (ho : Own W b2 e2 s2 E c2 R2) (hte : e1 ≠ e2) : OffB A m (Value.slice E n c2).ownBlock := by
  refine .inr fun g off hA hx => ?_
  subst hA
  rcases h.2 with ⟨hv, _⟩ | ⟨g1, cap, cur, hv, _, hgh, _⟩
  · simp only [Value.slice.injEq] at hv
    exact absurd hv.1 (by simp)
  · simp only [Value.slice.injEq, Option.some.injEq] at hv
    obtain ⟨hv, _, _⟩ := hv
    cases hv
    rcases ho.2 with ⟨hv', _⟩ | ⟨g2, cap', cur', hv', _, hgh', _⟩
    · simp only [Value.slice.injEq] at hv'
      obtain ⟨rfl, _, _⟩ := hv'
      simp [Value.ownBlock] at hx
    · simp only [Value.slice.injEq] at hv'
      obtain ⟨rfl, _, _⟩ := hv'
      simp only [Value.ownBlock, Option.some.injEq] at hx
      subst hx
      rw [hgh] at hgh'
      injection hgh' with hgh'
      injection hgh' with _ h2 _
      exact hte h2
theorem off_lenB {A : Option Addr} {n m : Nat} {row : Option Nat} (h : OffB A n row) (hm : n = 0 → m = 0) : OffB A m row := h.elim (fun e => .inl (hm e)) .inr
theorem rd_grown2 {w w' : World} {A : Option Addr} {sz : Nat} {R : List (List Value)} {row : Option Nat} (h : Rd w w.heap.size A sz R) (hg : w.grownBy w' row) (ho : OffB A R.length row) : Rd w' w'.heap.size A sz R := by
  rcases ho with ho | ho
  · intro hn; omega
  · exact Rd.grown h hg (Nat.le_refl _) fun b off e he => ho b off e he.symm
end Go.Proofs.YtnhegnneohpkaaaGreat

/- Blocks that stand but some: what a closure leaves that writes a box it was given. Nothing of the program's text. -/
namespace Go.Proofs.YtnhegnneohpkaaaGreat
open Go.ChangeShapes Go.WideShapes Go.ChangeAt Go.RowKit

/-- All blocks stand but some. -/
structure Kp (S : Nat → Prop) (W W' : World) : Prop where
  os : W'.os = W.os
  tape : W'.tape = W.tape
  output : W'.output = W.output
  size : W.heap.size ≤ W'.heap.size
  block : ∀ k, k < W.heap.size → ¬ S k → W'.heap[k]? = W.heap[k]?
section
variable {S : Nat → Prop} {W W1 W2 : World}
theorem Kp.refl : Kp S W W := ⟨rfl, rfl, rfl, Nat.le_refl _, fun _ _ _ => rfl⟩
theorem Kp.trans (h : Kp S W W1) (k : Kp S W1 W2) : Kp S W W2 :=
  ⟨k.os.trans h.os, k.tape.trans h.tape, k.output.trans h.output, Nat.le_trans h.size k.size, fun i hi hs => (k.block i (Nat.lt_of_lt_of_le hi h.size) hs).trans (h.block i hi hs)⟩
theorem Kp.mono {S' : Nat → Prop} (h : Kp S W W1) (hS : ∀ k, k < W.heap.size → S k → S' k) : Kp S' W W1 := ⟨h.os, h.tape, h.output, h.size, fun k hk hs => h.block k hk fun h' => hs (hS k hk h')⟩
theorem Kp.below {B : Nat} (h : Kp S W W1) (hS : ∀ k, S k → B ≤ k) (hB : B ≤ W.heap.size) : Below B W W1 :=
  ⟨h.os, h.tape, h.output, h.size, fun k hk => h.block k (Nat.lt_of_lt_of_le hk hB) fun hs => by have := hS k hs; omega⟩
theorem Kp.of (q : Below W.heap.size W W1) : Kp S W W1 := ⟨q.os, q.tape, q.output, q.size, fun k hk _ => q.block k hk⟩
theorem Kp.set (W : World) (b o : Nat) (vs : List Value) (hb : S b) : Kp S W (W.setCells b o vs) := by
  have h := below_setCells (B := b) vs o W (Nat.le_refl _)
  refine ⟨h.os, h.tape, h.output, h.size, fun k hk hs => ?_⟩
  have hne : k ≠ b := fun e => hs (e ▸ hb)
  obtain ⟨x, hx⟩ : ∃ x, W.heap[k]? = some x := ⟨W.heap[k], Array.getElem?_eq_getElem hk⟩
  rw [hx]
  exact other_heap hne vs o W hx
theorem Kp.setC (W : World) (b o : Nat) (v : Value) (hb : S b) : Kp S W (W.setCell ⟨b, o, none⟩ v) := Kp.set W b o [v] hb
theorem Kp.one (W : World) (b o : Nat) (v : Value) : Kp (fun k => k = b) W (W.setCell ⟨b, o, none⟩ v) := Kp.set W b o [v] rfl
theorem Kp.new {x : Nat} (h : Kp S W W1) (hx : W.heap.size ≤ x) (o : Nat) (vs : List Value) : Kp S W (W1.setCells x o vs) := by
  have k := below_setCells (B := x) vs o W1 (Nat.le_refl _)
  exact ⟨k.os.trans h.os, k.tape.trans h.tape, k.output.trans h.output, Nat.le_trans h.size k.size, fun i hi hs => (k.block i (by omega)).trans (h.block i hi hs)⟩
theorem Kp.heap {x : Nat} {o : Obj} (h : Kp S W W1) (hx : W.heap[x]? = some o) (hn : ¬ S x) : W1.heap[x]? = some o := (h.block x (heap_lt hx) hn).trans hx
/-- A row lies in none of some blocks. -/
def OffS (S : Nat → Prop) (A : Option Addr) (n : Nat) : Prop := n = 0 ∨ ∀ g off, A = some ⟨g, off, none⟩ → ¬ S g
theorem Kp.rd {A : Option Addr} {sz : Nat} {R : List (List Value)} (h : Kp S W W1) (hr : Rd W W.heap.size A sz R) (hn : OffS S A R.length) : Rd W1 W1.heap.size A sz R := by
  rcases hn with hn | hn
  · intro h0; omega
  · intro h0
    obtain ⟨b, off, e, hb, hc⟩ := hr h0
    refine ⟨b, off, e, by have := h.size; omega, fun k row j v a c => ?_⟩
    have := hc k row j v a c
    rw [← this]
    exact World.cell?_of_block (h.block b hb (hn b off e))
end
theorem one_cell {W : World} {p : Nat} {v : Value} {t : TypeId} (h : W.heap[p]? = some (.cells #[v] t (0, 0))) : W.cell? ⟨p, 0, none⟩ = some v ∧ W.frozen? ⟨p, 0, none⟩ = false := by
  refine ⟨by simp [World.cell?, h], by simp [World.frozen?, h]⟩
theorem there_le {W : World} {b o n m : Nat} (h : W.there b o n) (hm : m ≤ n) : W.there b o m := fun j hj => h j (by omega)
end Go.Proofs.YtnhegnneohpkaaaGreat
