/- Rows of a slice and stores into boxes beside them. Nothing of the program's text. -/
import Derived.Test.YthkilodnghiocaaGreatDoorOrdL
import Derived.Test.YthkilodnghiocaaGreatDoorMgMem
import Derived.RangeFuncNested
import Derived.RangeFuncBound
import Derived.RangeFuncCalls
import Derived.RangeFuncLeaves
import Derived.RangeFuncWrites
import Derived.OwnWalkIn
import Derived.TacticsInMore
import Derived.LoopNIn
import Derived.LoopIn
import Derived.Test.YthkilodnghiocaaGreatDoorOwS
import Derived.Test.YthkilodnghiocaaGreatDoorMgRes
namespace Go.Proofs.YthkilodnghiocaaGreatDoor
open Go.ChangeShapes Go.WideShapes Go.ChangeAt Go.RowKit

/-- A row of n does not lie in block x. -/
def Off (A : Option Addr) (n x : Nat) : Prop := n = 0 ∨ ∀ g off, A = some ⟨g, off, none⟩ → g ≠ x
theorem off_set {w : World} {A : Option Addr} {sz : Nat} {R : List (List Value)} {x : Nat} (h : Rd w w.heap.size A sz R) (ho : Off A R.length x) (vs : List Value) (o : Nat) : Rd (w.setCells x o vs) (w.setCells x o vs).heap.size A sz R := by
  rcases ho with ho | ho
  · intro hn
    omega
  · exact rd_setCells ho _ _ _ h
theorem off_new {w : World} {B : Nat} {A : Option Addr} {sz : Nat} {R : List (List Value)} {x : Nat} (h : Rd w B A sz R) (hx : B ≤ x) : Off A R.length x := by
  by_cases hn : 0 < R.length
  · obtain ⟨g, off, e, hb, _⟩ := h hn
    refine .inr fun g2 off2 e2 => ?_
    rw [e] at e2
    cases e2
    omega
  · exact .inl (by omega)
theorem off_fresh {N n x : Nat} {A : Option Addr} (h : ∀ g off, A = some ⟨g, off, none⟩ → N ≤ g) (hx : x < N) : Off A n x := .inr fun g off e => by have := h g off e; omega
theorem off_len {A : Option Addr} {n m x : Nat} (h : Off A n x) (hm : n = 0 → m = 0) : Off A m x := h.elim (fun e => .inl (hm e)) .inr
def Fresh (N : Nat) (A : Option Addr) : Prop := ∀ g off, A = some ⟨g, off, none⟩ → N ≤ g
theorem Fresh.mono {N M : Nat} {A : Option Addr} (h : Fresh N A) (hm : M ≤ N) : Fresh M A := fun g off e => Nat.le_trans hm (h g off e)
theorem fresh_own {W : World} {base : Nat} {e : TypeId} {sz : Nat} {A : Option Addr} {c : Nat} {R : List (List Value)} (h : Own W base e sz A c R) : Fresh base A := own_blk h
theorem splat_go : ∀ (xs : List Value) (n : Nat) (pre suf : List Value), pre.length = n → suf.length = xs.length → List.foldl (fun (cs : Array Value) (x : Value × Nat) => cs.setIfInBounds x.2 x.1) (pre ++ suf).toArray (xs.zipIdx n) = (pre ++ xs).toArray
  | [], _, pre, suf, _, h => by
    cases suf with
    | nil => rfl
    | cons => simp at h
  | x :: xs, n, pre, suf, hp, h => by
    cases suf with
    | nil => simp at h
    | cons s suf =>
      rw [List.zipIdx_cons, List.foldl_cons]
      have e : (pre ++ s :: suf).toArray.setIfInBounds n x = ((pre ++ [x]) ++ suf).toArray := by
        subst hp
        simp
      show List.foldl _ ((pre ++ s :: suf).toArray.setIfInBounds n x) _ = _
      rw [e, splat_go xs (n + 1) (pre ++ [x]) suf (by simp [hp]) (by simpa using h)]
      simp
theorem splat_any (z : Array Value) (xs : List Value) (h : z.size = xs.length) : List.foldl (fun (cs : Array Value) (x : Value × Nat) => cs.setIfInBounds x.2 x.1) z xs.zipIdx = xs.toArray :=
  splat_go xs 0 [] z.toList rfl (by simpa using h)
section
variable {P : Program} {ops : Array Oper} {Q : Exit → Act → World → Prop} {md : Region.Mode} {L : List Nat} {l : List (Nat × (World → Prop))}
theorem wpAnyL_three {i k m : Nat} {fuel : Nat} {listed : Array Bool} {a : Act} {w : World} (hr : Region.ready md ops listed = [i, k, m])
    (h : wpOp P ops Q i (fun a' w' => keepsL md ops L l i w w' ∧ wpAnyL P md ops Q L l fuel (listed.setIfInBounds i true) a' w') a w)
    (h' : wpOp P ops Q k (fun a' w' => keepsL md ops L l k w w' ∧ wpAnyL P md ops Q L l fuel (listed.setIfInBounds k true) a' w') a w)
    (h'' : wpOp P ops Q m (fun a' w' => keepsL md ops L l m w w' ∧ wpAnyL P md ops Q L l fuel (listed.setIfInBounds m true) a' w') a w) : wpAnyL P md ops Q L l (fuel + 1) listed a w :=
  ⟨fun h0 => absurd (hr.symm.trans h0) (by simp), hr ▸ fun j hj => by
    simp only [List.mem_cons, List.not_mem_nil, or_false] at hj
    rcases hj with rfl | rfl | rfl
    · exact h
    · exact h'
    · exact h''⟩
end
theorem own_not {W : World} {base : Nat} {e : TypeId} {sz : Nat} {A : Option Addr} {c n : Nat} {r : List (List Value)} (h : Own W base e sz A c r) {x : Nat} (hx : x < base) : (Value.slice A n c).ownBlock ≠ some x := fun he => by
  have he' : (Value.slice A r.length c).ownBlock = some x := by rw [← he]; cases A <;> rfl
  have := (World.ownsRow.lt h x he').1
  omega

/-- A row of n does not lie in the block that grows. -/
def OffB (A : Option Addr) (n : Nat) (row : Option Nat) : Prop := n = 0 ∨ ∀ g off, A = some ⟨g, off, none⟩ → row ≠ some g
theorem offB_old {W w : World} {B : Nat} {A : Option Addr} {sz : Nat} {R : List (List Value)} {base : Nat} {e : TypeId} {sz2 : Nat} {E : Option Addr} {n c : Nat} {rows : List (List Value)} (h : Rd w B A sz R) (ho : Own W base e sz2 E c rows) (hb : B ≤ base) : OffB A R.length (Value.slice E n c).ownBlock := by
  by_cases hn : 0 < R.length
  · obtain ⟨g, off, e, hlt, _⟩ := h hn
    refine .inr fun g2 off2 e2 => ?_
    rw [e] at e2
    cases e2
    exact own_not ho (by omega)
  · exact .inl (by omega)
theorem offB_new {W : World} {N m : Nat} {A : Option Addr} {base : Nat} {e : TypeId} {sz2 : Nat} {E : Option Addr} {n c : Nat} {rows : List (List Value)} (h : Fresh N A) (ho : Own W base e sz2 E c rows) (hN : W.heap.size ≤ N) : OffB A m (Value.slice E n c).ownBlock :=
  .inr fun g off e => own_ne ho (by have := h g off e; omega)
theorem offB_ty {W : World} {b1 b2 e1 e2 s1 s2 m n c1 c2 : Nat} {A E : Option Addr} {R1 R2 : List (List Value)} (h : Own W b1 e1 s1 A c1 R1) (ho : Own W b2 e2 s2 E c2 R2) (hte : e1 ≠ e2) : OffB A m (Value.slice E n c2).ownBlock := by
  refine .inr fun g off hA hx => ?_
  subst hA
  rcases h.2 with ⟨hv, _⟩ | ⟨g1, cap, cur, hv, _, hgh, _⟩
  · simp only [Value.slice.injEq] at hv
    exact absurd hv.1 (by simp)
  · simp only [Value.slice.injEq, Option.some.injEq] at hv
    obtain ⟨hv, _, _⟩ := hv
    cases hv
    rcases ho.2 with ⟨hv', _⟩ | ⟨g2, cap', cur', hv', _, hgh', _⟩
    · simp only [Value.slice.injEq] at hv'
      obtain ⟨rfl, _, _⟩ := hv'
      simp [Value.ownBlock] at hx
    · simp only [Value.slice.injEq] at hv'
      obtain ⟨rfl, _, _⟩ := hv'
      simp only [Value.ownBlock, Option.some.injEq] at hx
      subst hx
      rw [hgh] at hgh'
      injection hgh' with hgh'
      injection hgh' with _ h2 _
      exact hte h2
theorem off_lenB {A : Option Addr} {n m : Nat} {row : Option Nat} (h : OffB A n row) (hm : n = 0 → m = 0) : OffB A m row := h.elim (fun e => .inl (hm e)) .inr
theorem rd_grown2 {w w' : World} {A : Option Addr} {sz : Nat} {R : List (List Value)} {row : Option Nat} (h : Rd w w.heap.size A sz R) (hg : w.grownBy w' row) (ho : OffB A R.length row) : Rd w' w'.heap.size A sz R := by
  rcases ho with ho | ho
  · intro hn; omega
  · exact Rd.grown h hg (Nat.le_refl _) fun b off e he => ho b off e he.symm
end Go.Proofs.YthkilodnghiocaaGreatDoor

/- Blocks that stand but some: what a closure leaves that writes a box it was given. Nothing of the program's text. -/
namespace Go.Proofs.YthkilodnghiocaaGreatDoor
open Go.ChangeShapes Go.WideShapes Go.ChangeAt Go.RowKit

/-- All blocks stand but some. -/
structure Kp (S : Nat → Prop) (W W' : World) : Prop where
  os : W'.os = W.os
  tape : W'.tape = W.tape
  output : W'.output = W.output
  size : W.heap.size ≤ W'.heap.size
  block : ∀ k, k < W.heap.size → ¬ S k → W'.heap[k]? = W.heap[k]?
section
variable {S : Nat → Prop} {W W1 W2 : World}
theorem Kp.refl : Kp S W W := ⟨rfl, rfl, rfl, Nat.le_refl _, fun _ _ _ => rfl⟩
theorem Kp.trans (h : Kp S W W1) (k : Kp S W1 W2) : Kp S W W2 :=
  ⟨k.os.trans h.os, k.tape.trans h.tape, k.output.trans h.output, Nat.le_trans h.size k.size, fun i hi hs => (k.block i (Nat.lt_of_lt_of_le hi h.size) hs).trans (h.block i hi hs)⟩
theorem Kp.mono {S' : Nat → Prop} (h : Kp S W W1) (hS : ∀ k, k < W.heap.size → S k → S' k) : Kp S' W W1 := ⟨h.os, h.tape, h.output, h.size, fun k hk hs => h.block k hk fun h' => hs (hS k hk h')⟩
theorem Kp.below {B : Nat} (h : Kp S W W1) (hS : ∀ k, S k → B ≤ k) (hB : B ≤ W.heap.size) : Below B W W1 :=
  ⟨h.os, h.tape, h.output, h.size, fun k hk => h.block k (Nat.lt_of_lt_of_le hk hB) fun hs => by have := hS k hs; omega⟩
theorem Kp.of (q : Below W.heap.size W W1) : Kp S W W1 := ⟨q.os, q.tape, q.output, q.size, fun k hk _ => q.block k hk⟩
theorem Kp.set (W : World) (b o : Nat) (vs : List Value) (hb : S b) : Kp S W (W.setCells b o vs) := by
  have h := below_setCells (B := b) vs o W (Nat.le_refl _)
  refine ⟨h.os, h.tape, h.output, h.size, fun k hk hs => ?_⟩
  have hne : k ≠ b := fun e => hs (e ▸ hb)
  obtain ⟨x, hx⟩ : ∃ x, W.heap[k]? = some x := ⟨W.heap[k], Array.getElem?_eq_getElem hk⟩
  rw [hx]
  exact other_heap hne vs o W hx
theorem Kp.setC (W : World) (b o : Nat) (v : Value) (hb : S b) : Kp S W (W.setCell ⟨b, o, none⟩ v) := Kp.set W b o [v] hb
theorem Kp.one (W : World) (b o : Nat) (v : Value) : Kp (fun k => k = b) W (W.setCell ⟨b, o, none⟩ v) := Kp.set W b o [v] rfl
theorem Kp.new {x : Nat} (h : Kp S W W1) (hx : W.heap.size ≤ x) (o : Nat) (vs : List Value) : Kp S W (W1.setCells x o vs) := by
  have k := below_setCells (B := x) vs o W1 (Nat.le_refl _)
  exact ⟨k.os.trans h.os, k.tape.trans h.tape, k.output.trans h.output, Nat.le_trans h.size k.size, fun i hi hs => (k.block i (by omega)).trans (h.block i hi hs)⟩
theorem Kp.heap {x : Nat} {o : Obj} (h : Kp S W W1) (hx : W.heap[x]? = some o) (hn : ¬ S x) : W1.heap[x]? = some o := (h.block x (heap_lt hx) hn).trans hx
/-- A row lies in none of some blocks. -/
def OffS (S : Nat → Prop) (A : Option Addr) (n : Nat) : Prop := n = 0 ∨ ∀ g off, A = some ⟨g, off, none⟩ → ¬ S g
theorem Kp.rd {A : Option Addr} {sz : Nat} {R : List (List Value)} (h : Kp S W W1) (hr : Rd W W.heap.size A sz R) (hn : OffS S A R.length) : Rd W1 W1.heap.size A sz R := by
  rcases hn with hn | hn
  · intro h0; omega
  · intro h0
    obtain ⟨b, off, e, hb, hc⟩ := hr h0
    refine ⟨b, off, e, by have := h.size; omega, fun k row j v a c => ?_⟩
    have := hc k row j v a c
    rw [← this]
    exact World.cell?_of_block (h.block b hb (hn b off e))
end
theorem one_cell {W : World} {p : Nat} {v : Value} {t : TypeId} (h : W.heap[p]? = some (.cells #[v] t (0, 0))) : W.cell? ⟨p, 0, none⟩ = some v ∧ W.frozen? ⟨p, 0, none⟩ = false := by
  refine ⟨by simp [World.cell?, h], by simp [World.frozen?, h]⟩
theorem there_le {W : World} {b o n m : Nat} (h : W.there b o n) (hm : m ≤ n) : W.there b o m := fun j hj => h j (by omega)
end Go.Proofs.YthkilodnghiocaaGreatDoor

/- A range over a function whose rounds are known ahead: round k is handed 'enc k', and what holds between two rounds is known to the iterator, too (it may read what the body writes). Nothing of the program's text. -/
namespace Go.Proofs.YthkilodnghiocaaGreatDoor
open Go.ChangeShapes Go.WideShapes Go.ChangeAt Go.RowKit

/-- How a round's body is left: it goes on. -/
def roundOn (B : Nat) (I : World → Prop) (W : World) : Exit → Act → World → Prop
  | .normal, _, W' => KeepsFrom B W W' ∧ I W'
  | _, _, _ => False

theorem range_exact {P : Program} {n : Nat} {g : Operand} {ps : Array Tmp} {assign body : Code} {Q : Exit → Act → World → Prop} {a : Act} {w : World} {gf : Nat} {lb : Array Value}
    (hg : a.eval g = .func (.func gf) #[] lb) (eg : ∀ args w, (callFunc gf args).run P w = .ok (.enter gf args) w) (enc : Nat → Array Value) (hps : ∀ k, (enc k).size = ps.size) (N : Nat) (I : Nat → World → Prop)
    (hIa : ∀ k W o, I k W → I k (W.alloc o)) (hIp : ∀ k W l o o', I k W → w.heap.size ≤ l → W.heap[l]? = some o → o.isCells = false → I k (W.putObj l o'))
    (hiter : ∀ (l : Nat) (J : Nat → World → Prop) (W : World), (∀ k W, J k W → I k W) →
      (∀ k W, k < N → J k W → YieldAt Fence.wide (n - 1 - 1) P l (enc k) W fun e W' => e = .returned (.bool true) ∧ J (k + 1) W') → J 0 W →
      CallsIn Fence.wide (n - 1) P gf (#[.func (.yield l) #[] #[]] ++ lb) W fun e W' => (∃ v, e = .returned v) ∧ J N W')
    (h0 : I 0 w) (a₁ : Nat → Act)
    (hassign : ∀ (l k : Nat) (W : World) (K : Act → World → Prop), K (a₁ k) W →
      assign.wpIn (Fence.wide.inRound l) (n - 1 - 1) P (Exit.then K (fun _ _ _ => False)) { tmps := (ps.zip (enc k)).foldl (fun t (p, v) => t.setIfInBounds p v) a.tmps, defers := [] } W)
    (hbody : ∀ (l k : Nat) (W : World), I k W → k < N → body.wpIn (Fence.wide.inRound l) (n - 1 - 1) P (roundOn w.heap.size (I (k + 1)) W) (a₁ k) W)
    (hdone : ∀ (D : Nat) (W : World), I N W → w.heap.size ≤ D → W.heap[D]? = some (.deferred (some [])) → Q .normal { a with defers := { target := .collected D, args := #[] } :: a.defers } W) :
    (Code.rangeFunc g ps assign body).wp P Q a w := by
  refine (wpIn_wide (n := n)).1 (wpIn_rangeFunc ?_)
  intro fn hfn
  rw [Fence.wide_round]
  obtain ⟨rec, hrec⟩ : ∃ rec : LoopState → Option Code → Loop, rec = fun st pe => { state := st, pending := pe, fn, tmps := a.tmps, params := ps, assign, body, defers := w.heap.size } := ⟨_, rfl⟩
  obtain ⟨W1, hW1⟩ : ∃ W1, (w.alloc (.deferred (some []))).alloc (.loop (rec .ready none)) = W1 := ⟨_, rfl⟩
  have hL1 : W1.heap[w.heap.size + 1]? = some (.loop (rec .ready none)) := by
    rw [← hW1]; have := World.alloc_heap_new (w.alloc (.deferred (some []))) (.loop (rec .ready none)); rwa [World.size_alloc] at this
  have hK1 : W1.heap[w.heap.size]? = some (.deferred (some [])) := by
    rw [← hW1]; exact (Below.heap_alloc _ _ _ (by simp)).trans (World.alloc_heap_new w _)
  have hI1 : I 0 W1 := by rw [← hW1]; exact hIa _ _ _ (hIa _ _ _ h0)
  refine ⟨w.heap.size + 1, [{ target := .collected w.heap.size, args := #[] }], W1, { target := .fn (.func gf) lb, args := #[.func (.yield (w.heap.size + 1)) #[] #[]] }, W1, gf,
    #[.func (.yield (w.heap.size + 1)) #[] #[]] ++ lb, W1, ?_, ?_, ?_, ?_, fun h => by simp [Fence.wide] at h, ?_⟩
  · rw [← hW1, hrec]; exact run_enterLoop_outer _ _ _ _ _
  · simp only [resolve, hg]
    simp [go_sem]
  · intro f' _; trivial
  · simp [invoke, go_sem, eg]
  · refine (hiter (w.heap.size + 1)
      (fun k W => I k W ∧ W.heap[w.heap.size + 1]? = some (.loop (rec .ready none)) ∧ W.heap[w.heap.size]? = some (.deferred (some [])))
      W1 (fun _ _ h => h.1) ?_ ⟨hI1, hL1, hK1⟩).mono ?_
    · rintro k W hk ⟨hi, hl, hd⟩
      have hlt : w.heap.size + 1 < W.heap.size := (Array.getElem?_eq_some_iff.1 hl).1
      have hy := run_yield (P := P) (args := enc k) hl (by rw [hrec]; exact hps k)
      rw [hrec] at hy
      refine ⟨fn, _, assign, body, hy, roundIn_of_wpIn hfn (hassign _ k W _ ⟨_, run_beginRound hl (by rw [hrec]), ?_⟩)⟩
      have hl2 : (W.putObj (w.heap.size + 1) (.loop { rec .ready none with state := .busy })).heap[w.heap.size + 1]? = some (.loop { rec .ready none with state := .busy }) := World.putObj_heap_same hlt
      have hk2 : (W.putObj (w.heap.size + 1) (.loop { rec .ready none with state := .busy })).heap[w.heap.size]? = some (.deferred (some [])) := (World.putObj_heap_other (by omega)).trans hd
      refine wpIn_mono (hbody _ k _ (hIp _ _ _ _ _ hi (by omega) hl rfl) hk) ?_
      rintro e a3 W3 hp
      cases e with
      | normal =>
        obtain ⟨hk3, hi3⟩ := hp
        have hl3 := hk3.same _ _ (by omega) hl2 rfl
        have hd3 := hk3.same _ _ (by omega) hk2 rfl
        have hr := run_endRound (P := P) none hl3
        refine ⟨_, _, hr, rfl, hIp _ _ _ _ _ hi3 (by omega) hl3 rfl, ?_, (World.putObj_heap_other (by omega)).trans hd3⟩
        have := World.putObj_heap_same (o := .loop (rec .ready none)) (Array.getElem?_eq_some_iff.1 hl3).1
        rw [hrec] at this ⊢
        exact this
      | ret => exact hp.elim
      | exit id => exact hp.elim
      | goto t => exact hp.elim
      | panic ch => exact hp.elim
      | outgrown => exact hp.elim
    · rintro e W2 ⟨⟨v, rfl⟩, hi, hl, hk⟩
      exact ⟨none, _, by have := run_endLoop (P := P) hl (by rw [hrec]; simp); rw [hrec] at this; exact this, hdone _ _ (hIp _ _ _ _ _ hi (by omega) hl rfl) (Nat.le_refl _) ((World.putObj_heap_other (by omega)).trans hk)⟩
end Go.Proofs.YthkilodnghiocaaGreatDoor

/- What a range over a function asks of rows of the call's own; an append in a round. Nothing of the program's text. -/
namespace Go.Proofs.YthkilodnghiocaaGreatDoor
open Go.ChangeShapes Go.WideShapes Go.ChangeAt Go.RowKit

theorem own_put {W : World} {base e sz : Nat} {A : Option Addr} {c : Nat} {r : List (List Value)} (h : Own W base e sz A c r) {l : Nat} {o o' : Obj} (ho : W.heap[l]? = some o) (hc : o.isCells = false) : Own (W.putObj l o') base e sz A c r := by
  refine World.ownsRow.kept h (grownBy_putObj' W l o') ?_
  rcases h.2 with ⟨hv, _⟩ | ⟨g, cap, cur, hv, _, hgh, _⟩
  · rw [hv]; exact .inl rfl
  · rw [hv]
    refine .inr ?_
    simp only [Value.ownBlock, ne_eq, Option.some.injEq]
    rintro rfl
    rw [ho] at hgh
    injection hgh with hgh
    subst hgh
    cases hc

theorem heap_put {W : World} {x l : Nat} {o o' : Obj} {cs : Array Value} {t : TypeId} {fz : Nat × Nat} (h : W.heap[x]? = some (.cells cs t fz)) (ho : W.heap[l]? = some o) (hc : o.isCells = false) : (W.putObj l o').heap[x]? = some (.cells cs t fz) := by
  have : x ≠ l := by
    rintro rfl
    rw [ho] at h
    injection h with h
    subst h
    cases hc
  rw [World.putObj_heap_other this]
  exact h

theorem keeps_grown {W W' : World} {row : Option Nat} (hg : W.grownBy W' row) (hc : ∀ j o, row = some j → W.heap[j]? = some o → o.isCells = true) : KeepsOthers W W' :=
  ⟨hg.size, fun k o h1 h2 => by
    have hlt := (Array.getElem?_eq_some_iff.1 h1).1
    by_cases e : some k = row
    · have := hc k o e.symm h1
      rw [h2] at this
      cases this
    · exact (hg.block k hlt e).trans h1⟩

/-- 's = append(s, ds...)' in a round. -/
theorem wpListIn_append_rows {F : Fence} {m : Nat} {P : Program} {ops : Array Oper} {rest : List Oper} {o : Oper} {a : Act} {Q : Exit → Act → World → Prop} (w : World) (hgd : o.guard = none) (s x : Operand) (t : TypeId)
    (ho : o.op = .call { callee := .builtin .append, args := #[s, x], argTypes := #[t, t] })
    {e : TypeId} {sz bytes : Nat} (T : SlT P t e sz bytes) (base : Nat) (A : Option Addr) (N c : Nat) (cs : List (List Value)) (hs : a.eval s = .slice A N c) (hown : Own w base e sz A c cs)
    (B : Option Addr) (M d : Nat) (ds : List (List Value)) (hx : a.eval x = .slice B M d) (hrd : Rd w w.heap.size B sz ds) (hds : ∀ r ∈ ds, r.length = sz) (h1 : ∀ r ∈ ds, ∀ u ∈ r, u.oneCell' = true)
    (hbytes : (cs.length + ds.length) * bytes ≤ 140737488355328) (h63 : cs.length + ds.length ≤ maxLen) (hbase : base ≤ w.heap.size) (hN : N = cs.length) (hM : M = ds.length)
    (h : ∀ A' c' w', Own w' base e sz A' c' (cs ++ ds) → w.grownBy w' (Value.slice A N c).ownBlock → wpListIn F m P ops Q rest (a.put o.dst (.slice A' (N + M) c')) w') : wpListIn F m P ops Q (o :: rest) a w := by
  refine wpListIn_plain hgd fun K hK' => ?_
  obtain ⟨A', c', w', hrun, h2, h3⟩ := run_append_rows (P := P) (ty := o.type) w T base A c cs hown B d ds hrd hds h1 hbytes h63 hbase N M hN hM
  unfold Oper.wpIn
  refine ⟨?_, ?_⟩
  · simp [Oper.about, ho, resolve, Target.leads, Sem.run_pure]
  · rw [Oper.semAt_plain F _ _ (by rw [ho]; intro c hc'; cases hc')]
    simp [execOp, ho, resolve, invoke, builtin, hs, hx, hrun, Result.andThen]
    exact hK' _ _ (h A' c' w' h2 h3)

theorem one_free {W : World} {B : Nat} {v : Value} {t : TypeId} (h : W.heap[B]? = some (.cells #[v] t (0, 0))) : W.cell? ⟨B, 0, none⟩ = some v ∧ W.frozen? ⟨B, 0, none⟩ = false := by
  simp [World.cell?, World.frozen?, h]

theorem heap_grown2 {W W' : World} {x : Nat} {o : Obj} (h : W.heap[x]? = some o) {base : Nat} {e : TypeId} {sz : Nat} {A : Option Addr} {c n : Nat} {cs : List (List Value)} (hg : W.grownBy W' (Value.slice A n c).ownBlock) (ho : Own W base e sz A c cs) (hx : x < base := by omega) : W'.heap[x]? = some o := by
  refine heap_grownB h hg ?_
  intro he
  have := (World.ownsRow.lt ho x (by rw [← he]; cases A <;> rfl)).1
  omega

/-- An append into a row of the call's own leaves all that is no cells. -/
theorem keeps_own {W W' : World} {base e sz n c : Nat} {A : Option Addr} {cs : List (List Value)} (ho : Own W base e sz A c cs) (hg : W.grownBy W' (Value.slice A n c).ownBlock) : KeepsOthers W W' := keeps_grown hg (fun j o he h => by
  rcases ho.2 with ⟨hv, _⟩ | ⟨g, cap, cur, hv, _, hgh, _⟩
  · simp only [Value.slice.injEq] at hv
    rw [hv.1] at he
    cases he
  · simp only [Value.slice.injEq] at hv
    rw [hv.1] at he
    simp only [Value.ownBlock, Option.some.injEq] at he
    subst he
    rw [h] at hgh
    injection hgh with hgh
    rw [hgh]
    rfl)
end Go.Proofs.YthkilodnghiocaaGreatDoor

/- append of one row to a row of the call's own; what else stands behind it. Nothing of the program's text. -/
namespace Go.Proofs.YthkilodnghiocaaGreatDoor
open Go.ChangeShapes Go.WideShapes Go.ChangeAt Go.RowKit

theorem heapLow {B : Nat} {W W' : World} {x : Nat} {o : Obj} (h : W.heap[x]? = some o) (hb : Below B W W') (hx : x < B) : W'.heap[x]? = some o := (hb.block x hx).trans h

/-- What an append of one row makes of the world. -/
structure Ap1 (w w' : World) (base : Nat) (e : TypeId) (sz : Nat) (A : Option Addr) (c : Nat) (rows : List (List Value)) (row : List Value) (A' : Option Addr) (c' : Nat) : Prop where
  own : Own w' base e sz A' c' (rows ++ [row])
  old : Own w base e sz A c rows
  below : Below base w w'
  base : base ≤ w.heap.size
  grown : (w.alloc (.cells row.toArray e)).grownBy w' (Value.slice A rows.length c).ownBlock

theorem Ap1.q {w w' : World} {base : Nat} {e : TypeId} {sz : Nat} {A : Option Addr} {c : Nat} {rows : List (List Value)} {row : List Value} {A' : Option Addr} {c' : Nat} (h : Ap1 w w' base e sz A c rows row A' c') {B : Nat} {W : World} (hb : Below B W w) (hB : B ≤ base) : Below B W w' := hb.trans (h.below.mono hB)
/-- Another row, of another type, stands. -/
theorem Ap1.other {w w' : World} {base : Nat} {e : TypeId} {sz : Nat} {A : Option Addr} {c : Nat} {rows : List (List Value)} {row : List Value} {A' : Option Addr} {c' : Nat} (h : Ap1 w w' base e sz A c rows row A' c')
    {base2 e2 sz2 : Nat} {A2 : Option Addr} {c2 : Nat} {r2 : List (List Value)} (h2 : Own w base2 e2 sz2 A2 c2 r2) (hte : e2 ≠ e) : Own w' base2 e2 sz2 A2 c2 r2 :=
  own_apartT (h2.alloc _) (h.old.alloc _) hte h.grown
/-- A block of another kind stands. -/
theorem Ap1.heap {w w' : World} {base : Nat} {e : TypeId} {sz : Nat} {A : Option Addr} {c : Nat} {rows : List (List Value)} {row : List Value} {A' : Option Addr} {c' : Nat} (h : Ap1 w w' base e sz A c rows row A' c')
    {x : Nat} {cs : Array Value} {t : TypeId} {fz : Nat × Nat} (hx : w.heap[x]? = some (.cells cs t fz)) (hte : t ≠ e) : w'.heap[x]? = some (.cells cs t fz) :=
  heap_grown (heap_below hx ((Below.refl _ _).alloc (Nat.le_refl _) (.cells row.toArray e))) hte (h.old.alloc _) h.grown
theorem Ap1.low {w w' : World} {base : Nat} {e : TypeId} {sz : Nat} {A : Option Addr} {c : Nat} {rows : List (List Value)} {row : List Value} {A' : Option Addr} {c' : Nat} (h : Ap1 w w' base e sz A c rows row A' c')
    {x : Nat} {o : Obj} (hx : w.heap[x]? = some o) (hb : x < base) : w'.heap[x]? = some o := heapLow hx h.below hb

section
variable {P : Program} {ops : Array Oper} {rest : List Oper} {o : Oper} {a : Act} {Q : Exit → Act → World → Prop}
theorem ap1_side (w : World) {e sz : Nat} (row : List Value) (hr : row.length = sz) :
    Rd (w.alloc (.cells row.toArray e)) (w.alloc (.cells row.toArray e)).heap.size (some ⟨w.heap.size, 0, none⟩) sz [row] := by
  have := Rd.new w [row] sz e (0, 0) (by simpa using hr)
  simpa using this

theorem wpList_append_one (w : World) (cs : Array Value) (row : List Value) (hcs : cs = row.toArray) (hgd : o.guard = none) (s x : Operand) (t : TypeId)
    (ho : o.op = .call { callee := .builtin .append, args := #[s, x], argTypes := #[t, t] })
    {e : TypeId} {sz bytes : Nat} (T : SlT P t e sz bytes) (hby : bytes ≤ 4096) (hr : row.length = sz) (h1 : ∀ u ∈ row, u.oneCell' = true) (base : Nat) (A : Option Addr) (N c : Nat) (rows : List (List Value)) (hs : a.eval s = .slice A N c) (hown : Own w base e sz A c rows)
    (d : Nat) (hx : a.eval x = .slice (some ⟨w.heap.size, 0, none⟩) 1 d)
    (hl : rows.length ≤ 1000000000) (hbase : base ≤ w.heap.size) (hN : N = rows.length)
    (h : ∀ A' c' w', Ap1 w w' base e sz A c rows row A' c' → wpList P ops Q rest (a.put o.dst (.slice A' (N + 1) c')) w') : wpList P ops Q (o :: rest) a (w.alloc (.cells cs e)) := by
  subst hcs
  have hN2 := hN
  subst hN
  have q : Below w.heap.size w (w.alloc (.cells row.toArray e)) := (Below.refl _ _).alloc (Nat.le_refl _) _
  refine wpList_append_rows _ hgd s x t ho T base A rows.length c rows hs (hown.alloc _) _ 1 d [row] hx (ap1_side w row hr) (by simpa using hr) (by simpa using h1)
    (Nat.le_trans (Nat.mul_le_mul (show rows.length + [row].length ≤ 1000000001 by simp; omega) hby) (by decide)) (by simp [maxLen]; omega) (by simp; omega) rfl rfl ?_
  intro A' c' w' o1 g1
  exact h A' c' w' ⟨o1, hown, (q.mono hbase).trans (below_own g1 (hown.alloc _) (by simp; omega)), hbase, g1⟩
end
end Go.Proofs.YthkilodnghiocaaGreatDoor

/- Loads of rows that are guarded, in a plain region. Nothing of the program's text. -/
namespace Go.Proofs.YthkilodnghiocaaGreatDoor
open Go.ChangeShapes Go.WideShapes Go.ChangeAt Go.RowKit

theorem wpList_load_rowG {P : Program} {ops : Array Oper} {rest : List Oper} {o : Oper} {a : Act} {w : World} {Q : Exit → Act → World → Prop} (hw : Region.wanted o (yielded ops a.tmps) = true) (ty : TypeId) (x : Operand) (ho : o.op = .load ty x)
    (g : Nat) (hx : a.eval x = .pointer (some ⟨g, 0, none⟩)) (t : TypeId) (cs : Array Value) (fr : Nat × Nat) (d : TypeDesc) (hg : w.heap[g]? = some (.cells cs t fr))
    (hu : P.underlying ty = some d) (hd : (match d with | .struct _ | .array _ _ => true | _ => false) = true) (hi : (P.info? ty).map (·.size) = some cs.size)
    (h : wpList P ops Q rest (a.put o.dst (.agg cs)) w) : wpList P ops Q (o :: rest) a w :=
  wpList_step fun K hK => by
    rw [if_pos hw]
    exact wp_load_row ty x ho g hx t cs fr d hg hu hd hi (hK _ _ h)
theorem wpList_load_midG {P : Program} {ops : Array Oper} {rest : List Oper} {op : Oper} {a : Act} {w : World} {Q : Exit → Act → World → Prop} (hw : Region.wanted op (yielded ops a.tmps) = true) (ty : TypeId) (x : Operand) (ho : op.op = .load ty x)
    (b o : Nat) (hx : a.eval x = .pointer (some ⟨b, o, none⟩)) (cs : List Value) (d : TypeDesc) (hc : w.rangeAt b o cs)
    (hu : P.underlying ty = some d) (hd : d.isRow = true) (hi : (P.info? ty).map (·.size) = some cs.length)
    (h : wpList P ops Q rest (a.put op.dst (.agg cs.toArray)) w) : wpList P ops Q (op :: rest) a w :=
  wpList_step fun K hK => by
    rw [if_pos hw]
    exact wp_load_mid ty x ho b o hx cs d hc hu hd hi (hK _ _ h)
end Go.Proofs.YthkilodnghiocaaGreatDoor

/- Routers of one path; rings of strings. -/
namespace Go.Proofs.YthkilodnghiocaaGreatDoor
open Go.ChangeShapes Go.WideShapes Go.ChangeAt Go.RowKit

theorem sub_rangeT {W : World} {b : Nat} {cs vs : List Value} {t : TypeId} {fz : Nat × Nat} (h : W.heap[b]? = some (.cells cs.toArray t fz)) (o : Nat) (e : (cs.drop o).take vs.length = vs) : W.rangeAt b o vs := fun j v hv => by
  have h1 : cs[o + j]? = some v := by
    rw [← e, List.getElem?_take] at hv
    split at hv
    · rw [List.getElem?_drop] at hv; exact hv
    · cases hv
  simpa [World.cell?, h] using h1
theorem two_cellsT {W : World} {B : Nat} {a b : Value} {t : TypeId} {fz : Nat × Nat} (h : W.heap[B]? = some (.cells #[a, b] t fz)) : W.cell? ⟨B, 0, none⟩ = some a ∧ W.cell? ⟨B, 1, none⟩ = some b := by
  simp [World.cell?, h]
/-- The one path from 1 to 2. -/
def pt1 (A : Option Addr) (n c : Nat) : Pth := ⟨1, 2, 0, A, n, c, 4, false⟩
def rtL (PA : Option Addr) (pc : Nat) (OA : Option Addr) (oc : Nat) : List Value := [.slice PA 1 pc, .slice OA 1 oc]
/-- A router with that path, and what waits. -/
structure Rt (W : World) (PA : Option Addr) (OA : Option Addr) (A : Option Addr) (c : Nat) (l : List ByteArray) : Prop where
  P : PtR W W.heap.size PA [pt1 A l.length c]
  O : Rd W W.heap.size OA 1 [[.bool true]]
  I : StR W W.heap.size A l
  n : l.length ≤ 4
  cap : l.length ≤ c
  s : ∀ x ∈ l, x.size ≤ 8
theorem Rt.next {W W' : World} {PA OA A : Option Addr} {c : Nat} {l : List ByteArray} (h : Rt W PA OA A c l) (q : Below W.heap.size W W') : Rt W' PA OA A c l := ⟨Rd.next h.P q q.size, Rd.next h.O q q.size, Rd.next h.I q q.size, h.n, h.cap, h.s⟩
set_option maxRecDepth 100000 in
theorem ptNone_any (v : Value) (A : Option Addr) (c : Nat) (w : World) : Calls Tryz.prog 29 #[.slice A 0 c, v] w fun e w' => e = .returned (.bool false) ∧ Below w.heap.size w w' := by
  have I : Hid (Calls Tryz.prog 15 #[.slice A 0 c, v] w fun e w' => e = .returned (.int .i64 (-1)) ∧ Below w.heap.size w w') := hide (by
    go_enter Tryz.func15, Tryz.ntmps15
    go_wp2
    go_loopw [8] (fun i W => i = .int .i64 0 ∧ Hid (Below w.heap.size w W)) (fun i _ => 0)
    case atStart => exact ⟨rfl, hide (Below.refl _ _)⟩
    case round =>
      obtain ⟨rfl, q⟩ := hrel
      go_wp2
      go_ret
      exact ⟨rfl, q.out⟩)
  go_enter Tryz.func29, Tryz.ntmps29
  go_wp2_with fail
  (with_reducible refine I.out.mono ?_)
  rintro e1 w1 ⟨rfl, q1⟩
  go_wp2
  go_ret
  exact ⟨rfl, q1⟩

set_option maxRecDepth 100000 in
set_option maxHeartbeats 16000000 in
theorem rtRight_ok (PA OA A : Option Addr) (pc oc c : Nat) (l : List ByteArray) (w : World) (h : Rt w PA OA A c l) :
    Calls Tryz.prog 10 #[.agg (rtL PA pc OA oc).toArray] w fun e w' => e = .returned (.bool true) ∧ Below w.heap.size w w' := by
  obtain ⟨w0, hw0⟩ : ∃ w0, w0 = w.alloc (.cells (rtL PA pc OA oc).toArray 31) := ⟨_, rfl⟩
  have B := hide (World.alloc_heap_new w (.cells (rtL PA pc OA oc).toArray 31))
  have Q : Hid (Below w.heap.size w w0) := by rw [hw0]; exact hide ((Below.refl w.heap.size w).alloc (Nat.le_refl _) (.cells (rtL PA pc OA oc).toArray 31))
  rw [← hw0] at B
  have H := hide h
  have HN := hide h.n
  clear h
  go_enter Tryz.func10, Tryz.ntmps10
  go_upto_region 1 with fail
  change Code.wp _ _ _ _ (w.alloc (.cells (rtL PA pc OA oc).toArray 31))
  rw [← hw0]
  clear hw0
  obtain ⟨b0, b1⟩ := two_cellsT (a := .slice PA 1 pc) (b := .slice OA 1 oc) B.out
  go_wp2_with fail
  clear b0 b1
  go_loopw [26] (fun vi W => ∃ k : Nat, k ≤ 1 ∧ vi = .int .i64 k ∧ Hid (W.heap[w.heap.size]? = some (.cells (rtL PA pc OA oc).toArray 31 (0, 0))) ∧ Hid (Below w.heap.size w W)) (fun vi _ => 1 - (intOf vi).toNat)
  case atStart => exact ⟨0, by omega, rfl, B, Q⟩
  case round =>
    clear B Q
    obtain ⟨k, hk, rfl, B, Q⟩ := hrel
    by_cases hlt : k = 1
    · subst hlt
      go_wp2_with fail
      go_ret
      exact ⟨rfl, Q.out⟩
    obtain rfl : k = 0 := by omega
    have HW := hide (H.out.next Q.out)
    obtain ⟨pb, po, rfl, hpb, hrow⟩ := HW.out.P (by simp)
    have PA2 := hide (show wr.rangeAt pb (po + 0 * 6) (ptc (pt1 A l.length c)) from fun j v hv => by have := hrow 0 (ptc (pt1 A l.length c)) j v rfl hv; exact this)
    clear hrow
    obtain ⟨b0, b1⟩ := two_cellsT (a := .slice (some ⟨pb, po, none⟩) 1 pc) (b := .slice OA 1 oc) B.out
    rw [Nat.zero_mul, Nat.add_zero] at PA2
    have X := World.alloc_heap_new wr (.cells (ptc ⟨0, 0, 0, none, 0, 0, 0, false⟩).toArray 27)
    have zBx : w.heap.size < wr.heap.size := heap_lt B.out
    have zQx : w.heap.size ≤ wr.heap.size := Q.out.size
    obtain ⟨w2', hw2'⟩ : ∃ wx, wx = wr.alloc (.cells (ptc ⟨0, 0, 0, none, 0, 0, 0, false⟩).toArray 27) := ⟨_, rfl⟩
    have q1' := hide (show Below wr.heap.size wr w2' by rw [hw2']; exact (Below.refl _ _).alloc (Nat.le_refl _) _)
    rw [← hw2'] at X
    replace X := hide X
    have Tw3' := hide (show (wr.alloc (.cells (ptc ⟨0, 0, 0, none, 0, 0, 0, false⟩).toArray 27)).there wr.heap.size 0 6 by rw [← hw2']; exact there_heap (cs := ptc ⟨0, 0, 0, none, 0, 0, 0, false⟩) X.out)
    go_wp2_with (first | (refine wpList_load_mid rfl 27 (.tmp 29) (by rfl) pb po (by rfl) (ptc (pt1 A l.length c)) _ (by exact PA2.out) Tryz.underlying27 (by rfl) (by kernel_rfl) ?_) | (refine wpList_store_hid (by rfl) 27 (.tmp 5) (.tmp 30) (by rfl) wr.heap.size 0 (ptc (pt1 A l.length c)) (by rfl) (by rfl) (by exact Tw3'.out) (by kernel_rfl) (by simp [Value.oneCell', ptc]) ?_))
    intro w3' ew3'
    replace ew3' : Hid (w3' = w2'.setCells wr.heap.size 0 (ptc (pt1 A l.length c))) := by rw [hw2']; exact ew3'
    replace X := hide (show w3'.heap[wr.heap.size]? = some (.cells (ptc (pt1 A l.length c)).toArray 27 (0, 0)) by rw [ew3'.out]; exact whole_heap (ptc (pt1 A l.length c)) (xs := ptc ⟨0, 0, 0, none, 0, 0, 0, false⟩) X.out rfl)
    replace q1' := hide (show Below wr.heap.size wr w3' by rw [ew3'.out]; exact q1'.out.trans (below_setCells _ _ _ (by omega)))
    clear ew3' Tw3' hw2'
    replace B := hide (heap_below B.out q1'.out)
    replace Q := hide (below_next Q.out Q.out.size q1'.out)
    clear q1'
    generalize wr.heap.size = x at *
    clear b0 b1
    obtain ⟨b0, b1⟩ := two_cellsT (a := .slice (some ⟨pb, po, none⟩) 1 pc) (b := .slice OA 1 oc) B.out
    have hx : ∀ W : World, W.heap[x]? = some (.cells (ptc (pt1 A l.length c)).toArray 27 (0, 0)) → W.cell? ⟨x, 0, none⟩ = some (.int .i64 1) ∧ W.cell? ⟨x, 1, none⟩ = some (.int .i64 2) ∧ W.cell? ⟨x, 2, none⟩ = some (.int .i64 0) ∧ W.cell? ⟨x, 3, none⟩ = some (.slice A l.length c) := fun W h => by simp [World.cell?, h, ptc, pt1]
    obtain ⟨x0, x1, x2, x3⟩ := hx _ X.out
    replace hx := hide hx
    have R1 := hide (rgRight_ok A l.length c w3' HN.out)
    go_wp2_with (refine wpList_load_midG (by kernel_rfl) 25 (.tmp 64) (by rfl) x 3 (by rfl) (rgL A l.length c) _ (by exact sub_rangeT X.out 3 rfl) Tryz.underlying25 (by rfl) (by kernel_rfl) ?_)
    clear x0 x1 x2 x3 b0 b1
    (with_reducible refine (R1.out).mono ?_)
    rintro ew4' w4' ⟨rfl, qw4'⟩
    replace B := hide (heap_below B.out qw4')
    replace X := hide (heap_below X.out qw4')
    replace Q := hide (below_next Q.out Q.out.size qw4')
    clear qw4'
    clear R1
    obtain ⟨x0, x1, x2, x3⟩ := hx.out _ X.out
    clear x0 x1 x2
    have R1 := hide (containsSt_no l A c w4' (H.out.next Q.out).I (by have := HN.out; omega) H.out.s)
    go_wp2_with fail
    clear x3
    (with_reducible refine (R1.out).mono ?_)
    rintro ew5' w5' ⟨rfl, qw5'⟩
    replace B := hide (heap_below B.out qw5')
    replace X := hide (heap_below X.out qw5')
    replace Q := hide (below_next Q.out Q.out.size qw5')
    clear qw5'
    clear R1
    obtain ⟨b0, b1⟩ := two_cellsT (a := .slice (some ⟨pb, po, none⟩) 1 pc) (b := .slice OA 1 oc) B.out
    clear b1
    have R1 := hide (ptNone_any (.func (.func 26) #[] #[.pointer (some ⟨x, 0, none⟩)]) (some ⟨pb, po, none⟩) pc w5')
    have ht := run_to (P := Tryz.prog) 28 27 Tryz.underlying28 6 (fun W => by kernel_rfl) (some ⟨pb, po, none⟩) 1 pc 0 0 rfl (by omega)
    go_wp2_with fail
    clear b0 ht
    (with_reducible refine (R1.out).mono ?_)
    rintro ew6' w6' ⟨rfl, qw6'⟩
    replace B := hide (heap_below B.out qw6')
    replace X := hide (heap_below X.out qw6')
    replace Q := hide (below_next Q.out Q.out.size qw6')
    clear qw6'
    clear R1
    go_wp2_with fail
    go_roundw
    case rel => exact ⟨1, by omega, by go_num, B, Q⟩
    case measure => simp [intOf]
end Go.Proofs.YthkilodnghiocaaGreatDoor
