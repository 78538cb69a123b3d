/- Rows, blocks and boxes of the call's own, what they are behind stores, appends and calls. Nothing of the program's text. -/
import Derived.Test.YthkilodnghiocaaGreatDoorMgMem
import Derived.Deep.MidRow
import Derived.RangeFuncBox
import Derived.RangeFuncWrites
namespace Go.Proofs.YthkilodnghiocaaGreatDoor
open Go.ChangeShapes Go.WideShapes Go.ChangeAt Go.RowKit

theorem heap_lt {W : World} {x : Nat} {o : Obj} (h : W.heap[x]? = some o) : x < W.heap.size := (Array.getElem?_eq_some_iff.1 h).1
theorem heap_below {W W' : World} {x : Nat} {o : Obj} (h : W.heap[x]? = some o) (hb : Below W.heap.size W W') : W'.heap[x]? = some o := (hb.block x (heap_lt h)).trans h
theorem heap_grown {W W' : World} {x : Nat} {cs : Array Value} {t e : TypeId} {fz : Nat × Nat} (h : W.heap[x]? = some (.cells cs t fz)) (hte : t ≠ e) {base sz : Nat} {A : Option Addr} {c n : Nat} {r : List (List Value)} (ho : Own W base e sz A c r)
    (hg : W.grownBy W' (Value.slice A n c).ownBlock) : W'.heap[x]? = some (.cells cs t fz) := by
  refine (hg.block x (heap_lt h) ?_).trans h
  intro hx
  rcases ho.2 with ⟨hv, _⟩ | ⟨g, cap, cur, hv, _, hgh, _⟩
  · simp only [Value.slice.injEq] at hv
    obtain ⟨rfl, _, _⟩ := hv
    simp [Value.ownBlock] at hx
  · simp only [Value.slice.injEq] at hv
    obtain ⟨rfl, _, _⟩ := hv
    simp only [Value.ownBlock, Option.some.injEq] at hx
    subst hx
    rw [h] at hgh
    injection hgh with hgh
    injection hgh with _ h2 _
    exact hte h2
theorem rd_heap {W : World} {x : Nat} {v : Value} {t : TypeId} {fz : Nat × Nat} (h : W.heap[x]? = some (.cells #[v] t fz)) : Rd W W.heap.size (some ⟨x, 0, none⟩) 1 [[v]] := fun _ =>
  ⟨x, 0, rfl, heap_lt h, fun k row j u a b => by
    have hk : k = 0 := by have := (List.getElem?_eq_some_iff.1 a).1; simp at this; omega
    subst hk
    simp only [List.getElem?_cons_zero, Option.some.injEq] at a
    subst a
    have hj : j = 0 := by have := (List.getElem?_eq_some_iff.1 b).1; simp at this; omega
    subst hj
    simp only [List.getElem?_cons_zero, Option.some.injEq] at b
    subst b
    simp [World.cell?, h]⟩
theorem own_grown {W W' : World} {base e e' sz sz' : Nat} {A A' : Option Addr} {c c' n : Nat} {r r' : List (List Value)} (h : Own W base e sz A c r) (ho : Own W base e' sz' A' c' r') (hte : e ≠ e')
    (hg : W.grownBy W' (Value.slice A' n c').ownBlock) : Own W' base e sz A c r := by
  rcases hA : (Value.slice A r.length c).ownBlock with _ | g
  · exact World.ownsRow.kept h hg (.inl hA)
  · refine World.ownsRow.kept h hg (.inr ?_)
    rw [hA]
    intro hx
    rcases h.2 with ⟨hv, _⟩ | ⟨g1, cap, cur, hv, _, hgh, _⟩
    · rw [hv] at hA; simp [Value.ownBlock] at hA
    · rw [hv] at hA
      simp only [Value.ownBlock, Option.some.injEq] at hA
      subst hA
      have := heap_grown hgh hte ho hg
      rcases ho.2 with ⟨hv', _⟩ | ⟨g2, cap', cur', hv', _, hgh', _⟩
      · simp only [Value.slice.injEq] at hv'
        obtain ⟨rfl, _, _⟩ := hv'
        simp [Value.ownBlock] at hx
      · simp only [Value.slice.injEq] at hv'
        obtain ⟨rfl, _, _⟩ := hv'
        simp only [Value.ownBlock, Option.some.injEq] at hx
        subst hx
        rw [hgh] at hgh'
        injection hgh' with hgh'
        injection hgh' with _ h2 _
        exact hte h2
theorem own_set {W : World} {base e sz : Nat} {A : Option Addr} {c : Nat} {r : List (List Value)} (h : Own W base e sz A c r) {x : Nat} (hx : x < base) (v : Value) : Own (W.setCell ⟨x, 0, none⟩ v) base e sz A c r := by
  refine World.ownsRow.kept h (grownBy_setCell' W x v) ?_
  rcases hA : (Value.slice A r.length c).ownBlock with _ | g
  · exact .inl rfl
  · refine .inr ?_
    have := (World.ownsRow.lt h g hA).1
    intro e
    injection e with e
    omega
/-- One cell of one row is written. -/
theorem flatten_set {α : Type} : ∀ (R : List (List α)) (sz : Nat), (∀ r ∈ R, r.length = sz) → ∀ (k j : Nat) (row : List α) (v : α), R[k]? = some row → j < sz → R.flatten.set (k * sz + j) v = (R.set k (row.set j v)).flatten
  | [], _, _, _, _, _, _, h, _ => by simp at h
  | r :: R, sz, hs, 0, j, row, v, h, hj => by
    simp only [List.getElem?_cons_zero, Option.some.injEq] at h
    subst h
    have hl : r.length = sz := hs r (by simp)
    rw [List.flatten_cons, Nat.zero_mul, Nat.zero_add, List.set_append_left _ _ (by omega)]
    rfl
  | r :: R, sz, hs, k + 1, j, row, v, h, hj => by
    simp only [List.getElem?_cons_succ] at h
    have hl : r.length = sz := hs r (by simp)
    rw [List.flatten_cons, List.set_append_right _ _ (by rw [hl, Nat.add_mul]; omega), hl]
    rw [show (k + 1) * sz + j - sz = k * sz + j by rw [Nat.add_mul]; omega, flatten_set R sz (fun r hr => hs r (by simp [hr])) k j row v h hj]
    rfl
theorem own_at {W : World} {base e sz g c : Nat} {R : List (List Value)} (h : Own W base e sz (some ⟨g, 0, none⟩) c R) (hR : ∀ r ∈ R, r.length = sz) {k j : Nat} {row : List Value} {v : Value} (hk : R[k]? = some row) (hj : row[j]? = some v) : W.cell? ⟨g, k * sz + j, none⟩ = some v := by
  have := World.ownsRow.cells h (g := g) rfl (k * sz + j) v (flatten_get R sz hR k row j v hk hj)
  rw [Go.WideShapes.add_plain, Nat.zero_add] at this
  exact this
theorem bcell {W w1 : World} (hb : Below W.heap.size W w1) : (∀ b o, b < W.heap.size → w1.cell? ⟨b, o, none⟩ = W.cell? ⟨b, o, none⟩) ∧ W.heap.size ≤ w1.heap.size :=
  ⟨fun b o h => hb.cell (p := ⟨b, o, none⟩) h, hb.size⟩

def setL {α : Type} : List α → Nat → List α → List α
  | xs, _, [] => xs
  | xs, o, v :: r => setL (xs.set o v) (o + 1) r

theorem setL_length {α : Type} : ∀ (vs : List α) (xs : List α) (o : Nat), (setL xs o vs).length = xs.length
  | [], _, _ => rfl
  | v :: r, xs, o => by rw [setL, setL_length r]; simp
theorem setL_get {α : Type} : ∀ (vs : List α) (xs : List α) (o i : Nat), o + vs.length ≤ xs.length → (setL xs o vs)[i]? = if o ≤ i ∧ i < o + vs.length then vs[i - o]? else xs[i]?
  | [], xs, o, i, _ => by
    rw [if_neg (by simp only [List.length_nil]; omega)]; rfl
  | v :: r, xs, o, i, h => by
    simp only [List.length_cons] at h
    rw [setL, setL_get r _ (o + 1) i (by simp; omega)]
    by_cases h1 : o = i
    · subst h1
      rw [if_neg (by omega), if_pos (by simp), List.getElem?_set_self (by omega)]
      simp
    · rw [List.getElem?_set_ne h1]
      by_cases h2 : o + 1 ≤ i ∧ i < o + 1 + r.length
      · rw [if_pos h2, if_pos (by simp; omega), show i - o = (i - (o + 1)) + 1 by omega]
        rfl
      · rw [if_neg h2, if_neg (by simp; omega)]
theorem setL_whole {α : Type} (r v : List α) (h : v.length = r.length) : setL r 0 v = v := by
  apply List.ext_getElem?
  intro i
  rw [setL_get v r 0 i (by omega)]
  split
  · simp
  · rw [List.getElem?_eq_none (by omega), List.getElem?_eq_none (by omega)]
theorem flatten_setL {α : Type} {sz k : Nat} : ∀ (vs : List α) (R : List (List α)) (r : List α) (j : Nat), (∀ r ∈ R, r.length = sz) → R[k]? = some r → j + vs.length ≤ sz → setL R.flatten (k * sz + j) vs = (R.set k (setL r j vs)).flatten
  | [], R, r, j, _, hk, _ => by
    obtain ⟨h, rfl⟩ := List.getElem?_eq_some_iff.1 hk
    simp [setL]
  | v :: vs, R, r, j, hs, hk, hj => by
    simp only [List.length_cons] at hj
    have hl : r.length = sz := hs r (List.mem_of_getElem? hk)
    have hkl := (List.getElem?_eq_some_iff.1 hk).1
    rw [setL, flatten_set R sz hs k j r v hk (by omega)]
    have ih := flatten_setL (k := k) vs (R.set k (r.set j v)) (r.set j v) (j + 1) (fun r' hr' => by
      rcases List.mem_or_eq_of_mem_set hr' with h | h
      · exact hs r' h
      · rw [h]; simpa using hl) (List.getElem?_set_self hkl) (by omega)
    rw [Nat.add_assoc, ih, List.set_set]
    rfl

theorem grownBy_trans {w1 w2 w3 : World} {row : Option Nat} (h : w1.grownBy w2 row) (h2 : w2.grownBy w3 row) : w1.grownBy w3 row :=
  ⟨h2.os.trans h.os, h2.tape.trans h.tape, h2.output.trans h.output, Nat.le_trans h.size h2.size, fun k hk hr => (h2.block k (Nat.lt_of_lt_of_le hk h.size) hr).trans (h.block k hk hr)⟩

theorem ownsRow_setCells {base : Nat} {e : TypeId} {sz g n c : Nat} : ∀ (vs : List Value) (o : Nat) (W : World) (xs : List Value), W.ownsRow base e sz (.slice (some ⟨g, 0, none⟩) n c) n xs →
    (W.setCells g o vs).ownsRow base e sz (.slice (some ⟨g, 0, none⟩) n c) n (setL xs o vs) ∧ W.grownBy (W.setCells g o vs) (some g)
  | [], _, _, _, h => ⟨h, grownBy_refl _ _⟩
  | v :: r, o, W, xs, h => by
    obtain ⟨h1, h2⟩ := World.ownsRow.stored h o v
    obtain ⟨h3, h4⟩ := ownsRow_setCells r (o + 1) _ _ h1
    exact ⟨h3, grownBy_trans h2 h4⟩

theorem setCells_size {g : Nat} : ∀ (vs : List Value) (o : Nat) (W : World), (W.setCells g o vs).heap.size = W.heap.size
  | [], _, _ => rfl
  | v :: r, o, W => by rw [World.setCells, setCells_size r]; simp [World.setCell]

theorem Own.setRow {W : World} {base e sz g c k : Nat} {R : List (List Value)} {row : List Value} (h : Own W base e sz (some ⟨g, 0, none⟩) c R) (hs : ∀ r ∈ R, r.length = sz) (hk : k < R.length) (hr : row.length = sz) :
    Own (W.setCells g (k * sz) row) base e sz (some ⟨g, 0, none⟩) c (R.set k row) ∧ W.grownBy (W.setCells g (k * sz) row) (some g) := by
  obtain ⟨h1, h2⟩ := ownsRow_setCells row (k * sz) W _ h
  refine ⟨?_, h2⟩
  have hk' : R[k]? = some R[k] := List.getElem?_eq_getElem hk
  have hl : R[k].length = sz := hs _ (List.getElem_mem hk)
  have := flatten_setL (k := k) row R R[k] 0 hs hk' (by omega)
  rw [Nat.add_zero, setL_whole _ _ (by omega)] at this
  rw [this] at h1
  unfold Own
  rw [List.length_set]
  exact h1

theorem Own.there {W : World} {base e sz g c k : Nat} {R : List (List Value)} (h : Own W base e sz (some ⟨g, 0, none⟩) c R) (hs : ∀ r ∈ R, r.length = sz) (hk : k < R.length) : W.there g (k * sz) sz := by
  intro j hj
  have hl : R[k].length = sz := hs _ (List.getElem_mem hk)
  have h1 := own_at h hs (List.getElem?_eq_getElem hk) (j := j) (v := R[k][j]) (List.getElem?_eq_getElem (by omega))
  refine ⟨by rw [h1]; rfl, ?_⟩
  have := World.ownsRow.frozenAt h (k * sz + j)
  exact this
theorem Own.range {W : World} {base e sz g c k : Nat} {R : List (List Value)} (h : Own W base e sz (some ⟨g, 0, none⟩) c R) (hs : ∀ r ∈ R, r.length = sz) (hk : k < R.length) : W.rangeAt g (k * sz) R[k] := fun _ _ hv =>
  own_at h hs (List.getElem?_eq_getElem hk) hv
theorem Own.ofLen {W : World} {base e sz c : Nat} {A : Option Addr} {R : List (List Value)} (h : Own W base e sz A c R) (hn : 0 < R.length) : ∃ g, A = some ⟨g, 0, none⟩ ∧ base ≤ g ∧ g < W.heap.size := by
  rcases h.2 with ⟨hv, h0⟩ | ⟨g, cap, cur, hv, hb, hg, _⟩
  · omega
  · simp only [Value.slice.injEq] at hv
    exact ⟨g, hv.1, hb, (Array.getElem?_eq_some_iff.1 hg).1⟩
theorem wp_store_as {P : Program} {op : Oper} {a : Act} {w : World} {K : Act → World → Prop} {Q : Exit → Act → World → Prop} (ty : TypeId) (x y : Operand) (ho : op.op = .store ty x y)
    (b o : Nat) (cs : List Value) (hx : a.eval x = .pointer (some ⟨b, o, none⟩)) (hy : a.eval y = .agg cs.toArray)
    (ht : w.there b o cs.length) (hi : (P.info? ty).map (·.size) = some cs.length) (h1 : ∀ v ∈ cs, v.oneCell' = true)
    (h : ∀ W', W' = w.setCells b o cs → K (a.put op.dst undef) W') : op.wp P a w K Q :=
  wp_store_mid ty x y ho b o cs.toArray hx hy (by simpa using ht) (by simpa using hi) (all_oneCell_toArray h1) (by simpa using h _ rfl)
theorem wpList_store_as {P : Program} {ops : Array Oper} {rest : List Oper} {op : Oper} {a : Act} {w : World} {Q : Exit → Act → World → Prop} (hgd : op.guard = none) (ty : TypeId) (x y : Operand) (ho : op.op = .store ty x y)
    (b o : Nat) (cs : List Value) (hx : a.eval x = .pointer (some ⟨b, o, none⟩)) (hy : a.eval y = .agg cs.toArray)
    (ht : w.there b o cs.length) (hi : (P.info? ty).map (·.size) = some cs.length) (h1 : ∀ v ∈ cs, v.oneCell' = true)
    (h : ∀ W', W' = w.setCells b o cs → wpList P ops Q rest (a.put op.dst undef) W') : wpList P ops Q (op :: rest) a w :=
  wpList_plain hgd fun _ hK => wp_store_as ty x y ho b o cs hx hy ht hi h1 fun W' e => hK _ _ (h W' e)
theorem wpOp_do {P : Program} {ops : Array Oper} {Q : Exit → Act → World → Prop} {i : Nat} {o : Oper} {K : Act → World → Prop} {a : Act} {w : World} (hi : ops[i]? = some o) (hg : o.guard = none) (h : Oper.wp P o a w K Q) : wpOp P ops Q i K a w := by
  refine wpOp_at hi ?_
  rw [if_pos (by simp [Region.wanted, hg])]
  exact h
theorem setL_take {α : Type} : ∀ (vs xs : List α) (o : Nat), (setL xs o vs).take o = xs.take o
  | [], _, _ => rfl
  | v :: r, xs, o => by
    rw [setL]
    have := congrArg (List.take o) (setL_take r (xs.set o v) (o + 1))
    rw [List.take_take, List.take_take, Nat.min_eq_left (Nat.le_succ _)] at this
    rw [this, List.take_set_of_le (Nat.le_refl _)]

/-- The first rows of a row. -/
theorem own_first {W : World} {base : Nat} {e : TypeId} {sz : Nat} {A : Option Addr} {n c : Nat} {ys : List Value} (h : W.ownsRow base e sz (.slice A n c) n ys) {R : List (List Value)} (hs : ∀ r ∈ R, r.length = sz) (hn : R.length ≤ n) (he : ys.take (R.length * sz) = R.flatten) :
    Own W base e sz A c R := by
  have hl : ∀ R : List (List Value), (∀ r ∈ R, r.length = sz) → R.flatten.length = R.length * sz := fun R hs => by
    clear he hn
    induction R with
    | nil => simp
    | cons c cs ih => rw [List.flatten_cons, List.length_append, List.length_cons, ih (fun r hr => hs r (by simp [hr])), hs c (by simp), Nat.add_mul]; omega
  obtain ⟨h1, h2⟩ := h
  refine ⟨hl R hs, ?_⟩
  rcases h2 with ⟨hv, h0⟩ | ⟨g, cap, cur, hv, hb, hg, hnc, hcm, hcs, ht⟩
  · left
    simp only [Value.slice.injEq] at hv
    obtain ⟨rfl, _, rfl⟩ := hv
    exact ⟨by rw [show R.length = 0 by omega], by omega⟩
  · right
    simp only [Value.slice.injEq] at hv
    obtain ⟨rfl, _, rfl⟩ := hv
    refine ⟨g, c, cur, rfl, hb, hg, by omega, hcm, hcs, ?_⟩
    rw [← he, ← ht, List.take_take, Nat.min_eq_left (Nat.mul_le_mul_right _ hn)]

/-- 'clear(s[i:])', s the call's own: the first i rows stand. -/
theorem run_clear_rows {P : Program} (w : World) (t e : TypeId) {z : Value} {sz n : Nat} {R : List (List Value)} (ht : P.underlying t = some (.slice e)) (hv : ∀ w, (zeroValue e).run P w = .ok z w) (hz : z.cells.size = sz) (h1 : ∀ v ∈ z.cells.toList, v.oneCell' = true)
    (base g c : Nat) (h : Own w base e sz (some ⟨g, 0, none⟩) c R) (hs : ∀ r ∈ R, r.length = sz) (hn : n = R.length) (i : Nat) (hi : i < R.length) (c' : Nat) :
    ∃ W', (∀ ty, (Builtin.clear_ #[t] ty #[.slice (some ⟨g, i * sz, none⟩) (n - i) c']).run P w = .ok (.tuple #[]) W') ∧ Own W' base e sz (some ⟨g, 0, none⟩) c (R.take i) ∧ w.grownBy W' (some g) := by
  subst hn
  obtain ⟨zs, hzs⟩ : ∃ zs, zs = (Builtin.zeroCells z.cells (R.length - i)).toList := ⟨_, rfl⟩
  have hzl : zs.length = (R.length - i) * sz := by rw [hzs]; simp [Builtin.zeroCells, hz]
  have hzo : ∀ v ∈ zs, v.oneCell' = true := by
    intro v hv
    rw [hzs, Builtin.zeroCells] at hv
    simp only [Array.toList_map, List.mem_map, Array.mem_toList_iff, Array.mem_range] at hv
    obtain ⟨k, hk, rfl⟩ := hv
    have h0 : 0 < z.cells.size := by
      rcases Nat.eq_zero_or_pos z.cells.size with h | h
      · rw [h, Nat.mul_zero] at hk; omega
      · exact h
    have hlt := Nat.mod_lt k h0
    rw [getElem!_pos z.cells _ hlt]
    exact h1 _ (Array.mem_toList_iff.2 (Array.getElem_mem hlt))
  have hst := run_storeCells_cells (P := P) g (i * sz) zs 0 w (fun j hj => by
      have hl : R.flatten.length = R.length * sz := h.1
      have hj2 : i * sz + (0 + j) < R.flatten.length := by
        rw [hl]
        rw [hzl, Nat.sub_mul] at hj
        have := Nat.mul_le_mul_right sz (Nat.le_of_lt hi)
        omega
      have h2 := World.ownsRow.cells h (g := g) rfl _ _ (List.getElem?_eq_getElem hj2)
      rw [Go.WideShapes.add_plain, Nat.zero_add] at h2
      have e : i * sz + (0 + j) = i * sz + 0 + j := by omega
      first | (rw [h2]; rfl) | (rw [← e, h2]; rfl) | (simp only [Nat.zero_add] at h2 ⊢; rw [h2]; rfl)) (fun j _ => World.ownsRow.frozenAt h _) hzo
  simp only [Nat.add_zero] at hst
  obtain ⟨m, hm⟩ : ∃ m, R.length - i = m + 1 := ⟨R.length - i - 1, by omega⟩
  obtain ⟨s1, s2⟩ := ownsRow_setCells zs (i * sz) w _ h
  refine ⟨_, ?_, own_first s1 (R := R.take i) (fun r hr => hs r (List.mem_of_mem_take hr)) (by simp; omega) ?_, s2⟩
  · intro ty
    rw [hzs, hm] at hst
    rw [hm]
    simp [Builtin.clear_, run_underlying ht, hv, hst]
    rw [hzs, hm]
  · have hli : (R.take i).length = i := by rw [List.length_take]; omega
    rw [hli, setL_take]
    clear hst hzs hzl hzo s1 s2 h
    induction R generalizing i with
    | nil => simp at hi
    | cons r R ih =>
      cases i with
      | zero => simp
      | succ i =>
        have hl : r.length = sz := hs r (by simp)
        rw [List.flatten_cons, List.take_succ_cons, List.flatten_cons, Nat.add_mul, Nat.one_mul, Nat.add_comm, List.take_append, hl, List.take_of_length_le (by omega), Nat.add_sub_cancel_left]
        rw [ih (fun r hr => hs r (by simp [hr])) i (by simpa using hi) (by simp at hm ⊢; omega) (by simp at hi ⊢; omega)]
theorem rd_setCell {w : World} {B : Nat} {A : Option Addr} {sz : Nat} {R : List (List Value)} (h : Rd w B A sz R) {x j : Nat} (hx : ∀ g off, A = some ⟨g, off, none⟩ → g ≠ x) (v : Value) : Rd (w.setCell ⟨x, j, none⟩ v) B A sz R := fun hn => by
  obtain ⟨b, off, e, hlt, hc⟩ := h hn
  refine ⟨b, off, e, hlt, fun k row i u a c => ?_⟩
  rw [World.cell?_setCell_other _ _ _ _ (fun he => hx b off e (by injection he with h1; exact h1.symm))]
  exact hc k row i u a c
theorem Own.mono {W : World} {base base' : Nat} {e : TypeId} {sz : Nat} {A : Option Addr} {c : Nat} {R : List (List Value)} (h : Own W base e sz A c R) (hb : base' ≤ base) : Own W base' e sz A c R := by
  refine ⟨h.1, ?_⟩
  rcases h.2 with h | ⟨g, cap, cur, hv, hg, hrest⟩
  · exact .inl h
  · exact .inr ⟨g, cap, cur, hv, by omega, hrest⟩
theorem own_setj {W : World} {base : Nat} {e : TypeId} {sz : Nat} {A : Option Addr} {c : Nat} {R : List (List Value)} (h : Own W base e sz A c R) {x : Nat} (hx : x < base) (j : Nat) (v : Value) : Own (W.setCell ⟨x, j, none⟩ v) base e sz A c R := by
  have hg : W.grownBy (W.setCell ⟨x, j, none⟩ v) (some x) := ⟨rfl, rfl, rfl, by simp [World.setCell], fun k _ hk => heap_setCell_other W ⟨x, j, none⟩ k v (fun e => hk (by simp [e]))⟩
  refine World.ownsRow.kept h hg ?_
  rcases hA : (Value.slice A R.length c).ownBlock with _ | g
  · exact .inl rfl
  · refine .inr ?_
    have := (World.ownsRow.lt h g hA).1
    intro e
    injection e with e
    omega
theorem own_setCells {base : Nat} {e : TypeId} {sz : Nat} {A : Option Addr} {c : Nat} {R : List (List Value)} {x : Nat} (hx : x < base) : ∀ (vs : List Value) (o : Nat) (W : World), Own W base e sz A c R → Own (W.setCells x o vs) base e sz A c R
  | [], _, _, h => h
  | v :: r, o, _, h => own_setCells hx r (o + 1) _ (own_setj h hx o v)
theorem own_blk {W : World} {base : Nat} {e : TypeId} {sz : Nat} {A : Option Addr} {c : Nat} {R : List (List Value)} (h : Own W base e sz A c R) : ∀ g off, A = some ⟨g, off, none⟩ → base ≤ g := fun g off he => by
  rcases h.2 with ⟨hv, _⟩ | ⟨g', cap, cur, hv, hb, _⟩
  · simp only [Value.slice.injEq] at hv; rw [hv.1] at he; cases he
  · simp only [Value.slice.injEq] at hv; rw [hv.1] at he; cases he; exact hb
theorem range_nil {w : World} {b o : Nat} : w.rangeAt b o [] := fun _ _ h => by simp at h
theorem range_cons {w : World} {b o : Nat} {v : Value} {cs : List Value} (h : w.cell? ⟨b, o, none⟩ = some v) (h2 : w.rangeAt b (o + 1) cs) : w.rangeAt b o (v :: cs) := fun j u hu => by
  cases j with
  | zero => simp at hu; subst hu; exact h
  | succ j => have := h2 j u (by simpa using hu); rwa [Nat.add_assoc, Nat.add_comm 1 j] at this
theorem there_of {w : World} {b o : Nat} {cs : List Value} (h : w.rangeAt b o cs) (hf : ∀ j, w.frozen? ⟨b, o + j, none⟩ = false) : w.there b o cs.length := fun j hj => ⟨by rw [h j cs[j] (List.getElem?_eq_getElem hj)]; rfl, hf j⟩
theorem exec_load {P : Program} (W : World) (g o : Nat) (ty : TypeId) (cs : List Value) (d : TypeDesc) (h : W.rangeAt g o cs) (hu : P.underlying ty = some d) (hd : d.isRow = true) (hi : (P.info? ty).map (·.size) = some cs.length)
    (ev : Operand → Value) (op : Oper) (p : Operand) (ho : op.op = .load ty p) (hp : ev p = .pointer (some ⟨g, o, none⟩)) : (execOp ev op).run P W = .ok (.value (.agg cs.toArray)) W := by
  have := run_loadAt_mid W g o ty cs d h hu hd hi
  unfold execOp
  simp only [ho, hp, Sem.run_bind, this, Result.andThen_ok, Sem.run_pure]
theorem setCells_far {w : World} {b o : Nat} {vs : List Value} {g j : Nat} (h : g ≠ b) : (w.setCells b o vs).cell? ⟨g, j, none⟩ = w.cell? ⟨g, j, none⟩ := World.cell?_setCells_out b vs o w _ fun e _ => absurd e h
theorem rd_far {w w' : World} {A : Option Addr} {sz B : Nat} {R : List (List Value)} (h : Rd w w.heap.size A sz R) (hb : ∀ g off, A = some ⟨g, off, none⟩ → B ≤ g) (hs : w.heap.size ≤ w'.heap.size) (hc : ∀ g j, B ≤ g → g < w.heap.size → w'.cell? ⟨g, j, none⟩ = w.cell? ⟨g, j, none⟩) : Rd w' w'.heap.size A sz R := fun hn => by
  obtain ⟨b, off, e, hlt, h⟩ := h hn
  exact ⟨b, off, e, by omega, fun k row j v a c => (hc b _ (hb b off e) hlt).trans (h k row j v a c)⟩
theorem below_setCells {B g : Nat} : ∀ (vs : List Value) (o : Nat) (w : World), B ≤ g → Below B w (w.setCells g o vs)
  | [], _, _, _ => Below.refl _ _
  | v :: r, o, _, h => ((Below.refl _ _).setCell (p := ⟨g, o, none⟩) h v).trans (below_setCells r (o + 1) _ h)
/-- A box of another kind is written: the row stands. -/
theorem own_setT {W : World} {base : Nat} {e t : TypeId} {sz : Nat} {A : Option Addr} {c : Nat} {r : List (List Value)} (h : Own W base e sz A c r) {x : Nat} {cs : Array Value} {fz : Nat × Nat} (hx : W.heap[x]? = some (.cells cs t fz)) (hte : t ≠ e) (v : Value) :
    Own (W.setCell ⟨x, 0, none⟩ v) base e sz A c r := by
  refine World.ownsRow.kept h (grownBy_setCell' W x v) ?_
  rcases hA : (Value.slice A r.length c).ownBlock with _ | g
  · exact .inl rfl
  · refine .inr ?_
    intro e'
    injection e' with e'
    subst e'
    rcases h.2 with ⟨hv, _⟩ | ⟨g1, cap, cur, hv, _, hgh, _⟩
    · rw [hv] at hA; simp [Value.ownBlock] at hA
    · rw [hv] at hA
      simp only [Value.ownBlock, Option.some.injEq] at hA
      subst hA
      rw [hx] at hgh
      injection hgh with hgh
      injection hgh with _ h2 _
      exact hte h2
theorem three_cells {W : World} {B : Nat} {a b c : Value} {t : TypeId} {fz : Nat × Nat} (h : W.heap[B]? = some (.cells #[a, b, c] t fz)) : W.cell? ⟨B, 0, none⟩ = some a ∧ W.cell? ⟨B, 1, none⟩ = some b ∧ W.cell? ⟨B, 2, none⟩ = some c := by
  simp [World.cell?, h]
theorem set3 {W : World} {B : Nat} {a b c : Value} {t : TypeId} (h : W.heap[B]? = some (.cells #[a, b, c] t (0, 0))) (x y z : Value) : (W.setCells B 0 [x, y, z]).heap[B]? = some (.cells #[x, y, z] t (0, 0)) := by
  have h1 := heap_setCell_same W B 0 _ t x h
  have h2 := heap_setCell_same _ B 1 _ t y h1
  have h3 := heap_setCell_same _ B 2 _ t z h2
  simpa [World.setCells] using h3
/-- A row of another kind grows: this one stands. -/
theorem own_apartT {W W' : World} {base base' n : Nat} {e e' : TypeId} {sz sz' : Nat} {A A' : Option Addr} {c c' : Nat} {r r' : List (List Value)} (h : Own W base e sz A c r) (ho : Own W base' e' sz' A' c' r') (hte : e ≠ e') (hg : W.grownBy W' (Value.slice A' n c').ownBlock) : Own W' base e sz A c r := by
  have := own_grown (base := min base base') (h.mono (Nat.min_le_left _ _)) (ho.mono (Nat.min_le_right _ _)) hte hg
  refine ⟨this.1, ?_⟩
  rcases h.2 with h2 | ⟨g, cap, cur, hv, hb, _⟩
  · exact .inl h2
  · rcases this.2 with h3 | ⟨g', cap', cur', hv', hb', hrest⟩
    · exact .inl h3
    · have e1 := hv.symm.trans hv'
      simp only [Value.slice.injEq, Option.some.injEq, Addr.mk.injEq, and_true] at e1
      exact .inr ⟨g', cap', cur', hv', by omega, hrest⟩
end Go.Proofs.YthkilodnghiocaaGreatDoor
