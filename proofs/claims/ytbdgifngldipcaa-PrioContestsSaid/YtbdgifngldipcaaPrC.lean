/- prio.Contest. -/
import Derived.Test.YtbdgifngldipcaaOwS
import Derived.Test.YtbdgifngldipcaaPrB
import Derived.Test.YtbdgifngldipcaaOrd
namespace Go.Proofs.Ytbdgifngldipcaa
open Go.ChangeShapes Go.WideShapes Go.ChangeAt Go.RowKit
open FP (bit bitsOf Fr bitB)
attribute [local go_sem] Oper.semAt_some

def fstr (f : Fr) : ByteArray := ⟨(fieldF f).toArray⟩
def strRows (l : List Fr) : List (List Value) := l.map fun f => [.string (fstr f)]
def oneRows (n : Nat) : List (List Value) := List.replicate n [.int .i64 (-1)]

theorem slStr : SlT Try.prog 87 9 1 16 := SlT.mk Try.underlying87 (z := .string ⟨#[]⟩) (by kernel_rfl) rfl (by decide)
theorem slInt : SlT Try.prog 52 3 1 8 := SlT.mk Try.underlying52 (z := .int .i64 0) (by kernel_rfl) rfl (by decide)

/-- Two rows of the call's own grow side by side, in boxes at B and B + 1. -/
structure Mid (B : Nat) (w : World) (v1 v2 : Value) (A1 : Option Addr) (c1 : Nat) (r1 : List (List Value)) (A2 : Option Addr) (c2 : Nat) (r2 : List (List Value)) (W : World) : Prop where
  b1 : W.heap[B]? = some (.cells #[v1] 87 (0, 0))
  b2 : W.heap[B + 1]? = some (.cells #[v2] 52 (0, 0))
  o1 : Own W (B + 2) 9 1 A1 c1 r1
  o2 : Own W (B + 2) 3 1 A2 c2 r2
  q : Below B w W

section
variable {B : Nat} {w : World} {v1 v2 : Value} {A1 A2 A' : Option Addr} {c1 c2 c' n : Nat} {r1 r2 r' : List (List Value)} {W W' : World}
theorem Mid.below (h : Mid B w v1 v2 A1 c1 r1 A2 c2 r2 W) (hb : Below W.heap.size W W') : Mid B w v1 v2 A1 c1 r1 A2 c2 r2 W' :=
  ⟨heap_below h.b1 hb, heap_below h.b2 hb, h.o1.grown hb, h.o2.grown hb, below_next h.q (by have := heap_lt h.b1; omega) hb⟩
theorem Mid.alloc (h : Mid B w v1 v2 A1 c1 r1 A2 c2 r2 W) (o : Obj) : Mid B w v1 v2 A1 c1 r1 A2 c2 r2 (W.alloc o) := h.below ((Below.refl _ _).alloc (Nat.le_refl _) _)
theorem Mid.drew (h : Mid B w v1 v2 A1 c1 r1 A2 c2 r2 W) : Mid B w v1 v2 A1 c1 r1 A2 c2 r2 W.drew := h.below (Below.refl _ _).drew
theorem Mid.app1 (h : Mid B w v1 v2 A1 c1 r1 A2 c2 r2 W) (hg : W.grownBy W' (Value.slice A1 n c1).ownBlock) (ho : Own W' (B + 2) 9 1 A' c' r') : Mid B w v1 v2 A' c' r' A2 c2 r2 W' :=
  ⟨heap_grown h.b1 (by decide) h.o1 hg, heap_grown h.b2 (by decide) h.o1 hg, ho, own_grown h.o2 h.o1 (by decide) hg, below_append h.q hg h.o1 (by omega) (by have := heap_lt h.b1; omega)⟩
theorem Mid.app2 (h : Mid B w v1 v2 A1 c1 r1 A2 c2 r2 W) (hg : W.grownBy W' (Value.slice A2 n c2).ownBlock) (ho : Own W' (B + 2) 3 1 A' c' r') : Mid B w v1 v2 A1 c1 r1 A' c' r' W' :=
  ⟨heap_grown h.b1 (by decide) h.o2 hg, heap_grown h.b2 (by decide) h.o2 hg, own_grown h.o1 h.o2 (by decide) hg, ho, below_append h.q hg h.o2 (by omega) (by have := heap_lt h.b1; omega)⟩
theorem Mid.cell1 (h : Mid B w v1 v2 A1 c1 r1 A2 c2 r2 W) : W.cell? ⟨B, 0, none⟩ = some v1 := Boxed.cell (t := 87) h.b1
theorem Mid.cell2 (h : Mid B w v1 v2 A1 c1 r1 A2 c2 r2 W) : W.cell? ⟨B + 1, 0, none⟩ = some v2 := Boxed.cell (t := 52) h.b2
theorem Mid.fz1 (h : Mid B w v1 v2 A1 c1 r1 A2 c2 r2 W) : W.frozen? ⟨B, 0, none⟩ = false := Boxed.frozen (t := 87) h.b1
theorem Mid.fz2 (h : Mid B w v1 v2 A1 c1 r1 A2 c2 r2 W) : W.frozen? ⟨B + 1, 0, none⟩ = false := Boxed.frozen (t := 52) h.b2
theorem Mid.size (h : Mid B w v1 v2 A1 c1 r1 A2 c2 r2 W) : B + 2 ≤ W.heap.size := heap_lt h.b2
theorem Mid.set1 (h : Mid B w v1 v2 A1 c1 r1 A2 c2 r2 W) (v : Value) : Mid B w v v2 A1 c1 r1 A2 c2 r2 (W.setCell ⟨B, 0, none⟩ v) :=
  ⟨Boxed.set v h.b1, Boxed.other (t := 52) h.b2 (by omega) v, own_set h.o1 (by omega) v, own_set h.o2 (by omega) v, h.q.setCell (p := ⟨B, 0, none⟩) (Nat.le_refl _) _⟩
theorem Mid.set2 (h : Mid B w v1 v2 A1 c1 r1 A2 c2 r2 W) (v : Value) : Mid B w v1 v A1 c1 r1 A2 c2 r2 (W.setCell ⟨B + 1, 0, none⟩ v) :=
  ⟨Boxed.other (t := 87) h.b1 (by omega) v, Boxed.set v h.b2, own_set h.o1 (by omega) v, own_set h.o2 (by omega) v, h.q.setCell (p := ⟨B + 1, 0, none⟩) (by simp) _⟩
end

theorem strRows_snoc {l : List Fr} {k : Nat} (h : k < l.length) : strRows (l.take (k + 1)) = strRows (l.take k) ++ [[.string (fstr l[k])]] := by
  unfold strRows
  rw [List.take_succ_eq_append_getElem h, List.map_append]
  rfl
theorem oneRows_snoc (k : Nat) : oneRows (k + 1) = oneRows k ++ [[.int .i64 (-1)]] := by simp [oneRows, List.replicate_succ']

def readyC (B x : Nat) (v1 v2 : Value) (fo : Obj) : Nat → World → Prop
  | 0, W => W.cell? ⟨B, 0, none⟩ = some v1
  | 1, W => W.heap[x]? = some fo
  | _, W => W.cell? ⟨B + 1, 0, none⟩ = some v2

theorem keepsC {md : Region.Mode} {ops : Array Oper} {B x j : Nat} {w w2 W : World} {v1 v2 : Value} {fo : Obj} {A1 A2 : Option Addr} {c1 c2 : Nat} {r1 r2 : List (List Value)} (h : Mid B w v1 v2 A1 c1 r1 A2 c2 r2 W) (hf : W.heap[x]? = some fo) (hj : j ∉ [0, 1, 5]) :
    keeps md ops [0, 1, 5] (readyC B x v1 v2 fo) j w2 W := keeps_all hj fun i hi => by
  simp only [List.mem_cons, List.not_mem_nil, or_false] at hi
  rcases hi with rfl | rfl | rfl
  · exact h.cell1
  · exact hf
  · exact h.cell2

theorem keepsC8 {md : Region.Mode} {ops : Array Oper} {B x : Nat} {w w2 W : World} {v1 v2 v1' : Value} {fo : Obj} {A1 A2 : Option Addr} {c1 c2 : Nat} {r1 r2 : List (List Value)} (h : Mid B w v1' v2 A1 c1 r1 A2 c2 r2 W) (h0 : mayAhead md ops 0 8 = false) (h1 : mayAhead md ops 1 8 = false) :
    keeps md ops [0, 1, 5] (readyC B x v1 v2 fo) 8 w2 W := ⟨fun h => absurd h (by decide), fun _ i hi hm => by
  simp only [List.mem_cons, List.not_mem_nil, or_false] at hi
  rcases hi with rfl | rfl | rfl
  · rw [h0] at hm; cases hm
  · rw [h1] at hm; cases hm
  · exact h.cell2⟩

theorem keepsC9 {md : Region.Mode} {ops : Array Oper} {w w' : World} {R : Nat → World → Prop} (h0 : mayAhead md ops 0 9 = false) (h1 : mayAhead md ops 1 9 = false) (h5 : mayAhead md ops 5 9 = false) :
    keeps md ops [0, 1, 5] R 9 w w' := ⟨fun h => absurd h (by decide), fun _ i hi hm => by
  simp only [List.mem_cons, List.not_mem_nil, or_false] at hi
  rcases hi with rfl | rfl | rfl
  · rw [h0] at hm; cases hm
  · rw [h1] at hm; cases hm
  · rw [h5] at hm; cases hm⟩

/-- What lies when k frames have been gone through. -/
def Gath (w : World) (l : List Fr) (k : Nat) (W : World) : Prop :=
  ∃ A1 c1 A2 c2, Mid w.heap.size w (.slice A1 k c1) (.slice A2 k c2) A1 c1 (strRows (l.take k)) A2 c2 (oneRows k) W

theorem own_put {W : World} {base e sz : Nat} {A : Option Addr} {c : Nat} {r : List (List Value)} (h : Own W base e sz A c r) {l : Nat} {o o' : Obj} (ho : W.heap[l]? = some o) (hc : o.isCells = false) : Own (W.putObj l o') base e sz A c r := by
  refine World.ownsRow.kept h (grownBy_putObj' W l o') ?_
  rcases h.2 with ⟨hv, _⟩ | ⟨g, cap, cur, hv, _, hgh, _⟩
  · rw [hv]; exact .inl rfl
  · rw [hv]
    refine .inr ?_
    simp only [Value.ownBlock, ne_eq, Option.some.injEq]
    rintro rfl
    rw [ho] at hgh
    injection hgh with hgh
    subst hgh
    cases hc
theorem heap_put {W : World} {x l : Nat} {o o' : Obj} {cs : Array Value} {t : TypeId} {fz : Nat × Nat} (h : W.heap[x]? = some (.cells cs t fz)) (ho : W.heap[l]? = some o) (hc : o.isCells = false) : (W.putObj l o').heap[x]? = some (.cells cs t fz) := by
  have : x ≠ l := by
    rintro rfl
    rw [ho] at h
    injection h with h
    subst h
    cases hc
  rw [World.putObj_heap_other this]
  exact h
theorem heap_set {W : World} {x g i : Nat} {v : Value} (h : x ≠ g) : (W.setCell ⟨g, i, none⟩ v).heap[x]? = W.heap[x]? := heap_setCell_other W ⟨g, i, none⟩ x v h

section
variable {B : Nat} {w : World} {v1 v2 : Value} {A1 A2 : Option Addr} {c1 c2 : Nat} {r1 r2 r' : List (List Value)} {W : World}
theorem Mid.putObj (h : Mid B w v1 v2 A1 c1 r1 A2 c2 r2 W) {l : Nat} {o o' : Obj} (hl : B ≤ l) (ho : W.heap[l]? = some o) (hc : o.isCells = false) : Mid B w v1 v2 A1 c1 r1 A2 c2 r2 (W.putObj l o') :=
  ⟨heap_put h.b1 ho hc, heap_put h.b2 ho hc, own_put h.o1 ho hc, own_put h.o2 ho hc, h.q.grown (grownBy_putObj' W l o') (by have := h.size; omega) (fun k e => by cases e; exact hl)⟩

/-- A cell of the second row is written. -/
theorem Mid.store {g i : Nat} (h : Mid B w v1 v2 A1 c1 r1 (some ⟨g, 0, none⟩) c2 r2 W) (v : Value) (hl : r'.length = r2.length) (hf : r'.flatten = r2.flatten.set i v) :
    Mid B w v1 v2 A1 c1 r1 (some ⟨g, 0, none⟩) c2 r' (W.setCell ⟨g, i, none⟩ v) ∧ W.grownBy (W.setCell ⟨g, i, none⟩ v) (some g) := by
  obtain ⟨s1, s2⟩ := World.ownsRow.stored h.o2 i v
  have ho : Own (W.setCell ⟨g, i, none⟩ v) (B + 2) 3 1 (some ⟨g, 0, none⟩) c2 r' := by unfold Own; rw [hf, hl]; exact s1
  exact ⟨Mid.app2 (n := 0) h s2 ho, s2⟩
end

/-! ### the row of fields, and of where they lose -/
def SF (l : List Fr) (j : Nat) : ByteArray := if h : j < l.length then fstr l[j] else ⟨#[]⟩
theorem SF_lt {l : List Fr} {j : Nat} (h : j < l.length) : SF l j = fstr l[j] := dif_pos h
def intRows (n : Nat) (x : Nat → Int) : List (List Value) := (List.range n).map fun j => [.int .i64 (x j)]
theorem intRows_len (n : Nat) (x : Nat → Int) : (intRows n x).length = n := by simp [intRows]
theorem intRows_one (n : Nat) : oneRows n = intRows n (fun _ => -1) := by
  apply List.ext_getElem
  · simp [oneRows, intRows]
  · intro i h1 h2; simp [oneRows, intRows]
theorem flat_ones {α : Type} (l : List α) (f : α → Value) : (l.map fun x => [f x]).flatten = l.map f := by
  induction l with
  | nil => rfl
  | cons x l ih => simp [ih]
theorem intRows_flat (n : Nat) (x : Nat → Int) : (intRows n x).flatten = (List.range n).map fun j => .int .i64 (x j) := flat_ones _ _
theorem intRows_set (n : Nat) (x y : Nat → Int) (i : Nat) (v : Int) (hi : y i = v) (ho : ∀ j, j ≠ i → y j = x j) : (intRows n y).flatten = (intRows n x).flatten.set i (.int .i64 v) := by
  rw [intRows_flat, intRows_flat]
  apply List.ext_getElem
  · simp
  · intro j h1 h2
    simp only [List.getElem_map, List.getElem_range, List.getElem_set]
    split
    · rename_i h; subst h; rw [hi]
    · rename_i h; rw [ho j (fun e => h e.symm)]
theorem intRows_congr {n : Nat} {x y : Nat → Int} (h : ∀ j, j < n → x j = y j) : intRows n x = intRows n y := by
  unfold intRows
  apply List.map_congr_left
  intro j hj
  rw [h j (List.mem_range.1 hj)]
theorem own_cells {W : World} {base e : Nat} {g c : Nat} {r : List (List Value)} (h : Own W base e 1 (some ⟨g, 0, none⟩) c r) {j : Nat} {v : Value} (hv : r.flatten[j]? = some v) : W.cell? ⟨g, j, none⟩ = some v := by
  have := World.ownsRow.cells h (g := g) rfl j v hv
  rw [Go.WideShapes.add_plain, Nat.zero_add] at this
  exact this
theorem strRows_flat (l : List Fr) (j : Nat) (h : j < l.length) : (strRows l).flatten[j]? = some (.string (SF l j)) := by
  unfold strRows
  rw [flat_ones, List.getElem?_map, List.getElem?_eq_getElem h, SF_lt h]
  rfl
theorem intRows_at {n : Nat} {x : Nat → Int} {j : Nat} (h : j < n) : (intRows n x).flatten[j]? = some (.int .i64 (x j)) := by
  rw [intRows_flat, List.getElem?_map, List.getElem?_range h]
  rfl

/-- Between two rounds. -/
def Inv (w : World) (l : List Fr) (g1 c1 g2 c2 x3 : Nat) (x : Nat → Int) (W : World) : Prop :=
  Mid w.heap.size w (.slice (some ⟨g1, 0, none⟩) l.length c1) (.slice (some ⟨g2, 0, none⟩) l.length c2) (some ⟨g1, 0, none⟩) c1 (strRows l) (some ⟨g2, 0, none⟩) c2 (intRows l.length x) W ∧
  Boxed W x3 87 (.slice (some ⟨g1, 0, none⟩) l.length c1) ∧ Boxed W (x3 + 1) 52 (.slice (some ⟨g2, 0, none⟩) l.length c2) ∧ w.heap.size + 2 ≤ x3

section
variable {w W : World} {l : List Fr} {g1 c1 g2 c2 x3 : Nat} {x y : Nat → Int}
theorem Inv.alloc (h : Inv w l g1 c1 g2 c2 x3 x W) (o : Obj) : Inv w l g1 c1 g2 c2 x3 x (W.alloc o) := ⟨h.1.alloc o, h.2.1.alloc o, h.2.2.1.alloc o, h.2.2.2⟩
theorem Inv.putObj (h : Inv w l g1 c1 g2 c2 x3 x W) {k : Nat} {o o' : Obj} (hl : x3 ≤ k) (ho : W.heap[k]? = some o) (hc : o.isCells = false) : Inv w l g1 c1 g2 c2 x3 x (W.putObj k o') :=
  ⟨h.1.putObj (by have := h.2.2.2; omega) ho hc, heap_put h.2.1 ho hc, heap_put h.2.2.1 ho hc, h.2.2.2⟩
theorem Inv.str (h : Inv w l g1 c1 g2 c2 x3 x W) {j : Nat} (hj : j < l.length) : W.cell? ⟨g1, j, none⟩ = some (.string (SF l j)) := own_cells h.1.o1 (strRows_flat l j hj)
theorem Inv.int (h : Inv w l g1 c1 g2 c2 x3 x W) {j : Nat} (hj : j < l.length) : W.cell? ⟨g2, j, none⟩ = some (.int .i64 (x j)) := own_cells h.1.o2 (intRows_at hj)
theorem Inv.fz (h : Inv w l g1 c1 g2 c2 x3 x W) (j : Nat) : W.frozen? ⟨g2, j, none⟩ = false := World.ownsRow.frozenAt h.1.o2 j
theorem Inv.g2_ne {t : TypeId} {v : Value} {b : Nat} (h : Inv w l g1 c1 g2 c2 x3 x W) (hb : Boxed W b t v) (ht : t ≠ 3) : g2 ≠ b := by
  rcases h.1.o2.2 with ⟨hv, _⟩ | ⟨g, cap, cur, hv, _, hgh, _⟩
  · cases hv
  · simp only [Value.slice.injEq, Option.some.injEq, Addr.mk.injEq, and_true] at hv
    obtain ⟨rfl, _⟩ := hv
    rintro rfl
    have hb' : W.heap[g2]? = some (.cells #[v] t (0, 0)) := hb
    rw [hgh] at hb'
    injection hb' with hb'
    injection hb' with _ h2 _
    exact ht h2.symm
theorem Inv.store (h : Inv w l g1 c1 g2 c2 x3 x W) {i : Nat} {v : Int} (hi : y i = v) (ho : ∀ j, j ≠ i → y j = x j) : Inv w l g1 c1 g2 c2 x3 y (W.setCell ⟨g2, i, none⟩ (.int .i64 v)) ∧ W.grownBy (W.setCell ⟨g2, i, none⟩ (.int .i64 v)) (some g2) := by
  obtain ⟨m, g⟩ := h.1.store (r' := intRows l.length y) (i := i) (.int .i64 v) (by rw [intRows_len, intRows_len]) (intRows_set _ _ _ _ _ hi ho)
  have n1 := h.g2_ne h.2.1 (by decide)
  have n2 := h.g2_ne h.2.2.1 (by decide)
  exact ⟨⟨m, (heap_set n1.symm).trans h.2.1, (heap_set n2.symm).trans h.2.2.1, h.2.2.2⟩, g⟩
theorem Inv.congr (h : Inv w l g1 c1 g2 c2 x3 x W) (hx : ∀ j, j < l.length → x j = y j) : Inv w l g1 c1 g2 c2 x3 y W := by
  unfold Inv at *
  rw [← intRows_congr hx]
  exact h
end

set_option maxRecDepth 100000 in
theorem frame_loads (W : World) (x : Nat) (f : Fr) (h : W.heap[x]? = some (.cells #[.int .u32 f.id, .bool f.ext, .bool f.rem, .int .i64 f.dlc, .string f.data] 39 (0, 0))) (ev : Operand → Value) (hev : ev (.tmp 9) = .pointer (some ⟨x, 0, none⟩)) (p : String) (d : Option Nat) (ty : Nat) (af : Array Edge) :
    (execOp ev { dst := d, op := .load 39 (.tmp 9), type := ty, pos := p, after := af, guard := none }).run Try.prog W = .ok (.value (.agg #[.int .u32 f.id, .bool f.ext, .bool f.rem, .int .i64 f.dlc, .string f.data])) W := by
  have c0 : W.cell? ⟨x, 0, none⟩ = some (.int .u32 f.id) := by simp [World.cell?, h]
  have c1 : W.cell? ⟨x, 1, none⟩ = some (.bool f.ext) := by simp [World.cell?, h]
  have c2 : W.cell? ⟨x, 2, none⟩ = some (.bool f.rem) := by simp [World.cell?, h]
  have c3 : W.cell? ⟨x, 3, none⟩ = some (.int .i64 f.dlc) := by simp [World.cell?, h]
  have c4 : W.cell? ⟨x, 4, none⟩ = some (.string f.data) := by simp [World.cell?, h]
  clear h
  obtain ⟨id, ext, rem, dlc, data⟩ := f
  dsimp only at *
  simp only [execOp, hev]
  go_simp

theorem lostN_succ (S : Nat → ByteArray) (n k j : Nat) : lostN S n (k + 1) j = if lostN S n k j < 0 ∧ k < (S j).size ∧ busN S (lostN S n k) k n < byteAt (S j) k then (k : Int) else lostN S n k j := rfl
/-- Round k's row, when its first p have been gone through. -/
def mixN (l : List Fr) (k p j : Nat) : Int := if j < p then lostN (SF l) l.length (k + 1) j else lostN (SF l) l.length k j
theorem mixN_zero (l : List Fr) (k j : Nat) : mixN l k 0 j = lostN (SF l) l.length k j := by simp [mixN]
theorem mixN_at (l : List Fr) (k p : Nat) : mixN l k p p = lostN (SF l) l.length k p := by simp [mixN]
theorem mixN_new (l : List Fr) (k p : Nat) : mixN l k (p + 1) p = lostN (SF l) l.length (k + 1) p := by simp [mixN]
theorem mixN_old (l : List Fr) (k p j : Nat) (h : j ≠ p) : mixN l k (p + 1) j = mixN l k p j := by
  unfold mixN
  by_cases h1 : j < p
  · rw [if_pos h1, if_pos (by omega)]
  · rw [if_neg h1, if_neg (by omega)]
theorem mixN_same (l : List Fr) (k p j : Nat) (h : lostN (SF l) l.length (k + 1) p = lostN (SF l) l.length k p) : mixN l k (p + 1) j = mixN l k p j := by
  by_cases hj : j = p
  · subst hj; rw [mixN_new, mixN_at, h]
  · exact mixN_old l k p j hj
theorem mixN_full (l : List Fr) (k j : Nat) (h : j < l.length) : mixN l k l.length j = lostN (SF l) l.length (k + 1) j := by simp [mixN, h]

/-- Those among the first k that have not lost. -/
def leftIdx (x : Nat → Int) (k : Nat) : List Nat := (List.range k).filter fun j => decide (x j < 0)
def leftRows (x : Nat → Int) (k : Nat) : List (List Value) := (leftIdx x k).map fun (j : Nat) => [.int .i64 (j : Int)]
theorem leftIdx_le (x : Nat → Int) (k : Nat) : (leftIdx x k).length ≤ k := by
  have := List.length_filter_le (fun j => decide (x j < 0)) (List.range k)
  rw [List.length_range] at this
  exact this
theorem leftIdx_in {x : Nat → Int} {k : Nat} (h : x k < 0) : leftIdx x (k + 1) = leftIdx x k ++ [k] := by
  unfold leftIdx
  rw [List.range_succ, List.filter_append]
  simp [h]
theorem leftIdx_out {x : Nat → Int} {k : Nat} (h : ¬ x k < 0) : leftIdx x (k + 1) = leftIdx x k := by
  unfold leftIdx
  rw [List.range_succ, List.filter_append]
  simp [h]
theorem leftRows_one (x : Nat → Int) (k : Nat) : ∀ r ∈ leftRows x k, r.length = 1 := by intro r hr; obtain ⟨j, _, rfl⟩ := List.mem_map.1 hr; rfl

/-- Where each of l loses; below 0: nowhere. -/
def lostF (l : List Fr) : Nat → Int := lostN (SF l) l.length 32
def ContestV (l : List Fr) (w : World) (e : Ending) (w' : World) : Prop :=
  ∃ AL cL AT cT, e = .returned (.tuple #[.slice AL (leftIdx (lostF l) l.length).length cL, .slice AT l.length cT, .int .i64 0]) ∧
    Rd w' w'.heap.size AL 1 (leftRows (lostF l) l.length) ∧ Rd w' w'.heap.size AT 1 (intRows l.length (lostF l)) ∧ Below w.heap.size w w'

set_option maxRecDepth 100000 in
theorem contest_any (A1 A2 : Option Addr) (n1 c1 n2 c2 : Nat) (W : World) :
    Calls Try.prog 57 #[.slice A1 n1 c1, .slice A2 n2 c2] W fun e w' => e = .returned (.func (.func 85) #[] #[.pointer (some ⟨W.heap.size, 0, none⟩), .pointer (some ⟨W.heap.size + 1, 0, none⟩)]) ∧
      w' = (W.alloc (.cells #[.slice A1 n1 c1] 87)).alloc (.cells #[.slice A2 n2 c2] 52) := by
  go_enter Try.func57, Try.ntmps57
  go_wp2
  go_ret
  exact ⟨rfl, rfl⟩

set_option maxRecDepth 100000 in
set_option maxHeartbeats 2000000 in
theorem Contest_well (l : List Fr) (A : Option Addr) (c : Nat) (w : World) (hr : FrR w w.heap.size A l) (h1 : 0 < l.length) (hl : l.length ≤ 1000) (hid : ∀ f ∈ l, f.id < 4294967296) (hw : wellB l = true) :
    Calls Try.prog 29 #[.slice A l.length c] w (ContestV l w) := by
  have WELL := well_any l A c w hr hl hid
  rw [hw] at WELL
  have WELL := hide WELL
  have hz : ((l.length : Int) == 0) = false := by rw [beq_eq_false_iff_ne]; omega
  have FW := hide (show ∀ k (h : k < l.length) W, Calls Try.prog 55 #[.agg #[.int .u32 l[k].id, .bool l[k].ext, .bool l[k].rem, .int .i64 l[k].dlc, .string l[k].data]] W fun e w' => e = .returned (.string (fstr l[k])) ∧ Below W.heap.size W w' from
    fun k h W => field_any l[k] W (List.all_eq_true.1 hw _ (List.getElem_mem h)))
  clear hw hid
  refine (callsIn_wide (n := 3)).1 (callsIn_of_wp_marks Try.func29 rfl trivial ?_ rfl)
  rw [wpIn_wide]
  simp only [Try.ntmps29, List.size_toArray, List.length_cons, List.length_nil, Nat.reduceAdd, Nat.reduceSub, Array.replicate_succ, Array.replicate_zero, List.push_toArray, List.append_toArray, List.nil_append, List.cons_append]
  go_wp2_with fail
  refine WELL.out.mono ?_
  rintro e1 w1 ⟨rfl, q1⟩
  have hr1 := FrR.next hr q1 q1.size
  clear hr WELL
  go_wp2
  have S0 : Gath w1 l 0 ((w1.alloc (.cells #[.slice none 0 0] 87)).alloc (.cells #[.slice none 0 0] 52)) :=
    ⟨none, 0, none, 0, ⟨Boxed.alloc (Boxed.new w1 _ _) _, by have := Boxed.new (w1.alloc (.cells #[.slice none 0 0] 87)) 52 (.slice none 0 0); rw [World.size_alloc] at this; exact this, Own.nil, Own.nil, ((Below.refl _ _).alloc (Nat.le_refl _) _).alloc (by simp) _⟩⟩
  go_loopw [26] (fun i W => ∃ k : Nat, k ≤ l.length ∧ i = .int .i64 k ∧ Gath w1 l k W) (fun i _ => l.length - (intOf i).toNat)
  case atStart => exact ⟨0, Nat.zero_le _, rfl, S0⟩
  case round =>
    obtain ⟨k, hk, rfl, A1, c1, A2, c2, mid⟩ := hrel
    by_cases hlt : k < l.length
    · obtain ⟨b, off, rfl, hbs, d0, d1, d2, d3, d4⟩ := hr1.at_ hlt
      have d0' := cellBelow mid.q hbs d0
      have d1' := cellBelow mid.q hbs d1
      have d2' := cellBelow mid.q hbs d2
      have d3' := cellBelow mid.q hbs d3
      have d4' := cellBelow mid.q hbs d4
      have FK := hide (FW.out k hlt)
      clear d0 d1 d2 d3 d4
      have MID := hide mid
      clear mid
      go_wp2
      refine wp_region_noPanic ?_
      have mid := (MID.out.alloc (.cells #[.int .u32 l[k].id, .bool l[k].ext, .bool l[k].rem, .int .i64 l[k].dlc, .string l[k].data] 39)).drew
      have hf : (wr.alloc (.cells #[.int .u32 l[k].id, .bool l[k].ext, .bool l[k].rem, .int .i64 l[k].dlc, .string l[k].data] 39)).drew.heap[wr.heap.size]? = some (.cells #[.int .u32 l[k].id, .bool l[k].ext, .bool l[k].rem, .int .i64 l[k].dlc, .string l[k].data] 39 (0, 0)) := World.alloc_heap_new wr _
      refine wp_region_S [0, 1, 5] (readyC w1.heap.size wr.heap.size (.slice A1 k c1) (.slice A2 k c2) (.cells #[.int .u32 l[k].id, .bool l[k].ext, .bool l[k].rem, .int .i64 l[k].dlc, .string l[k].data] 39 (0, 0))) (by kernel_rfl) ?_
      generalize (wr.alloc (.cells #[.int .u32 l[k].id, .bool l[k].ext, .bool l[k].rem, .int .i64 l[k].dlc, .string l[k].data] 39)).drew = W0 at *
      refine wpAnyS_take (i := 0) (v := .slice A1 k c1) rfl (by simp) (by kernel_rfl) (by kernel_rfl) (by kernel_rfl) (fun _ _ _ h => h) rfl (fun W (h : W.cell? ⟨w1.heap.size, 0, none⟩ = some (.slice A1 k c1)) => by go_simp) mid.cell1 ?_
      refine wpAnyS_take (i := 1) (v := .agg #[.int .u32 l[k].id, .bool l[k].ext, .bool l[k].rem, .int .i64 l[k].dlc, .string l[k].data]) rfl (by simp) (by kernel_rfl) (by kernel_rfl) (by kernel_rfl) (fun _ _ _ h => h) rfl (fun W h => frame_loads W wr.heap.size l[k] h _ rfl _ _ _ _) hf ?_
      refine wpAnyS_take (i := 5) (v := .slice A2 k c2) rfl (by simp) (by kernel_rfl) (by kernel_rfl) (by kernel_rfl) (fun _ _ _ h => h) rfl (fun W (h : W.cell? ⟨w1.heap.size + 1, 0, none⟩ = some (.slice A2 k c2)) => by go_simp) mid.cell2 ?_
      go_simp
      have E1 := hide (show ((strRows (l.take k)).length + [[Value.string (fstr l[k])]].length) * 16 ≤ 140737488355328 by simp [strRows]; omega)
      have E2 := hide (show (strRows (l.take k)).length + [[Value.string (fstr l[k])]].length ≤ maxLen by simp [strRows, maxLen]; omega)
      have E3 := hide (show k = (strRows (l.take k)).length by simp [strRows]; omega)
      have E4 := hide (show ((oneRows k).length + [[Value.int .i64 (-1)]].length) * 8 ≤ 140737488355328 by simp [oneRows]; omega)
      have E5 := hide (show (oneRows k).length + [[Value.int .i64 (-1)]].length ≤ maxLen by simp [oneRows, maxLen]; omega)
      have E6 := hide (show k = (oneRows k).length by simp [oneRows])
      clear d0' d1' d2' d3' d4'
      refine wpAnyS_two (i := 2) (k := 6) (by kernel_rfl) ?_ ?_
      · refine wpOp_at rfl ?_
        go_simp
        go_at_call 55
        refine (FK.out _).mono ?_
        rintro e2 w2 ⟨rfl, q2⟩
        have mid := mid.below q2
        have hf := heap_below hf q2
        refine ⟨keepsC mid hf (by decide), ?_⟩
        go_simp
        refine wpAnyS_two (i := 3) (k := 6) (by kernel_rfl) ?_ ?_
        · refine wpOp_at rfl ?_
          go_simp
          have r3 := World.alloc_heap_new w2 (.cells #[.string (fstr l[k])] 9)
          have mid := mid.alloc (.cells #[.string (fstr l[k])] 9)
          have hf := heap_below hf ((Below.refl _ w2).alloc (Nat.le_refl _) (.cells #[.string (fstr l[k])] 9))
          generalize w2.heap.size = x3 at *
          generalize w2.alloc (.cells #[.string (fstr l[k])] 9) = w3 at *
          refine ⟨keepsC mid hf (by decide), ?_⟩
          go_simp
          refine wpAnyS_two (i := 4) (k := 6) (by kernel_rfl) ?_ ?_
          · refine wpOp_at rfl ?_
            refine step_append_rows _ rfl _ _ 87 rfl slStr (w1.heap.size + 2) _ _ _ (strRows (l.take k)) rfl mid.o1 _ _ _ [[.string (fstr l[k])]] rfl (rd_heap r3) (by simp) (by simp [Value.oneCell']) E1.out E2.out mid.size E3.out rfl ?_
            intro A3 c3 w4 own4 g4
            have hf := heap_grown hf (by decide) mid.o1 g4
            have mid := mid.app1 g4 own4
            refine ⟨keepsC mid hf (by decide), ?_⟩
            go_simp
            refine wpAnyS_one (i := 6) (by kernel_rfl) ?_
            refine wpOp_at rfl ?_
            go_simp
            have r6 := World.alloc_heap_new w4 (.cells #[.int .i64 (-1)] 3)
            have hf := heap_below hf ((Below.refl _ w4).alloc (Nat.le_refl _) (.cells #[.int .i64 (-1)] 3))
            have mid := mid.alloc (.cells #[.int .i64 (-1)] 3)
            generalize w4.heap.size = x6 at *
            generalize w4.alloc (.cells #[.int .i64 (-1)] 3) = w5 at *
            refine ⟨keepsC mid hf (by decide), ?_⟩
            go_simp
            refine wpAnyS_one (i := 7) (by kernel_rfl) ?_
            refine wpOp_at rfl ?_
            refine step_append_rows _ rfl _ _ 52 rfl slInt (w1.heap.size + 2) _ _ _ (oneRows k) rfl mid.o2 _ _ _ [[.int .i64 (-1)]] rfl (rd_heap r6) (by simp) (by simp [Value.oneCell']) E4.out E5.out mid.size E6.out rfl ?_
            intro A4 c4 w6 own6 g6
            have hf := heap_grown hf (by decide) mid.o2 g6
            have mid := mid.app2 g6 own6
            refine ⟨keepsC mid hf (by decide), ?_⟩
            go_simp
            refine wpAnyS_one (i := 8) (by kernel_rfl) ?_
            refine wpOp_at rfl ?_
            have m1 := mid.cell1
            have z1 := mid.fz1
            go_simp
            have mid := mid.set1 (.slice A3 (k + 1) c3)
            generalize w6.setCell ⟨w1.heap.size, 0, none⟩ (.slice A3 (k + 1) c3) = w8 at *
            refine ⟨keepsC8 mid (by kernel_rfl) (by kernel_rfl), ?_⟩
            go_simp
            refine wpAnyS_one (i := 9) (by kernel_rfl) ?_
            refine wpOp_at rfl ?_
            have m2 := mid.cell2
            have z2 := mid.fz2
            go_simp
            have mid := mid.set2 (.slice A4 (k + 1) c4)
            generalize w8.setCell ⟨w1.heap.size + 1, 0, none⟩ (.slice A4 (k + 1) c4) = w9 at *
            refine ⟨keepsC9 (by kernel_rfl) (by kernel_rfl) (by kernel_rfl), ?_⟩
            go_simp
            refine wpAnyS_done (by kernel_rfl) ?_ _
            refine NoPanic.normal ?_
            have NEXT : Gath w1 l (k + 1) w9 := ⟨A3, c3, A4, c4, by rw [strRows_snoc hlt, oneRows_snoc]; exact mid⟩
            clear mid MID FK FW
            go_wp2
            go_roundw
            case rel => exact ⟨k + 1, by omega, by go_num, NEXT⟩
            case measure => simp [intOf]; omega
          · refine wpOp_at rfl ?_
            go_simp
            have r6 := World.alloc_heap_new w3 (.cells #[.int .i64 (-1)] 3)
            have hf := heap_below hf ((Below.refl _ w3).alloc (Nat.le_refl _) (.cells #[.int .i64 (-1)] 3))
            have r3 := heap_below r3 ((Below.refl _ w3).alloc (Nat.le_refl _) (.cells #[.int .i64 (-1)] 3))
            have mid := mid.alloc (.cells #[.int .i64 (-1)] 3)
            generalize w3.heap.size = x6 at *
            generalize w3.alloc (.cells #[.int .i64 (-1)] 3) = w5 at *
            refine ⟨keepsC mid hf (by decide), ?_⟩
            go_simp
            refine wpAnyS_one (i := 4) (by kernel_rfl) ?_
            refine wpOp_at rfl ?_
            refine step_append_rows _ rfl _ _ 87 rfl slStr (w1.heap.size + 2) _ _ _ (strRows (l.take k)) rfl mid.o1 _ _ _ [[.string (fstr l[k])]] rfl (rd_heap r3) (by simp) (by simp [Value.oneCell']) E1.out E2.out mid.size E3.out rfl ?_
            intro A3 c3 w4 own4 g4
            have hf := heap_grown hf (by decide) mid.o1 g4
            have r6 := heap_grown r6 (by decide) mid.o1 g4
            have mid := mid.app1 g4 own4
            refine ⟨keepsC mid hf (by decide), ?_⟩
            go_simp
            refine wpAnyS_one (i := 7) (by kernel_rfl) ?_
            refine wpOp_at rfl ?_
            refine step_append_rows _ rfl _ _ 52 rfl slInt (w1.heap.size + 2) _ _ _ (oneRows k) rfl mid.o2 _ _ _ [[.int .i64 (-1)]] rfl (rd_heap r6) (by simp) (by simp [Value.oneCell']) E4.out E5.out mid.size E6.out rfl ?_
            intro A4 c4 w6 own6 g6
            have hf := heap_grown hf (by decide) mid.o2 g6
            have mid := mid.app2 g6 own6
            refine ⟨keepsC mid hf (by decide), ?_⟩
            go_simp
            refine wpAnyS_one (i := 8) (by kernel_rfl) ?_
            refine wpOp_at rfl ?_
            have m1 := mid.cell1
            have z1 := mid.fz1
            go_simp
            have mid := mid.set1 (.slice A3 (k + 1) c3)
            generalize w6.setCell ⟨w1.heap.size, 0, none⟩ (.slice A3 (k + 1) c3) = w8 at *
            refine ⟨keepsC8 mid (by kernel_rfl) (by kernel_rfl), ?_⟩
            go_simp
            refine wpAnyS_one (i := 9) (by kernel_rfl) ?_
            refine wpOp_at rfl ?_
            have m2 := mid.cell2
            have z2 := mid.fz2
            go_simp
            have mid := mid.set2 (.slice A4 (k + 1) c4)
            generalize w8.setCell ⟨w1.heap.size + 1, 0, none⟩ (.slice A4 (k + 1) c4) = w9 at *
            refine ⟨keepsC9 (by kernel_rfl) (by kernel_rfl) (by kernel_rfl), ?_⟩
            go_simp
            refine wpAnyS_done (by kernel_rfl) ?_ _
            refine NoPanic.normal ?_
            have NEXT : Gath w1 l (k + 1) w9 := ⟨A3, c3, A4, c4, by rw [strRows_snoc hlt, oneRows_snoc]; exact mid⟩
            clear mid MID FK FW
            go_wp2
            go_roundw
            case rel => exact ⟨k + 1, by omega, by go_num, NEXT⟩
            case measure => simp [intOf]; omega
        · refine wpOp_at rfl ?_
          go_simp
          have r6 := World.alloc_heap_new w2 (.cells #[.int .i64 (-1)] 3)
          have hf := heap_below hf ((Below.refl _ w2).alloc (Nat.le_refl _) (.cells #[.int .i64 (-1)] 3))
          have mid := mid.alloc (.cells #[.int .i64 (-1)] 3)
          generalize w2.heap.size = x6 at *
          generalize w2.alloc (.cells #[.int .i64 (-1)] 3) = w5 at *
          refine ⟨keepsC mid hf (by decide), ?_⟩
          go_simp
          refine wpAnyS_one (i := 3) (by kernel_rfl) ?_
          refine wpOp_at rfl ?_
          go_simp
          have r3 := World.alloc_heap_new w5 (.cells #[.string (fstr l[k])] 9)
          have mid := mid.alloc (.cells #[.string (fstr l[k])] 9)
          have hf := heap_below hf ((Below.refl _ w5).alloc (Nat.le_refl _) (.cells #[.string (fstr l[k])] 9))
          have r6 := heap_below r6 ((Below.refl _ w5).alloc (Nat.le_refl _) (.cells #[.string (fstr l[k])] 9))
          generalize w5.heap.size = x3 at *
          generalize w5.alloc (.cells #[.string (fstr l[k])] 9) = w3 at *
          refine ⟨keepsC mid hf (by decide), ?_⟩
          go_simp
          refine wpAnyS_one (i := 4) (by kernel_rfl) ?_
          refine wpOp_at rfl ?_
          refine step_append_rows _ rfl _ _ 87 rfl slStr (w1.heap.size + 2) _ _ _ (strRows (l.take k)) rfl mid.o1 _ _ _ [[.string (fstr l[k])]] rfl (rd_heap r3) (by simp) (by simp [Value.oneCell']) E1.out E2.out mid.size E3.out rfl ?_
          intro A3 c3 w4 own4 g4
          have hf := heap_grown hf (by decide) mid.o1 g4
          have r6 := heap_grown r6 (by decide) mid.o1 g4
          have mid := mid.app1 g4 own4
          refine ⟨keepsC mid hf (by decide), ?_⟩
          go_simp
          refine wpAnyS_one (i := 7) (by kernel_rfl) ?_
          refine wpOp_at rfl ?_
          refine step_append_rows _ rfl _ _ 52 rfl slInt (w1.heap.size + 2) _ _ _ (oneRows k) rfl mid.o2 _ _ _ [[.int .i64 (-1)]] rfl (rd_heap r6) (by simp) (by simp [Value.oneCell']) E4.out E5.out mid.size E6.out rfl ?_
          intro A4 c4 w6 own6 g6
          have hf := heap_grown hf (by decide) mid.o2 g6
          have mid := mid.app2 g6 own6
          refine ⟨keepsC mid hf (by decide), ?_⟩
          go_simp
          refine wpAnyS_one (i := 8) (by kernel_rfl) ?_
          refine wpOp_at rfl ?_
          have m1 := mid.cell1
          have z1 := mid.fz1
          go_simp
          have mid := mid.set1 (.slice A3 (k + 1) c3)
          generalize w6.setCell ⟨w1.heap.size, 0, none⟩ (.slice A3 (k + 1) c3) = w8 at *
          refine ⟨keepsC8 mid (by kernel_rfl) (by kernel_rfl), ?_⟩
          go_simp
          refine wpAnyS_one (i := 9) (by kernel_rfl) ?_
          refine wpOp_at rfl ?_
          have m2 := mid.cell2
          have z2 := mid.fz2
          go_simp
          have mid := mid.set2 (.slice A4 (k + 1) c4)
          generalize w8.setCell ⟨w1.heap.size + 1, 0, none⟩ (.slice A4 (k + 1) c4) = w9 at *
          refine ⟨keepsC9 (by kernel_rfl) (by kernel_rfl) (by kernel_rfl), ?_⟩
          go_simp
          refine wpAnyS_done (by kernel_rfl) ?_ _
          refine NoPanic.normal ?_
          have NEXT : Gath w1 l (k + 1) w9 := ⟨A3, c3, A4, c4, by rw [strRows_snoc hlt, oneRows_snoc]; exact mid⟩
          clear mid MID FK FW
          go_wp2
          go_roundw
          case rel => exact ⟨k + 1, by omega, by go_num, NEXT⟩
          case measure => simp [intOf]; omega
      · refine wpOp_at rfl ?_
        go_simp
        have r6 := World.alloc_heap_new W0 (.cells #[.int .i64 (-1)] 3)
        have hf := heap_below hf ((Below.refl _ W0).alloc (Nat.le_refl _) (.cells #[.int .i64 (-1)] 3))
        have mid := mid.alloc (.cells #[.int .i64 (-1)] 3)
        generalize W0.heap.size = x6 at *
        generalize W0.alloc (.cells #[.int .i64 (-1)] 3) = w5 at *
        refine ⟨keepsC mid hf (by decide), ?_⟩
        go_simp
        refine wpAnyS_one (i := 2) (by kernel_rfl) ?_
        refine wpOp_at rfl ?_
        go_simp
        go_at_call 55
        refine (FK.out _).mono ?_
        rintro e2 w2 ⟨rfl, q2⟩
        have mid := mid.below q2
        have hf := heap_below hf q2
        have r6 := heap_below r6 q2
        refine ⟨keepsC mid hf (by decide), ?_⟩
        go_simp
        refine wpAnyS_one (i := 3) (by kernel_rfl) ?_
        refine wpOp_at rfl ?_
        go_simp
        have r3 := World.alloc_heap_new w2 (.cells #[.string (fstr l[k])] 9)
        have mid := mid.alloc (.cells #[.string (fstr l[k])] 9)
        have hf := heap_below hf ((Below.refl _ w2).alloc (Nat.le_refl _) (.cells #[.string (fstr l[k])] 9))
        have r6 := heap_below r6 ((Below.refl _ w2).alloc (Nat.le_refl _) (.cells #[.string (fstr l[k])] 9))
        generalize w2.heap.size = x3 at *
        generalize w2.alloc (.cells #[.string (fstr l[k])] 9) = w3 at *
        refine ⟨keepsC mid hf (by decide), ?_⟩
        go_simp
        refine wpAnyS_one (i := 4) (by kernel_rfl) ?_
        refine wpOp_at rfl ?_
        refine step_append_rows _ rfl _ _ 87 rfl slStr (w1.heap.size + 2) _ _ _ (strRows (l.take k)) rfl mid.o1 _ _ _ [[.string (fstr l[k])]] rfl (rd_heap r3) (by simp) (by simp [Value.oneCell']) E1.out E2.out mid.size E3.out rfl ?_
        intro A3 c3 w4 own4 g4
        have hf := heap_grown hf (by decide) mid.o1 g4
        have r6 := heap_grown r6 (by decide) mid.o1 g4
        have mid := mid.app1 g4 own4
        refine ⟨keepsC mid hf (by decide), ?_⟩
        go_simp
        refine wpAnyS_one (i := 7) (by kernel_rfl) ?_
        refine wpOp_at rfl ?_
        refine step_append_rows _ rfl _ _ 52 rfl slInt (w1.heap.size + 2) _ _ _ (oneRows k) rfl mid.o2 _ _ _ [[.int .i64 (-1)]] rfl (rd_heap r6) (by simp) (by simp [Value.oneCell']) E4.out E5.out mid.size E6.out rfl ?_
        intro A4 c4 w6 own6 g6
        have hf := heap_grown hf (by decide) mid.o2 g6
        have mid := mid.app2 g6 own6
        refine ⟨keepsC mid hf (by decide), ?_⟩
        go_simp
        refine wpAnyS_one (i := 8) (by kernel_rfl) ?_
        refine wpOp_at rfl ?_
        have m1 := mid.cell1
        have z1 := mid.fz1
        go_simp
        have mid := mid.set1 (.slice A3 (k + 1) c3)
        generalize w6.setCell ⟨w1.heap.size, 0, none⟩ (.slice A3 (k + 1) c3) = w8 at *
        refine ⟨keepsC8 mid (by kernel_rfl) (by kernel_rfl), ?_⟩
        go_simp
        refine wpAnyS_one (i := 9) (by kernel_rfl) ?_
        refine wpOp_at rfl ?_
        have m2 := mid.cell2
        have z2 := mid.fz2
        go_simp
        have mid := mid.set2 (.slice A4 (k + 1) c4)
        generalize w8.setCell ⟨w1.heap.size + 1, 0, none⟩ (.slice A4 (k + 1) c4) = w9 at *
        refine ⟨keepsC9 (by kernel_rfl) (by kernel_rfl) (by kernel_rfl), ?_⟩
        go_simp
        refine wpAnyS_done (by kernel_rfl) ?_ _
        refine NoPanic.normal ?_
        have NEXT : Gath w1 l (k + 1) w9 := ⟨A3, c3, A4, c4, by rw [strRows_snoc hlt, oneRows_snoc]; exact mid⟩
        clear mid MID FK FW
        go_wp2
        go_roundw
        case rel => exact ⟨k + 1, by omega, by go_num, NEXT⟩
        case measure => simp [intOf]; omega
    · obtain rfl : k = l.length := by omega
      obtain ⟨g1, cc1, hA1, _⟩ := World.ownsRow.form mid.o1 (by simpa [strRows] using h1)
      obtain ⟨g2, cc2, hA2, _⟩ := World.ownsRow.form mid.o2 (by simpa [oneRows] using h1)
      simp only [Value.slice.injEq] at hA1 hA2
      obtain ⟨rfl, _, rfl⟩ := hA1
      obtain ⟨rfl, _, rfl⟩ := hA2
      have hx3 : w1.heap.size + 2 ≤ wr.heap.size := mid.size
      have INV : Inv w1 l g1 c1 g2 c2 wr.heap.size (lostN (SF l) l.length 0) ((wr.alloc (.cells #[.slice (some ⟨g1, 0, none⟩) l.length c1] 87)).alloc (.cells #[.slice (some ⟨g2, 0, none⟩) l.length c2] 52)) := by
        have m2 := (mid.alloc (.cells #[.slice (some ⟨g1, 0, none⟩) l.length c1] 87)).alloc (.cells #[.slice (some ⟨g2, 0, none⟩) l.length c2] 52)
        rw [List.take_length, intRows_one] at m2
        refine ⟨m2, Boxed.alloc (Boxed.new wr _ _) _, ?_, hx3⟩
        have := Boxed.new (wr.alloc (.cells #[.slice (some ⟨g1, 0, none⟩) l.length c1] 87)) 52 (.slice (some ⟨g2, 0, none⟩) l.length c2)
        rw [World.size_alloc] at this
        exact this
      have m1 := mid.cell1
      have m2 := mid.cell2
      have m3 := mid.fz1
      have m4 := mid.fz2
      clear mid FW
      go_wp2_with fail
      refine (contest_any _ _ _ _ _ _ _).mono ?_
      rintro e3 w3 ⟨rfl, rfl⟩
      go_wp2_with fail
      generalize hW : ((wr.alloc (.cells #[.slice (some ⟨g1, 0, none⟩) l.length c1] 87)).alloc (.cells #[.slice (some ⟨g2, 0, none⟩) l.length c2] 52)) = W2 at *
      have hz2 : W2.heap.size = wr.heap.size + 2 := by rw [← hW]; simp
      clear hW m1 m2 m3 m4
      refine range_exact (n := 3) (gf := 85) (lb := #[.pointer (some ⟨wr.heap.size, 0, none⟩), .pointer (some ⟨wr.heap.size + 1, 0, none⟩)]) rfl (fun _ _ => rfl)
        (fun k => #[.int .i64 k, .int .u8 (busN (SF l) (lostN (SF l) l.length k) k l.length)]) (fun _ => rfl) 32 (fun k W => Inv w1 l g1 c1 g2 c2 wr.heap.size (lostN (SF l) l.length k) W)
        (fun _ _ o h => h.alloc o) (fun k W x o o' h hx ho hc => h.putObj (by omega) ho hc) ?iter INV ?act1 ?assign ?body ?done
      case iter =>
        intro lr J W hJI hY h0
        exact iter_any (3 - 1) lr wr.heap.size (wr.heap.size + 1) g1 g2 l.length c1 c2 (SF l) (fun k => lostN (SF l) l.length k) _ J (hide (fun k W h => ⟨h.2.1.cell, h.2.2.1.cell, fun j hj => ⟨h.str hj, h.int hj⟩⟩)) (hide hJI) (hide hY) W h0 hl
      case assign =>
        intro lr k W K hK
        gi_wp2
        exact hK
      case body =>
        intro lr k W hI hk
        have m1 := hI.1.cell1
        have HB := hide (fun p => lostN_succ (SF l) l.length k p)
        generalize busN (SF l) (lostN (SF l) l.length k) k l.length = b at *
        have I0 := hide (hI.congr (y := mixN l k 0) (fun j _ => (mixN_zero l k j).symm))
        clear hI
        gi_wp2
        gi_loopw [46] (fun i W' => ∃ p : Nat, p ≤ l.length ∧ i = .int .i64 p ∧ Inv w1 l g1 c1 g2 c2 wr.heap.size (mixN l k p) W' ∧ KeepsFrom W2.heap.size W W') (fun i _ => l.length - (intOf i).toNat)
        case atStart => exact ⟨0, Nat.zero_le _, rfl, I0.out, KeepsFrom.refl _ _⟩
        case round =>
          obtain ⟨p, hp, rfl, inv, kf⟩ := hrel
          by_cases hlp : p < l.length
          · have d1 := inv.str hlp
            have d2 := inv.int hlp
            have d3 := inv.1.cell2
            have d4 := inv.fz p
            rw [mixN_at] at d2
            have HY := hide (HB.out p)
            have HA := hide (fun h => byteAt_lt (S := SF l p) (k := k) h)
            have HM := hide (fun (v : Int) (hv : lostN (SF l) l.length (k + 1) p = v) => inv.store (i := p) (y := mixN l k (p + 1)) (v := v) (by rw [mixN_new, hv]) (fun j hj => mixN_old l k p j hj))
            have HS := hide (fun (hv : lostN (SF l) l.length (k + 1) p = lostN (SF l) l.length k p) => inv.congr (y := mixN l k (p + 1)) (fun j _ => (mixN_same l k p j hv).symm))
            generalize lostN (SF l) l.length (k + 1) p = Y at *
            generalize lostN (SF l) l.length k p = X at *
            generalize byteAt (SF l p) k = y at *
            generalize SF l p = T at *
            have hg2 : g2 < W2.heap.size := by omega
            by_cases hX : X < 0
            · by_cases hT : k < T.size
              · have e1 : y = (T[k].toNat : Int) := HA.out hT
                have hTi : (k : Int) < (T.size : Int) := by omega
                by_cases hy : b < y
                · have e2 := hide (show Y = k by rw [HY.out, if_pos ⟨hX, hT, hy⟩])
                  rw [e1] at hy
                  obtain ⟨i2, gr⟩ := HM.out (k : Int) e2.out
                  have I2 := hide i2
                  have G2 := hide gr
                  clear HY HA e1 HS HM e2 i2 gr
                  gi_wp2
                  go_roundw
                  case rel => exact ⟨p + 1, by omega, by go_num, I2.out, kf.trans (KeepsFrom.of_grownBy G2.out (fun j e => by cases e; exact hg2))⟩
                  case measure => simp [intOf]; omega
                · have e2 := hide (show Y = X by rw [HY.out, if_neg (fun h => hy h.2.2)])
                  rw [e1] at hy
                  have NEXT := hide (HS.out e2.out)
                  clear HY HA HM HS e2 e1
                  gi_wp2
                  go_roundw
                  case rel => exact ⟨p + 1, by omega, by go_num, NEXT.out, kf⟩
                  case measure => simp [intOf]; omega
              · have e2 := hide (show Y = X by rw [HY.out, if_neg (fun h => hT h.2.1)])
                have hTi : ¬ (k : Int) < (T.size : Int) := by omega
                have NEXT := hide (HS.out e2.out)
                clear HY HA HM HS e2
                gi_wp2
                go_roundw
                case rel => exact ⟨p + 1, by omega, by go_num, NEXT.out, kf⟩
                case measure => simp [intOf]; omega
            · have e2 := hide (show Y = X by rw [HY.out, if_neg (fun h => hX h.1)])
              have NEXT := hide (HS.out e2.out)
              clear HY HA HM HS e2
              gi_wp2
              go_roundw
              case rel => exact ⟨p + 1, by omega, by go_num, NEXT.out, kf⟩
              case measure => simp [intOf]; omega
          · obtain rfl : p = l.length := by omega
            gi_wp2
            exact ⟨kf, inv.congr (fun j hj => mixN_full l k j hj)⟩
      case done =>
        intro D W hI hD hK
        have LF := hide (show lostN (SF l) l.length 32 = lostF l from rfl)
        rw [LF.out] at hI
        have m2 := hI.1.cell2
        have hw : Below w.heap.size w W := below_next q1 q1.size hI.1.q
        have INV := hide hI
        have z0 := hI.1.size
        clear hI LF
        go_wp2
        go_loopw [76, 7] (fun i v W' => ∃ (k : Nat) (AL : Option Addr) (cL : Nat), k ≤ l.length ∧ i = .int .i64 k ∧ v = .slice AL (leftIdx (lostF l) k).length cL ∧ Own W' W.heap.size 3 1 AL cL (leftRows (lostF l) k) ∧ Below W.heap.size W W') (fun i _ _ => l.length - (intOf i).toNat)
        case atStart => exact ⟨0, none, 0, Nat.zero_le _, rfl, rfl, Own.nil, Below.refl _ _⟩
        case round =>
          obtain ⟨k, AL, cL, hk, rfl, rfl, own, qb⟩ := hrel
          have OW := hide own
          clear own
          by_cases hlt : k < l.length
          · have d2 := cellBelow qb (by have := INV.out.1.o2; have h := (World.ownsRow.lt INV.out.1.o2 g2 rfl).2; exact h) (INV.out.int hlt)
            have S1 := hide (show ((leftRows (lostF l) k).length + [[Value.int .i64 (k : Int)]].length) * 8 ≤ 140737488355328 by have := leftIdx_le (lostF l) k; simp [leftRows]; omega)
            have S2 := hide (show (leftRows (lostF l) k).length + [[Value.int .i64 (k : Int)]].length ≤ maxLen by have := leftIdx_le (lostF l) k; simp [leftRows, maxLen]; omega)
            have S3 := hide (show (leftIdx (lostF l) k).length = (leftRows (lostF l) k).length by simp [leftRows])
            have S4 := hide (fun h => leftIdx_in (x := lostF l) (k := k) h)
            have S5 := hide (fun h => leftIdx_out (x := lostF l) (k := k) h)
            have S6 := hide (show ∀ L, L = leftIdx (lostF l) k ++ [k] → leftIdx (lostF l) (k + 1) = L → leftRows (lostF l) (k + 1) = leftRows (lostF l) k ++ [[Value.int .i64 (k : Int)]] from fun L h h' => by unfold leftRows; rw [h', h]; simp)
            by_cases hX : lostF l k < 0
            · have e4 := hide (S4.out hX)
              have r3 := hide (World.alloc_heap_new wr (.cells #[.int .i64 (k : Int)] 3))
              have qa : Below W.heap.size W (wr.alloc (.cells #[.int .i64 (k : Int)] 3)) := qb.alloc qb.size _
              have ow2 := hide (OW.out.alloc (.cells #[.int .i64 (k : Int)] 3))
              have S7 := hide (S6.out _ rfl e4.out)
              have S8 := hide (show (leftIdx (lostF l) (k + 1)).length = (leftIdx (lostF l) k).length + 1 by rw [e4.out]; simp)
              clear S4 S5 S6 e4 OW
              go_wp2_with (at_builtin; refine wpList_append_rows _ rfl _ _ 52 rfl slInt W.heap.size _ _ _ (leftRows (lostF l) k) rfl ow2.out _ _ _ [[.int .i64 (k : Int)]] rfl (rd_heap r3.out) (by simp) (by simp [Value.oneCell']) S1.out S2.out ?_ S3.out rfl ?_)
              · exact qa.size
              intro A4 n4 w4 o4 g4
              have q4 := below_append qa g4 ow2.out (Nat.le_refl _) qa.size
              rw [← S7.out] at o4
              have O4 := hide o4
              clear o4 g4 ow2 r3 S1 S2 S3 S7
              go_wp2
              go_roundw
              case rel => exact ⟨k + 1, A4, n4, by omega, by go_num, by rw [S8.out], O4.out, q4⟩
              case measure => simp [intOf]; omega
            · have e5 := hide (S5.out hX)
              clear S1 S2 S3 S4 S6
              go_wp2
              go_roundw
              case rel => exact ⟨k + 1, AL, cL, by omega, by go_num, by rw [e5.out], by have := OW.out; unfold leftRows at *; rw [e5.out]; exact this, qb⟩
              case measure => simp [intOf]; omega
          · obtain rfl : k = l.length := by omega
            have m3 := cellBelow qb (by omega) m2
            have hD4 : wr.heap[D]? = some (.deferred (some [])) := heap_below hK (by have := heap_lt hK; exact qb)
            clear S0
            go_wp2
            refine wp_region_noPanic ?_
            go_quiet (fail)
            refine NoPanic.normal ?_
            go_wp2
            refine ⟨by simp, .inl ⟨_, _, rfl, run_takeDeferred (ds := []) hD4, ?_⟩⟩
            refine ⟨.tuple #[.slice AL (leftIdx (lostF l) l.length).length cL, .slice (some ⟨g2, 0, none⟩) l.length c2, .int .i64 0], by simp [results, Try.results29, go_sem], ?_⟩
            have hDD : (wr.drewN nq).heap[D]? = some (.deferred (some [])) := hD4
            have OL := own_put (W := wr.drewN nq) (o' := .deferred none) OW.out hDD rfl
            have OT := own_put (W := wr.drewN nq) (o' := .deferred none) (INV.out.1.o2.grown (below_drewN qb _)) hDD rfl
            have QW : Below w.heap.size w (wr.drewN nq) := below_drewN (hw.trans (qb.mono hw.size)) _
            exact ⟨AL, cL, _, c2, rfl, OL.rd (leftRows_one _ _), OT.rd (fun r hr => by obtain ⟨j, _, rfl⟩ := List.mem_map.1 hr; rfl), QW.grown (grownBy_putObj' _ D _) QW.size (fun k e => by cases e; have := q1.size; omega)⟩
end Go.Proofs.Ytbdgifngldipcaa
