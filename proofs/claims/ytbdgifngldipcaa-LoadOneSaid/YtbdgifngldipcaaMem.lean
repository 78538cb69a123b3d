/- Words for memory: slices that read as rows of cells, facts hidden from the walk, a world below a block. Nothing of the program's text. -/
import Derived.Test.YtbdgifngldipcaaProg
import Derived.WalkKit
import Derived.ProofKit
import Derived.WalkLawsBesides
import Derived.BigQuiet
import Derived.Deep.QuietTactic
namespace Go.Proofs.Ytbdgifngldipcaa
open Go.ChangeShapes Go.WideShapes Go.ChangeAt Go.RowKit

theorem hide {p : Prop} (h : p) : Hid p := h

theorem below_drewN {B : Nat} {a w : World} (h : Below B a w) (n : Nat) : Below B a (w.drewN n) := ⟨h.os, h.tape, h.output, h.size, h.block⟩

/-- What a call leaves, behind what was there when another call began. -/
theorem below_next {B : Nat} {w w1 w2 : World} (h : Below B w w1) (hB : B ≤ w1.heap.size) (h2 : Below w1.heap.size w1 w2) : Below B w w2 := h.trans (h2.mono hB)

theorem cellBelow {w w' : World} {B b o : Nat} {v : Value} (h : Below B w w') (hb : b < B) (hc : w.cell? ⟨b, o, none⟩ = some v) : w'.cell? ⟨b, o, none⟩ = some v := (h.cell (p := ⟨b, o, none⟩) hb).trans hc

/-- The slice at A holds the rows cs, of sz cells each, below block B. -/
def Rd (w : World) (B : Nat) (A : Option Addr) (sz : Nat) (cs : List (List Value)) : Prop :=
  0 < cs.length → ∃ b off, A = some ⟨b, off, none⟩ ∧ b < B ∧ ∀ k row j v, cs[k]? = some row → row[j]? = some v → w.cell? ⟨b, off + k * sz + j, none⟩ = some v

theorem Rd.nil {w : World} {B : Nat} {A : Option Addr} {sz : Nat} : Rd w B A sz [] := fun h => absurd h (by simp)

theorem Rd.below {w w' : World} {B : Nat} {A : Option Addr} {sz : Nat} {cs : List (List Value)} (h : Rd w B A sz cs) (hb : Below B w w') : Rd w' B A sz cs := fun hn => by
  obtain ⟨b, off, e, hlt, hc⟩ := h hn
  exact ⟨b, off, e, hlt, fun k row j v a c => cellBelow hb hlt (hc k row j v a c)⟩

theorem Rd.more {w : World} {B B' : Nat} {A : Option Addr} {sz : Nat} {cs : List (List Value)} (h : Rd w B A sz cs) (hb : B ≤ B') : Rd w B' A sz cs := fun hn => by
  obtain ⟨b, off, e, hlt, hc⟩ := h hn
  exact ⟨b, off, e, by omega, hc⟩

theorem Rd.next {w w' : World} {B : Nat} {A : Option Addr} {sz : Nat} {cs : List (List Value)} (h : Rd w B A sz cs) (hb : Below B w w') (hB : B ≤ w'.heap.size) : Rd w' w'.heap.size A sz cs := (h.below hb).more hB

theorem Rd.take {w : World} {B : Nat} {A : Option Addr} {sz : Nat} {cs : List (List Value)} (h : Rd w B A sz cs) (n : Nat) : Rd w B A sz (cs.take n) := fun hn => by
  obtain ⟨b, off, e, hlt, hc⟩ := h (by rw [List.length_take] at hn; omega)
  refine ⟨b, off, e, hlt, fun k row j v a c => hc k row j v ?_ c⟩
  rw [List.getElem?_take] at a
  split at a
  · exact a
  · cases a

theorem Rd.drop {w : World} {B : Nat} {A : Option Addr} {sz : Nat} {cs : List (List Value)} (h : Rd w B A sz cs) (n cap : Nat) (hcap : cs.length ≤ cap) :
    Rd w B (if cap = n then A else A.map (·.add (n * sz))) sz (cs.drop n) := fun hn => by
  rw [List.length_drop] at hn
  obtain ⟨b, off, e, hlt, hc⟩ := h (by omega)
  rw [if_neg (by omega), e]
  refine ⟨b, off + n * sz, ?_, hlt, fun k row j v a c => ?_⟩
  · simp [Go.WideShapes.add_plain]
  · rw [List.getElem?_drop] at a
    have := hc (n + k) row j v a c
    rw [Nat.add_mul, ← Nat.add_assoc] at this
    exact this

theorem flatten_get {α : Type} : ∀ (cs : List (List α)) (sz : Nat), (∀ r ∈ cs, r.length = sz) → ∀ (k : Nat) (row : List α) (j : Nat) (v : α), cs[k]? = some row → row[j]? = some v → cs.flatten[k * sz + j]? = some v
  | [], _, _, k, row, j, v, h, _ => by simp at h
  | c :: cs, sz, hs, 0, row, j, v, h, hj => by
    simp only [List.getElem?_cons_zero, Option.some.injEq] at h
    subst h
    have hl : j < c.length := (List.getElem?_eq_some_iff.1 hj).1
    rw [List.flatten_cons, Nat.zero_mul, Nat.zero_add, List.getElem?_append_left hl]
    exact hj
  | c :: cs, sz, hs, k + 1, row, j, v, h, hj => by
    have hc : c.length = sz := hs c (by simp)
    rw [List.getElem?_cons_succ] at h
    have ih := flatten_get cs sz (fun r hr => hs r (by simp [hr])) k row j v h hj
    rw [List.flatten_cons, List.getElem?_append_right (by rw [hc, Nat.add_mul]; omega), hc, ← ih]
    congr 1
    rw [Nat.add_mul]; omega

/-- A block of the call's own, just laid. -/
theorem Rd.new (w : World) (cs : List (List Value)) (sz : Nat) (t : TypeId) (fz : Nat × Nat) (hs : ∀ r ∈ cs, r.length = sz) :
    Rd (w.alloc (.cells cs.flatten.toArray t fz)) (w.heap.size + 1) (some ⟨w.heap.size, 0, none⟩) sz cs := fun _ =>
  ⟨w.heap.size, 0, rfl, by omega, fun k row j v a c => by
    have := flatten_get cs sz hs k row j v a c
    rw [Nat.zero_add]
    rw [World.cell?_alloc_mark]
    simpa using this⟩

/-- 's[k:]': the address stays behind a name. -/
theorem run_from {P : Program} (t e : TypeId) (hu : P.underlying t = some (.slice e)) (sz : Nat) (hsz : ∀ W, (sizeOf e).run P W = .ok sz W) (A : Option Addr) (n c : Nat) (i : Int) (k : Nat) (hik : i = k) (hk : k ≤ n) :
    ∃ A', A' = (if c = k then A else A.map (·.add (k * sz))) ∧ ∀ W, (Instr.slice t (.slice A n c) (some (.int .i64 i)) none none).run P W = .ok (.slice A' (n - k) (c - k)) W := by
  refine ⟨_, rfl, fun W => ?_⟩
  subst hik
  have h1 : (k : Int) ≤ n := by omega
  simp [Instr.slice, run_underlying hu, Instr.sliceBounds, run_sliceBound, h1, hsz]

/-- 's[:k]'. -/
theorem run_to {P : Program} (t e : TypeId) (hu : P.underlying t = some (.slice e)) (sz : Nat) (hsz : ∀ W, (sizeOf e).run P W = .ok sz W) (A : Option Addr) (n c : Nat) (i : Int) (k : Nat) (hik : i = k) (hk : k ≤ c) :
    ∀ W, (Instr.slice t (.slice A n c) none (some (.int .i64 i)) none).run P W = .ok (.slice A k c) W := by
  intro W
  subst hik
  have h1 : (k : Int) ≤ c := by omega
  simp [Instr.slice, run_underlying hu, Instr.sliceBounds, run_sliceBound, h1, hsz]
  intro _
  cases A <;> simp [Addr.add]

/-- min and max of two ints, the answer behind a name. -/
theorem run_max {P : Program} (x y : Int) : ∃ m, m = max x y ∧ ∀ (ts : Array TypeId) (t : TypeId) (W : World), (Builtin.max_ ts t #[.int .i64 x, .int .i64 y]).run P W = .ok (.int .i64 m) W :=
  ⟨_, rfl, fun ts t W => by
    rw [run_max_int2]
    congr 2
    split <;> omega⟩
theorem run_min {P : Program} (x y : Int) : ∃ m, m = min x y ∧ ∀ (ts : Array TypeId) (t : TypeId) (W : World), (Builtin.min_ ts t #[.int .i64 x, .int .i64 y]).run P W = .ok (.int .i64 m) W :=
  ⟨_, rfl, fun ts t W => by
    rw [run_min_int2]
    congr 2
    split <;> omega⟩
end Go.Proofs.Ytbdgifngldipcaa
