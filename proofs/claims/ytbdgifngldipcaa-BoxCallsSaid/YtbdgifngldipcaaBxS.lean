/- What the box statements share: blocks read in a tame region; what lies while boxes are taken. -/
import Derived.Test.YtbdgifngldipcaaBxM
import Derived.Test.YtbdgifngldipcaaHpT
import Derived.Test.YtbdgifngldipcaaOrdL
namespace Go.Proofs.Ytbdgifngldipcaa
open Go.ChangeShapes Go.WideShapes Go.ChangeAt Go.RowKit
open FP (Fr)
open HP (kB at' Hp)
open OP (atF bestTo orderF)

theorem frBox_s {W : World} {B : Nat} {f : Fr} {t : TypeId} {fz : Nat × Nat} (h : W.heap[B]? = some (.cells #[.int .u32 f.id, .bool f.ext, .bool f.rem, .int .i64 f.dlc, .string f.data] t fz)) (s : InW W) :
    s.W.cell? ⟨B, 0, none⟩ = some (.int .u32 f.id) ∧ s.W.cell? ⟨B, 1, none⟩ = some (.bool f.ext) ∧ s.W.cell? ⟨B, 2, none⟩ = some (.bool f.rem) ∧ s.W.cell? ⟨B, 3, none⟩ = some (.int .i64 f.dlc) ∧ s.W.cell? ⟨B, 4, none⟩ = some (.string f.data) := by
  have h' := heap_below h s.h
  refine ⟨?_, ?_, ?_, ?_, ?_⟩ <;> simp [World.cell?, h']
theorem fr_cells {W : World} {B : Nat} {f : Fr} {t : TypeId} {fz : Nat × Nat} (h : W.heap[B]? = some (.cells #[.int .u32 f.id, .bool f.ext, .bool f.rem, .int .i64 f.dlc, .string f.data] t fz)) :
    W.cell? ⟨B, 0, none⟩ = some (.int .u32 f.id) ∧ W.cell? ⟨B, 1, none⟩ = some (.bool f.ext) ∧ W.cell? ⟨B, 2, none⟩ = some (.bool f.rem) ∧ W.cell? ⟨B, 3, none⟩ = some (.int .i64 f.dlc) ∧ W.cell? ⟨B, 4, none⟩ = some (.string f.data) := by
  refine ⟨?_, ?_, ?_, ?_, ?_⟩ <;> simp [World.cell?, h]
theorem bxBox_s {W : World} {B : Nat} {x : Bx} {t : TypeId} {fz : Nat × Nat} (h : W.heap[B]? = some (.cells #[.int .i64 x.h, .int .u32 x.f.id, .bool x.f.ext, .bool x.f.rem, .int .i64 x.f.dlc, .string x.f.data, .int .i64 x.s] t fz)) (s : InW W) :
    s.W.cell? ⟨B, 0, none⟩ = some (.int .i64 x.h) ∧ s.W.cell? ⟨B, 1, none⟩ = some (.int .u32 x.f.id) ∧ s.W.cell? ⟨B, 2, none⟩ = some (.bool x.f.ext) ∧ s.W.cell? ⟨B, 3, none⟩ = some (.bool x.f.rem) ∧ s.W.cell? ⟨B, 4, none⟩ = some (.int .i64 x.f.dlc) ∧ s.W.cell? ⟨B, 5, none⟩ = some (.string x.f.data) ∧ s.W.cell? ⟨B, 6, none⟩ = some (.int .i64 x.s) := by
  have h' := heap_below h s.h
  refine ⟨?_, ?_, ?_, ?_, ?_, ?_, ?_⟩ <;> simp [World.cell?, h']

/-- What lies when j boxes have been taken. -/
structure BoT (p : Bx → Prop) (ins : List Fr) (seq : Int) (w1 : World) (Aw : Option Addr) (j : Nat) (last : Int) (Am : Option Addr) (cm : Nat) (m bs : List Bx) (W : World) : Prop where
  box : W.heap[w1.heap.size]? = some (.cells #[.slice Am m.length cm, .int .i64 seq, .int .i64 8] 65 (0, 0))
  own : Own W (w1.heap.size + 1) 70 7 Am cm (m.map bxc)
  want : FrR W W.heap.size Aw (orderF ins)
  q : Below w1.heap.size w1 W
  t : TkP p ins seq j last m bs

theorem BoT.below {p : Bx → Prop} {ins : List Fr} {seq : Int} {w1 : World} {Aw : Option Addr} {j : Nat} {last : Int} {Am : Option Addr} {cm : Nat} {m bs : List Bx} {W W' : World} (h : BoT p ins seq w1 Aw j last Am cm m bs W) (hb : Below W.heap.size W W') : BoT p ins seq w1 Aw j last Am cm m bs W' :=
  ⟨heap_below h.box hb, h.own.grown hb, FrR.next h.want hb hb.size, below_next h.q h.q.size hb, h.t⟩
/-- The box at t5 is written whole. -/
theorem BoT.put {p : Bx → Prop} {ins : List Fr} {seq : Int} {w1 : World} {Aw : Option Addr} {j j' : Nat} {last last' : Int} {Am Am' : Option Addr} {cm cm' : Nat} {m m' bs bs' : List Bx} {W W' : World} (h : BoT p ins seq w1 Aw j last Am cm m bs W)
    (ho : Own W (w1.heap.size + 1) 70 7 Am' cm' (m'.map bxc)) (ht : TkP p ins seq j' last' m' bs') (hw : ∀ g off, Aw = some ⟨g, off, none⟩ → g ≠ w1.heap.size) (e : W' = W.setCells w1.heap.size 0 [.slice Am' m'.length cm', .int .i64 seq, .int .i64 8]) :
    BoT p ins seq w1 Aw j' last' Am' cm' m' bs' W' := by
  subst e
  refine ⟨whole_heap [.slice Am' m'.length cm', .int .i64 seq, .int .i64 8] (xs := [_, _, _]) h.box rfl, own_setCells (by omega) _ 0 _ ho, rd_setCells hw _ 0 _ h.want, h.q.trans (below_setCells _ 0 _ (Nat.le_refl _)), ht⟩
theorem three_free {W : World} {B : Nat} {a b c : Value} {t : TypeId} (h : W.heap[B]? = some (.cells #[a, b, c] t (0, 0))) : W.there B 0 3 := there_heap (cs := [a, b, c]) h
end Go.Proofs.Ytbdgifngldipcaa
