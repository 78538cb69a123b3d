/- The map of TimerDue in memory: what each operation on it makes. -/
import Derived.Test.YtnfpbbgajabjkaaTmV
import Derived.Test.YtnfpbbgajabjkaaIMap
namespace Go.Proofs.Ytnfpbbgajabjkaa
open Go.ChangeShapes Go.WideShapes Go.ChangeAt Go.RowKit Go.Maps

/-- At block b lies a map of the call's own that reads as D. -/
def MTm (W : World) (b n : Nat) (D : DataW Unit) : Prop := W.ownsMap Try.prog 3 (plainElem Try.prog 3) b n D

theorem MTm.made (w : World) : MTm (w.alloc (.map #[] 0)) w.heap.size 0 (.map []) := World.ownsMap_made w _ _ _
theorem MTm.lt {W : World} {b n : Nat} {D : DataW Unit} (h : MTm W b n D) : b < W.heap.size := World.ownsMap.lt h
theorem MTm.grown {W W' : World} {b n : Nat} {D : DataW Unit} {row : Option Nat} (h : MTm W b n D) (hg : W.grownBy W' row) (hne : some b ≠ row) : MTm W' b n D := World.ownsMap.kept h hg hne
theorem MTm.below {W W' : World} {b n : Nat} {D : DataW Unit} (h : MTm W b n D) (hb : Below W.heap.size W W') : MTm W' b n D :=
  h.grown (row := none) ⟨hb.os, hb.tape, hb.output, hb.size, fun k hk _ => hb.block k hk⟩ (by simp)
theorem MTm.set {W : World} {b n : Nat} {D : DataW Unit} (h : MTm W b n D) {a : Addr} (ha : b ≠ a.block) (u : Value) : MTm (W.setCell a u) b n D := World.ownsMap.setCell h ha u

set_option maxRecDepth 100000 in
theorem zero_int_run (W : World) : (zeroValue 3).run Try.prog W = .ok (.int .i64 0) W := by kernel_rfl

set_option maxRecDepth 100000 in
theorem MTm.get {W : World} {b n : Nat} {D : DataW Unit} (h : MTm W b n D) (i : Int) (hi : (Lit.int .i64 i).wf = true) :
    ∃ c, (Instr.lookup 47 (.map (some b)) (.int .i64 i) true).run Try.prog W = .ok (.tuple #[.int .i64 c, .bool (Maps.has D (kI i))]) W ∧ D.atKey (kI i) (.lit (.int .i64 0)) = .lit (.int .i64 c) := by
  obtain ⟨v, ps, hr, hv⟩ := World.ownsMap.look_ok h (int_keyed Try.underlying3) Try.underlying47 (zero_int_run W) (plainElem_int Try.underlying3 (by decide)) (keyOf_int_mk Try.underlying3 hi)
  obtain ⟨c, rfl, hc, _⟩ := plainElem_int_inv Try.underlying3 hv
  exact ⟨c, hr, congrArg Prod.fst hc⟩

set_option maxRecDepth 100000 in
theorem MTm.getAt {W : World} {b n : Nat} {D : DataW Unit} (h : MTm W b n D) (i : Int) (hi : (Lit.int .i64 i).wf = true) {d : Int} (hat : ∀ z, D.atKey (kI i) z = .lit (.int .i64 d)) :
    (Instr.lookup 47 (.map (some b)) (.int .i64 i) true).run Try.prog W = .ok (.tuple #[.int .i64 d, .bool true]) W := by
  obtain ⟨c, hr, hc⟩ := h.get i hi
  rw [hat] at hc
  have hc : d = c := by simpa using hc
  rw [hr, Maps.has_true_of_atKey hat, hc]

set_option maxRecDepth 100000 in
theorem MTm.del {W : World} {b n : Nat} {D : DataW Unit} (h : MTm W b n D) (i : Int) (hi : (Lit.int .i64 i).wf = true) (ty : TypeId) :
    ∃ W', (Builtin.delete_ #[47, 3] ty #[.map (some b), .int .i64 i]).run Try.prog W = .ok (.tuple #[]) W' ∧ MTm W' b n (D.del (kI i)) ∧ W.grownBy W' (some b) := by
  obtain ⟨W', hr, h', ht⟩ := World.ownsMap.drop h (int_keyed Try.underlying3) Try.underlying47 (keyOf_int_mk Try.underlying3 hi) ty
  exact ⟨W', hr, h', ht.grown⟩

set_option maxRecDepth 100000 in
theorem MTm.put {W : World} {b n : Nat} {D : DataW Unit} (h : MTm W b n D) (hn : n < maxLen) (i d : Int) (hi : (Lit.int .i64 i).wf = true) (hd : (Lit.int .i64 d).wf = true) :
    ∃ W', (Instr.mapUpdate 47 (.map (some b)) (.int .i64 i) (.int .i64 d)).run Try.prog W = .ok () W' ∧ MTm W' b (n + 1) (D.put (kI i) (.lit (.int .i64 d))) ∧ W.grownBy W' (some b) := by
  obtain ⟨W', hr, h', ht⟩ := World.ownsMap.store h (int_keyed Try.underlying3) Try.underlying47 hn (keyOf_int_mk Try.underlying3 hi) (plainElem_int Try.underlying3 hd)
  exact ⟨W', hr, h', ht.grown⟩

set_option maxRecDepth 100000 in
theorem MTm.len {W : World} {b n : Nat} {D : DataW Unit} (h : MTm W b n D) (ty : TypeId) : (Builtin.len_ #[47] ty #[.map (some b)]).run Try.prog W = .ok (.int .i64 (Maps.size D)) W :=
  World.ownsMap.len h Try.underlying47 ty
end Go.Proofs.Ytnfpbbgajabjkaa
