/- A set of ints: map[int]bool, of which the true ones count. -/
import Derived.Test.YtkfedgjepiljiaaDoorMgMem
import Derived.Maps.OwnOps
import Derived.Maps.OwnSet
namespace Go.Proofs.YtkfedgjepiljiaaDoor
open Go.ChangeShapes Go.WideShapes Go.ChangeAt Go.RowKit Go.Maps

def MSet (W : World) (b n : Nat) (s : Int → Bool) : Prop :=
  ∃ D : DataW Unit, W.ownsMap Tryd.prog 3 (plainElem Tryd.prog 4) b n D ∧ ∀ x : Int, D.atKey (.int .i64 x) (.lit (.bool false)) = .lit (.bool (s x))

theorem MSet.made (w : World) : MSet (w.alloc (.map #[] 0)) w.heap.size 0 (fun _ => false) := ⟨_, World.ownsMap_made w _ _ _, fun _ => rfl⟩
theorem MSet.lt {W : World} {b n : Nat} {s : Int → Bool} (h : MSet W b n s) : b < W.heap.size := by obtain ⟨D, h, _⟩ := h; exact h.lt
theorem MSet.below {W W' : World} {b n : Nat} {s : Int → Bool} (h : MSet W b n s) (hb : Below W.heap.size W W') : MSet W' b n s := by
  obtain ⟨D, h, hs⟩ := h
  exact ⟨D, h.kept (row := none) ⟨hb.os, hb.tape, hb.output, hb.size, fun k hk _ => hb.block k hk⟩ (by simp), hs⟩

theorem i64_wf {x : Int} (h0 : 0 ≤ x) (h1 : x ≤ 1000000) : (Lit.int .i64 x).wf = true := by
  simp [Lit.wf, IntKind.min, IntKind.max, IntKind.bits, IntKind.signed]
  omega

set_option maxRecDepth 100000 in
theorem MSet.get {W : World} {b n : Nat} {s : Int → Bool} (h : MSet W b n s) (x : Int) (hx : (Lit.int .i64 x).wf = true) : (Instr.lookup 50 (.map (some b)) (.int .i64 x) false).run Tryd.prog W = .ok (.bool (s x)) W := by
  obtain ⟨D, h, hs⟩ := h
  obtain ⟨v, ps, hr, hv⟩ := h.lookup (int_keyed Tryd.underlying3) Tryd.underlying50 (z := .bool false) (by kernel_rfl) (zd := .lit (.bool false)) (zp := []) (plainElem_bool Tryd.underlying4 false) (keyOf_int_mk Tryd.underlying3 hx)
  rw [hs x] at hv
  rw [hr]
  congr 1
  unfold plainElem at hv
  rw [Tryd.underlying4] at hv
  cases v <;> simp at hv
  rw [hv.1]

theorem MSet.put {W : World} {b n : Nat} {s : Int → Bool} (h : MSet W b n s) (hn : n < maxLen) (x : Int) (hx : (Lit.int .i64 x).wf = true) (v : Bool) :
    ∃ W', (Instr.mapUpdate 50 (.map (some b)) (.int .i64 x) (.bool v)).run Tryd.prog W = .ok () W' ∧ MSet W' b (n + 1) (fun y => if y = x then v else s y) ∧ W.grownBy W' (some b) := by
  obtain ⟨D, h, hs⟩ := h
  obtain ⟨W', hr, h', hg⟩ := h.update (int_keyed Tryd.underlying3) Tryd.underlying50 hn (keyOf_int_mk Tryd.underlying3 hx) (plainElem_bool Tryd.underlying4 v)
  refine ⟨W', hr, ⟨_, h', fun y => ?_⟩, hg⟩
  by_cases hy : y = x
  · subst hy
    show _ = DataW.lit (Lit.bool (if y = y then v else s y))
    rw [if_pos rfl]
    exact atKey_put_same h.isMap (by first | trivial | exact .int _ _ | simp [WideAt.IsKeyLit]) _ _
  · show _ = DataW.lit (Lit.bool (if y = x then v else s y))
    rw [if_neg hy, atKey_put_other (by simp [hy])]
    exact hs y
end Go.Proofs.YtkfedgjepiljiaaDoor
