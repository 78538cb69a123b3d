/- '==' of two arrays of 64 counts. -/
import Derived.Test.YtplpnnjjjfcibaaPdB
import Derived.Laws.StructEq
namespace Go.Proofs.Ytplpnnjjjfcibaa
open Go.ChangeShapes Go.WideShapes Go.ChangeAt Go.RowKit
open SG PD

def eqA (g h : Nat → Nat) : Bool := (List.range 64).all fun p => g p == h p
theorem eqA_iff (g h : Nat → Nat) : eqA g h = true ↔ ∀ p < 64, g p = h p := by
  unfold eqA
  rw [List.all_eq_true]
  simp

theorem run_equalIn_counts {P : Program} (w : World) (D : Nat) (t e : TypeId) (ht : P.underlying t = some (.array 64 e)) (he : P.underlying e = some (.int .i64)) (hsz : ∀ w, (sizeOf e).run P w = .ok 1 w) (g h : Nat → Nat) :
    (Op.equalIn (D + 2) t (.agg (arL g).toArray) (.agg (arL h).toArray)).run P w = .ok (eqA g h) w := by
  unfold eqA
  rw [List.range_eq_range', Op.equalIn]
  simp only [Sem.run_bind, run_underlying ht, Result.andThen_ok, hsz, Std.Legacy.Range.forIn_eq_forIn_range', Std.Legacy.Range.size, Nat.sub_zero, Nat.add_sub_cancel, Nat.div_one]
  have hl : ∀ i ∈ List.range' 0 64 1, i < 64 := fun i hi => by simpa using (List.mem_range'_1.1 hi).2
  generalize List.range' 0 64 1 = l at hl ⊢
  induction l with
  | nil => simp
  | cons i l ih =>
    have hi : i < 64 := hl i (by simp)
    have pa : ∀ f : Nat → Nat, (part e (arL f).toArray (i * 1)).run P w = .ok (.int .i64 (f i : Int)) w := fun f => by
      have := arL_at f hi
      simp [part, isAgg, run_underlying he, this]
    have pe : (Op.equalIn (D + 1) e (.int .i64 (g i : Int)) (.int .i64 (h i : Int))).run P w = .ok (g i == h i) w := by
      rw [run_equalIn_int w D e .i64 .i64 _ _ he]
      congr 1
      rw [Bool.eq_iff_iff]
      simp
      omega
    simp only [List.forIn_cons, Sem.run_bind, pa, pe, Result.andThen_ok, List.all_cons]
    cases hb : (g i == h i)
    · simp
    · simp only [Bool.not_true, Bool.false_eq_true, if_false, Sem.run_pure, Result.andThen_ok, Bool.true_and]
      exact ih fun j hj => hl j (by simp [hj])
theorem run_eql_counts {P : Program} (w : World) (t e : TypeId) (ht : P.underlying t = some (.array 64 e)) (he : P.underlying e = some (.int .i64)) (hsz : ∀ w, (sizeOf e).run P w = .ok 1 w) (g h : Nat → Nat) :
    (binOp .eql t (.agg (arL g).toArray) (.agg (arL h).toArray)).run P w = .ok (.bool (eqA g h)) w := by
  rw [run_eql_struct, run_equalIn_counts w 9998 t e ht he hsz g h]
  rfl
end Go.Proofs.Ytplpnnjjjfcibaa
