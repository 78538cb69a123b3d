/- The reference's Ahead of boxes. -/
import Derived.Test.YtbdgifngldipcaaBxA
namespace Go.Proofs.Ytbdgifngldipcaa
open Go.ChangeShapes Go.WideShapes Go.ChangeAt Go.RowKit
open FP (Fr)

set_option maxRecDepth 100000 in
set_option maxHeartbeats 2000000 in
theorem ahead9_any (x y : Bx) (w : World) (hx : FP.rightB x.f = true) (hy : FP.rightB y.f = true) :
    Calls Try.prog 74 #[.agg #[.int .i64 x.h, .int .u32 x.f.id, .bool x.f.ext, .bool x.f.rem, .int .i64 x.f.dlc, .string x.f.data, .int .i64 x.s], .agg #[.int .i64 y.h, .int .u32 y.f.id, .bool y.f.ext, .bool y.f.rem, .int .i64 y.f.dlc, .string y.f.data, .int .i64 y.s]] w fun e w' => e = .returned (.bool (aheadB x y)) ∧ Below w.heap.size w w' := by
  have L1 := hide (fun W => refLess_any x.f y.f W hx hy)
  have L2 := hide (fun W => refLess_any y.f x.f W hy hx)
  have q0 : Below w.heap.size w ((w.alloc (.cells #[.int .i64 x.h, .int .u32 x.f.id, .bool x.f.ext, .bool x.f.rem, .int .i64 x.f.dlc, .string x.f.data, .int .i64 x.s] 70)).alloc (.cells #[.int .i64 y.h, .int .u32 y.f.id, .bool y.f.ext, .bool y.f.rem, .int .i64 y.f.dlc, .string y.f.data, .int .i64 y.s] 70)) := ((Below.refl _ _).alloc (Nat.le_refl _) _).alloc (by simp) _
  have hA : aheadB x y = (lessB x.f y.f || (!lessB y.f x.f && decide (x.s < y.s))) := rfl
  rw [hA]
  obtain ⟨h, ⟨id, ext, rem, dlc, data⟩, s⟩ := x
  obtain ⟨h', ⟨id', ext', rem', dlc', data'⟩, s'⟩ := y
  dsimp only at *
  generalize lessB ⟨id, ext, rem, dlc, data⟩ ⟨id', ext', rem', dlc', data'⟩ = B1 at *
  generalize lessB ⟨id', ext', rem', dlc', data'⟩ ⟨id, ext, rem, dlc, data⟩ = B2 at *
  clear hA hx hy
  cases B1
  · cases B2
    · go_enter Try.func74, Try.ntmps74
      go_wp2_with fail
      (with_reducible refine (L1.out _).mono ?_)
      rintro e1 w1 ⟨rfl, q1⟩
      have q1' := below_next q0 q0.size q1
      obtain ⟨hc, hz1⟩ := bcell q1
      have z0 : w.heap.size < w1.heap.size := by simp at hz1; omega
      have z1 : w.heap.size + 1 < w1.heap.size := by simp at hz1; omega
      go_wp2_with fail
      (with_reducible refine (L2.out _).mono ?_)
      rintro e2 w2 ⟨rfl, q2⟩
      have q2' := below_next q1' q1'.size q2
      obtain ⟨hc2, hz2⟩ := bcell q2
      go_wp2
      all_goals
        go_ret
        exact ⟨rfl, q2'⟩
    · go_enter Try.func74, Try.ntmps74
      go_wp2_with fail
      (with_reducible refine (L1.out _).mono ?_)
      rintro e1 w1 ⟨rfl, q1⟩
      have q1' := below_next q0 q0.size q1
      obtain ⟨hc, hz1⟩ := bcell q1
      have z0 : w.heap.size < w1.heap.size := by simp at hz1; omega
      have z1 : w.heap.size + 1 < w1.heap.size := by simp at hz1; omega
      go_wp2_with fail
      (with_reducible refine (L2.out _).mono ?_)
      rintro e2 w2 ⟨rfl, q2⟩
      have q2' := below_next q1' q1'.size q2
      go_wp2
      go_ret
      exact ⟨rfl, q2'⟩
  · go_enter Try.func74, Try.ntmps74
    go_wp2_with fail
    (with_reducible refine (L1.out _).mono ?_)
    rintro e1 w1 ⟨rfl, q1⟩
    have q1' := below_next q0 q0.size q1
    go_wp2
    go_ret
    exact ⟨rfl, q1'⟩
end Go.Proofs.Ytbdgifngldipcaa
