/- slices.SortStableFunc of few frames; slices.Values. -/
import Derived.Test.YtbdgifngldipcaaPsJ
namespace Go.Proofs.Ytbdgifngldipcaa
open Go.ChangeShapes Go.WideShapes Go.ChangeAt Go.RowKit
open FP (Fr)
open SP

set_option maxRecDepth 100000 in
set_option maxHeartbeats 2000000 in
theorem stable_any (l : List Fr) (A : Option Addr) (c B n : Nat) (W0 : World) (hn : l.length = n) (ho : Own W0 B 39 5 A c (l.map frc)) (hB : B ≤ W0.heap.size) (hl : n ≤ 19) (hg : ∀ f ∈ l, FP.rightB f = true) :
    Calls Try.prog 97 #[.slice A n c, .int .i64 n, .func (.func 62) #[] #[]] W0 fun e w' => e = .returned (.tuple #[]) ∧ ∃ m, stP m ∧ SrP l W0 B A c m w' := by
  have IS := hide (insSort_any l A c B n W0 hn ho hB (by omega) hg)
  have hn1 : (n : Int) ≤ 19 := by omega
  have hn2 : ¬ (20 : Int) ≤ (n : Int) := by omega
  have hn3 : ¬ (20 : Int) < (n : Int) := by omega
  clear hn ho hB hg
  go_enter Try.func97, Try.ntmps97
  go_wp2_with fail
  refine wp_loop_rounds 1 ?_
  rw [rounds_succ]
  go_wp2_with fail
  refine IS.out.mono ?_
  rintro e w' ⟨rfl, m, hs, hS⟩
  have HS := hide hS
  have HM := hide hs
  clear hS hs
  go_wp2_with fail
  refine wp_loop_rounds 1 ?_
  rw [rounds_succ]
  go_wp2_with fail
  go_end0
  exact ⟨rfl, m, HM.out, HS.out⟩

set_option maxRecDepth 100000 in
set_option maxHeartbeats 2000000 in
theorem sortStable_any (l : List Fr) (A : Option Addr) (c B n : Nat) (W0 : World) (hn : l.length = n) (ho : Own W0 B 39 5 A c (l.map frc)) (hB : B ≤ W0.heap.size) (hl : n ≤ 19) (hg : ∀ f ∈ l, FP.rightB f = true) :
    Calls Try.prog 87 #[.slice A n c, .func (.func 62) #[] #[]] W0 fun e w' => e = .returned (.tuple #[]) ∧ ∃ m, stP m ∧ SrP l W0 B A c m w' := by
  have IS := hide (stable_any l A c B n W0 hn ho hB hl hg)
  clear hn ho hB hg
  go_enter Try.func87, Try.ntmps87
  go_wp2_with fail
  refine IS.out.mono ?_
  rintro e w' ⟨rfl, m, hs, hS⟩
  have HS := hide hS
  have HM := hide hs
  clear hS hs
  go_wp2_with fail
  go_end0
  exact ⟨rfl, m, HM.out, HS.out⟩

set_option maxRecDepth 100000 in
theorem values_any (A : Option Addr) (n c : Nat) (w : World) : Calls Try.prog 61 #[.slice A n c] w fun e w' => e = .returned (.func (.func 88) #[] #[.pointer (some ⟨w.heap.size, 0, none⟩)]) ∧ w' = w.alloc (.cells #[.slice A n c] 50) := by
  go_enter Try.func61, Try.ntmps61
  go_wp2_with fail
  go_ret
  exact ⟨rfl, rfl⟩
end Go.Proofs.Ytbdgifngldipcaa
