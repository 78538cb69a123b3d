/- The walk of campanilelaw15.alive. -/
import Derived.Test.YtplpnnjjjfcibaaPdH
namespace Go.Proofs.Ytplpnnjjjfcibaa
open Go.ChangeShapes Go.WideShapes Go.ChangeAt Go.RowKit
open SG PD

def aliveL : Ly := ⟨1, [⟨0, 4, false, false⟩], [7]⟩
theorem alive_right : rightB aliveL = true := by decide +kernel
theorem alive_pack : packF aliveL [5] [true] 0 = [133] := by decide +kernel
theorem alive_fit : fitAll aliveL [5] := by
  intro k hk
  have : k = 0 := by unfold aliveL at hk; simp at hk; exact hk
  subst this
  decide +kernel

set_option maxRecDepth 100000 in
set_option maxHeartbeats 4000000 in
theorem alive15_any (w : World) : Calls Try.prog 12 #[] w fun e w' => e = .returned (.bool true) ∧ Below w.heap.size w w' := by
  obtain ⟨w1, hw1⟩ : ∃ w1, w1 = w.alloc (.cells #[.int .i64 0, .int .i64 4, .bool false, .bool false] 36) := ⟨_, rfl⟩
  obtain ⟨w2, hw2⟩ : ∃ w2, w2 = w1.alloc (.cells #[.int .i64 7] 3) := ⟨_, rfl⟩
  obtain ⟨w3, hw3⟩ : ∃ w3, w3 = w2.alloc (.cells #[.int .i64 5] 2) := ⟨_, rfl⟩
  obtain ⟨w4, hw4⟩ : ∃ w4, w4 = w3.alloc (.cells #[.bool true] 4) := ⟨_, rfl⟩
  have step : ∀ (W : World) (o : Obj), Below W.heap.size W (W.alloc o) := fun W o => (Below.refl _ _).alloc (Nat.le_refl _) _
  have q1 : Below w.heap.size w w1 := by rw [hw1]; exact step _ _
  have q2 : Below w1.heap.size w1 w2 := by rw [hw2]; exact step _ _
  have q3 : Below w2.heap.size w2 w3 := by rw [hw3]; exact step _ _
  have q4 : Below w3.heap.size w3 w4 := by rw [hw4]; exact step _ _
  have a1 : w1.heap[w.heap.size]? = some (.cells #[.int .i64 0, .int .i64 4, .bool false, .bool false] 36 (0, 0)) := by rw [hw1]; exact World.alloc_heap_new w _
  have a2 : w2.heap[w1.heap.size]? = some (.cells #[.int .i64 7] 3 (0, 0)) := by rw [hw2]; exact World.alloc_heap_new w1 _
  have a3 : w3.heap[w2.heap.size]? = some (.cells #[.int .i64 5] 2 (0, 0)) := by rw [hw3]; exact World.alloc_heap_new w2 _
  have a4 : w4.heap[w3.heap.size]? = some (.cells #[.bool true] 4 (0, 0)) := by rw [hw4]; exact World.alloc_heap_new w3 _
  have z1 : w1.heap.size = w.heap.size + 1 := by rw [hw1]; simp
  have z2 : w2.heap.size = w.heap.size + 1 + 1 := by rw [hw2]; simp [z1]
  have z3 : w3.heap.size = w.heap.size + 1 + 1 + 1 := by rw [hw3]; simp [z2]
  have b1 := heap_below (heap_below (heap_below a1 q2) q3) q4
  have b2 := heap_below (heap_below a2 q3) q4
  have b3 := heap_below a3 q4
  have Q4 := hide (below_next (below_next (below_next q1 q1.size q2) (below_next q1 q1.size q2).size q3) (below_next (below_next q1 q1.size q2) (below_next q1 q1.size q2).size q3).size q4)
  have PK := pack_in aliveL (some ⟨w.heap.size, 0, none⟩) 1 (some ⟨w1.heap.size, 0, none⟩) 1 [5] [true] (some ⟨w2.heap.size, 0, none⟩) 1 (some ⟨w3.heap.size, 0, none⟩) 1 0 w4 (rd_row (cs := sgc ⟨0, 4, false, false⟩) b1) (rd_row (cs := [.int .i64 7]) b2) (by decide) (by decide) (by decide) (by decide)
    (rd_row (cs := [.int .i64 5]) b3) (rd_row (cs := [.bool true]) a4) (by intro v hv; rw [List.mem_singleton.1 hv]; omega) alive_right rfl rfl (by decide) (by decide)
  have PK2 : Calls Try.prog 11 #[.agg #[.int .i64 1, .slice (some ⟨w.heap.size, 0, none⟩) 1 1, .slice (some ⟨w.heap.size + 1, 0, none⟩) 1 1], .slice (some ⟨w.heap.size + 1 + 1, 0, none⟩) 1 1, .slice (some ⟨w.heap.size + 1 + 1 + 1, 0, none⟩) 1 1, .int .u8 0] w4 fun e w' => e = .returned (.tuple #[.string ⟨#[133]⟩, .int .i64 0]) ∧ Below w4.heap.size w4 w' := by
    rw [z1, z2, z3] at PK
    refine Calls.mono PK ?_
    rintro e w' ⟨⟨_, he⟩ | ⟨hn, _⟩, q⟩
    · refine ⟨?_, q⟩
      rw [he, alive_pack]
    · exact absurd alive_fit hn
  have PKH := hide PK2
  clear PK PK2 a1 a2 a3 a4 b1 b2 b3 q1 q2 q3 q4 step z1 z2 z3
  subst hw1 hw2 hw3
  go_enter Try.func12, Try.ntmps12
  go_wp2_with fail
  rw [← hw4]
  (with_reducible refine (PKH.out).mono ?_)
  rintro e1 w5 ⟨rfl, q5⟩
  have q := below_next Q4.out Q4.out.size q5
  clear hw4 q5
  go_wp2_with fail
  go_ret
  exact ⟨rfl, q⟩
end Go.Proofs.Ytplpnnjjjfcibaa
