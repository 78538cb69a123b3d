/- The walks of bits.Of and of package frame's head. -/
import Derived.Test.YtkkkhbgjnfkpaaaDoorMem
import Derived.Test.YtkkkhbgjnfkpaaaDoorFrPlain
import Derived.Laws.BytesString
namespace Go.Proofs.YtkkkhbgjnfkpaaaDoor
open Go.ChangeShapes Go.WideShapes Go.ChangeAt Go.RowKit
open FP (bit bitsOf numOf Fr)

theorem bit_val (m : Nat) (hm : m < 2 ^ 64) : ((48 : Int) + bits .and .u64 (m : Int) 1) % 256 = ((bit m).toNat : Int) := by
  rw [and_one_u64 _ (by omega) (by omega)]
  unfold bit
  split <;> simp <;> omega

set_option maxRecDepth 100000 in
set_option maxHeartbeats 400000 in
theorem bitsOf_any (n k : Nat) (w : World) (hk : k ≤ 64) (hn : n < 2 ^ k) :
    Calls Tryd.prog 99 #[.int .u64 n, .int .i64 k] w fun e w' => e = .returned (.tuple #[.string ⟨(bitsOf n k).toArray⟩, .int .i64 0]) ∧ Below w.heap.size w w' := by
  have hsh : ((n : Int) / 2 ^ k != 0) = false := by
    have : (n : Int) / 2 ^ k = 0 := by
      have h := Nat.div_eq_of_lt hn
      have : ((n / 2 ^ k : Nat) : Int) = 0 := by rw [h]; rfl
      rw [← this]; simp
    simp [this]
  have hmk := fun W => run_make_row' (P := Tryd.prog) 130 5 (.int .u8 0) 1 Tryd.underlying130 (by kernel_rfl) rfl .i64 .i64 k (by omega) (by omega) W
  have hmade := hide (World.rowIs_made w (.int .u8 0) k 5)
  have hbv := hide (fun j => bit_val (n / 2 ^ j) (Nat.lt_of_le_of_lt (Nat.div_le_self _ _) (Nat.lt_of_lt_of_le hn (Nat.pow_le_pow_right (by omega) hk))))
  clear hn
  by_cases h64 : k < 64
  all_goals
   go_enter Tryd.func99, Tryd.ntmps99
   go_wp2
   go_loopw [28] (fun i W => ∃ j : Nat, j ≤ k ∧ i = .int .i64 j ∧ Below w.heap.size w W ∧ W.rowIs w.heap.size 5 k (fun m => if m < j then .int .u8 ((bit (n / 2 ^ (k - 1 - m))).toNat : Int) else .int .u8 0) ∧ w.heap.size < W.heap.size) (fun i _ => k - (intOf i).toNat)
   case atStart => exact ⟨0, Nat.zero_le _, rfl, (Below.refl _ _).alloc (Nat.le_refl _) _, hmade.out.congr (fun i _ => by simp), by simp⟩
   case round =>
     obtain ⟨j, hj, rfl, q, hrow, z⟩ := hrel
     by_cases hlt : j < k
     · have hc := hrow.cell hlt
       have hf := hrow.frozen j
       simp only [Nat.lt_irrefl, if_false] at hc
       have HR := hide hrow
       clear hrow hmk hsh hmade
       go_wp2
       have hv := hbv.out (k - 1 - j)
       rw [show ((n / 2 ^ (k - 1 - j) : Nat) : Int) = (n : Int) / 2 ^ (k - 1 - j) by simp] at hv
       rw [hv]
       refine ⟨⟨j + 1, by omega, by go_num, q.setCell (Nat.le_refl _) _, (HR.out.set j _).congr (fun m hm => ?_), by simpa [World.setCell] using z⟩, by simp [intOf]; omega⟩
       by_cases e : m = j
       · subst e; simp
       · rw [if_neg e]
         by_cases h2 : m < j
         · rw [if_pos h2, if_pos (by omega)]
         · rw [if_neg h2, if_neg (by omega)]
     · have hjk : j = k := by omega
       have hconv := run_bytes_str (P := Tryd.prog) wr 130 9 5 Tryd.underlying130 Tryd.underlying5 Tryd.underlying9 w.heap.size k k (bitsOf n k) (FP.bitsOf_length n k).symm (fun i h => by
         rw [FP.bitsOf_length] at h
         have hg := FP.bitsOf_get n k i h
         rw [List.getElem?_eq_getElem (by rw [FP.bitsOf_length]; exact h)] at hg
         rw [hrow.cell h, if_pos (by omega), Option.some.inj hg])
       clear hrow hmk hmade hsh hjk
       go_wp2
       go_ret2
       exact ⟨rfl, q⟩


def frc (f : Fr) : List Value := [.int .u32 f.id, .bool f.ext, .bool f.rem, .int .i64 f.dlc, .string f.data]

set_option maxRecDepth 100000 in
set_option maxHeartbeats 1000000 in
theorem frRight_any (f : Fr) (w : World) (hid : f.id < 4294967296) :
    Calls Tryd.prog 22 #[.agg #[.int .u32 f.id, .bool f.ext, .bool f.rem, .int .i64 f.dlc, .string f.data]] w fun e w' => e = .returned (.bool (FP.rightB f)) ∧ Below w.heap.size w w' := by
  obtain ⟨id, ext, rem, dlc, data⟩ := f
  dsimp only at *
  cases ext <;> cases rem
  all_goals
    go_enter Tryd.func22, Tryd.ntmps22
    go_wp2
    go_quiet (fail)
    go_wp2
    all_goals
      go_ret
      refine ⟨?_, below_drewN ((Below.refl _ _).alloc (Nat.le_refl _) _) _⟩
      refine ret_bool ?_
      unfold FP.rightB
      generalize data.size = m at *
      rw [Bool.eq_iff_iff]
      simp
      try omega
end Go.Proofs.YtkkkhbgjnfkpaaaDoor
