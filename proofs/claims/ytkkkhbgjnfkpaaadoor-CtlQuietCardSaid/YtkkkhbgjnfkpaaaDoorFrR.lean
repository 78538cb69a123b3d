/- The reference's Right of a frame. -/
import Derived.Test.YtkkkhbgjnfkpaaaDoorFrA
namespace Go.Proofs.YtkkkhbgjnfkpaaaDoor
open Go.ChangeShapes Go.WideShapes Go.ChangeAt Go.RowKit
open FP (Fr)

theorem empty_iff (s : ByteArray) : s.toList = [] ↔ s.size = 0 := by
  rw [ByteArray.toList_eq]
  have : s.data.toList.length = s.size := Array.length_toList
  rw [← this, List.length_eq_zero_iff]

set_option maxRecDepth 100000 in
set_option maxHeartbeats 1000000 in
theorem refRight04_any (f : Fr) (w : World) (hid : f.id < 4294967296) :
    Calls Tryd.prog 9 #[.agg #[.int .u32 f.id, .bool f.ext, .bool f.rem, .int .i64 f.dlc, .string f.data]] w fun e w' => e = .returned (.bool (FP.rightB f)) ∧ Below w.heap.size w w' := by
  obtain ⟨id, ext, rem, dlc, data⟩ := f
  dsimp only at *
  cases ext <;> cases rem
  all_goals
    go_enter Tryd.func9, Tryd.ntmps9
    go_wp2
    all_goals
      go_ret
      refine ⟨?_, (Below.refl _ _).alloc (Nat.le_refl _) _⟩
      refine ret_bool ?_
      have hsz := empty_iff data
      unfold FP.rightB
      generalize data.size = m at *
      rw [Bool.eq_iff_iff]
      simp at *
      try (first | omega | (simp_all; done) | (simp_all; omega))

end Go.Proofs.YtkkkhbgjnfkpaaaDoor
