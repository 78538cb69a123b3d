/- strings.Repeat of one byte. -/
import Derived.Test.YtplpnnjjjfcibaaMem
import Derived.Test.YtplpnnjjjfcibaaRpl
namespace Go.Proofs.Ytplpnnjjjfcibaa
open Go.ChangeShapes Go.WideShapes Go.ChangeAt Go.RowKit

theorem repeat_one (c : UInt8) (n : Nat) : Lib.repeatL [c] n = List.replicate n c := by
  induction n with
  | zero => rfl
  | succ n ih => rw [Lib.repeatL, ih, List.replicate_succ]; rfl

theorem repeat_any (c : UInt8) (n : Nat) (w : World) (hn : n ≤ 1000) :
    Calls Try.prog 37 #[.string ⟨#[c]⟩, .int .i64 n] w fun e w' => e = .returned (.string ⟨(List.replicate n c).toArray⟩) ∧ Below w.heap.size w w' := by
  have h := Any.strings_Repeat Try.lays105 Try.Builder_Extra_105 ⟨#[c]⟩ n w (by omega) (by show 1 * n ≤ 140737488355328; omega)
  have e : Lib.repeatL (⟨#[c]⟩ : ByteArray).data.toList n = List.replicate n c := repeat_one c n
  rw [e] at h
  exact h
end Go.Proofs.Ytplpnnjjjfcibaa
