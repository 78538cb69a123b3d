/- A frame that came in: its five cells. -/
import Derived.Test.YtkfedgjepiljiaaDoorMgFrPlain
import Derived.Test.YtkfedgjepiljiaaDoorMgPrPlain
namespace Go.Proofs.YtkfedgjepiljiaaDoor
open Go.ChangeShapes Go.WideShapes Go.ChangeAt Go.RowKit
open FP (Fr)

theorem decFrame {H : Type} {enc : TypeId × Value → H} : Dec enc Tryd.prog 24 frc (fun f => f.id < 4294967296 ∧ f.data.size ≤ maxLen) := by
  intro w base sp held n cs x h
  obtain ⟨m, hl, hf⟩ := trod_fields Tryd.underlying24 (by kernel_rfl) (by kernel_rfl) h
  match cs, hl with
  | [c0, c1, c2, c3, c4], _ =>
    obtain ⟨_, h0⟩ := hf 0 _ c0 rfl rfl
    obtain ⟨_, h1⟩ := hf 1 _ c1 rfl rfl
    obtain ⟨_, h2⟩ := hf 2 _ c2 rfl rfl
    obtain ⟨_, h3⟩ := hf 3 _ c3 rfl rfl
    obtain ⟨_, h4⟩ := hf 4 _ c4 rfl rfl
    obtain ⟨a, e0, _, wa⟩ := DataW.trod_int Tryd.underlying22 h0
    obtain ⟨b, e1, _⟩ := DataW.trod_bool Tryd.underlying4 h1
    obtain ⟨c, e2, _⟩ := DataW.trod_bool Tryd.underlying4 h2
    obtain ⟨d, e3, _⟩ := DataW.trod_int Tryd.underlying3 h3
    obtain ⟨s, e4, _, hs⟩ := DataW.trod_string Tryd.underlying9 h4
    simp only [List.cons.injEq, and_true] at e0 e1 e2 e3 e4
    subst e0 e1 e2 e3 e4
    have hb : 0 ≤ a ∧ a ≤ 4294967295 := by simpa [Lit.wf, IntKind.min, IntKind.max, IntKind.bits, IntKind.signed] using wa
    refine ⟨⟨a.toNat, b, c, d, s⟩, ?_, ?_, hs⟩
    · simp [frc, Int.toNat_of_nonneg hb.1]
    · show a.toNat < 4294967296
      omega
end Go.Proofs.YtkfedgjepiljiaaDoor
