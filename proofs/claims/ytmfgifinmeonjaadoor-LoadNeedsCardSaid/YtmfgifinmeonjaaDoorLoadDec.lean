/- A load that came in: its two cells. -/
import Derived.Test.YtmfgifinmeonjaaDoorLoadA
import Derived.Test.YtmfgifinmeonjaaDoorFrame
namespace Go.Proofs.YtmfgifinmeonjaaDoor
open Go.ChangeShapes Go.WideShapes Go.ChangeAt Go.RowKit
open LP (Ld okB rightB mx ah needF lateF)

theorem decLoad {H : Type} {enc : TypeId × Value → H} : Dec enc Tryd.prog 59 ldc (fun _ => True) := by
  intro w base sp held n cs x h
  obtain ⟨m, hl, hf⟩ := trod_fields Tryd.underlying59 (by kernel_rfl) (by kernel_rfl) h
  match cs, hl with
  | [c0, c1], _ =>
    obtain ⟨_, h0⟩ := hf 0 _ c0 rfl rfl
    obtain ⟨_, h1⟩ := hf 1 _ c1 rfl rfl
    obtain ⟨a, e0, _⟩ := DataW.trod_int Tryd.underlying3 h0
    obtain ⟨b, e1, _⟩ := DataW.trod_int Tryd.underlying3 h1
    simp only [List.cons.injEq, and_true] at e0 e1
    subst e0
    subst e1
    exact ⟨(a, b), rfl, trivial⟩

end Go.Proofs.YtmfgifinmeonjaaDoor
