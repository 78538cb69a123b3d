/- A timer and timers that came in: their cells. -/
import Derived.Test.YtnfpbbgajabjkaaTmB
import Derived.Test.YtnfpbbgajabjkaaFrame
namespace Go.Proofs.Ytnfpbbgajabjkaa
open Go.ChangeShapes Go.WideShapes Go.ChangeAt Go.RowKit Go.Deep

set_option maxRecDepth 100000 in
theorem decTimer {H : Type} {enc : TypeId × Value → H} : Dec enc Try.prog 40 tmc (fun x => x.due ≤ 9223372036854775807) := by
  intro w base sp held n cs x h
  obtain ⟨m, hl, hf⟩ := trod_fields Try.underlying40 (by kernel_rfl) (by kernel_rfl) h
  match cs, hl with
  | [c0, c1], _ =>
    obtain ⟨_, h0⟩ := hf 0 _ c0 rfl rfl
    obtain ⟨_, h1⟩ := hf 1 _ c1 rfl rfl
    obtain ⟨a, e0, _⟩ := DataW.trod_int Try.underlying3 h0
    obtain ⟨b, e1, _, wb⟩ := DataW.trod_int Try.underlying3 h1
    simp only [List.cons.injEq, and_true] at e0 e1
    subst e0
    subst e1
    have hb : -9223372036854775808 ≤ b ∧ b ≤ 9223372036854775807 := by simpa [Lit.wf, IntKind.min, IntKind.max, IntKind.bits, IntKind.signed] using wb
    exact ⟨⟨a, b⟩, rfl, hb.2⟩

set_option maxRecDepth 100000 in
theorem open_timers {H : Type} {enc : TypeId × Value → H} {w W : World} {r : Reach} {b0 base : Nat} {sp : Nat → Bool} {held : Bool} {v : Value} {d : DataW H} {p : List MemPlace} (hv : Value.okWide Try.prog W r b0 24 v) (h : DataW.Trod enc Try.prog w base sp held 24 v d p) :
    ∃ (now : Int) (A : Option Addr) (c : Nat) (l : List Tm), v = .agg #[.int .i64 now, .slice A l.length c] ∧ l.length ≤ c ∧ c ≤ maxLen ∧ TmR w w.heap.size A l ∧ ∀ x ∈ l, x.due ≤ 9223372036854775807 := by
  obtain ⟨cs, rfl, _⟩ := okWide_struct Try.underlying24 hv
  obtain ⟨fuel, hf⟩ := h
  obtain ⟨m, hl, hf⟩ := trod_fields Try.underlying24 (by kernel_rfl) (by kernel_rfl) hf
  obtain ⟨cs⟩ := cs
  simp only [Value.cells] at hl hf
  match cs, hl with
  | [c0, c1], _ =>
    obtain ⟨_, h0⟩ := hf 0 _ c0 rfl rfl
    obtain ⟨_, h1⟩ := hf 1 _ c1 rfl rfl
    obtain ⟨a, e0, _⟩ := DataW.trod_int Try.underlying3 h0
    obtain ⟨A, c, l, e1, hlc, hcm, hrd, hwf⟩ := open_rows Try.underlying22 (sz := 2) (by kernel_rfl) (by decide) decTimer (fun _ => rfl) h1
    simp only [List.cons.injEq, and_true] at e0 e1
    subst e0
    subst e1
    exact ⟨a, A, c, l, rfl, hlc, hcm, hrd, hwf⟩
end Go.Proofs.Ytnfpbbgajabjkaa
