/- Layouts and rows of ints, bools that came in. -/
import Derived.Test.YtplpnnjjjfcibaaPdG
import Derived.Test.YtplpnnjjjfcibaaFrame
namespace Go.Proofs.Ytplpnnjjjfcibaa
open Go.ChangeShapes Go.WideShapes Go.ChangeAt Go.RowKit Go.Deep
open SG PD

set_option maxRecDepth 100000 in
theorem decSg {H : Type} {enc : TypeId × Value → H} : Dec enc Try.prog 36 sgc (fun _ => True) := by
  intro w base sp held n cs x h
  obtain ⟨m, hl, hf⟩ := trod_fields Try.underlying36 (by kernel_rfl) (by kernel_rfl) h
  match cs, hl with
  | [c0, c1, c2, c3], _ =>
    obtain ⟨_, h0⟩ := hf 0 _ c0 rfl rfl
    obtain ⟨_, h1⟩ := hf 1 _ c1 rfl rfl
    obtain ⟨_, h2⟩ := hf 2 _ c2 rfl rfl
    obtain ⟨_, h3⟩ := hf 3 _ c3 rfl rfl
    obtain ⟨a, e0, _⟩ := DataW.trod_int Try.underlying3 h0
    obtain ⟨b, e1, _⟩ := DataW.trod_int Try.underlying3 h1
    obtain ⟨c, e2, _⟩ := DataW.trod_bool Try.underlying4 h2
    obtain ⟨d, e3, _⟩ := DataW.trod_bool Try.underlying4 h3
    simp only [List.cons.injEq, and_true] at e0 e1 e2 e3
    subst e0 e1 e2 e3
    exact ⟨⟨a, b, c, d⟩, rfl, trivial⟩
theorem decInt {H : Type} {enc : TypeId × Value → H} : Dec enc Try.prog 3 (fun x : Int => [.int .i64 x]) (fun _ => True) := by
  intro w base sp held n cs x h
  obtain ⟨a, e, _⟩ := DataW.trod_int Try.underlying3 h
  exact ⟨a, e, trivial⟩
theorem decInt64 {H : Type} {enc : TypeId × Value → H} : Dec enc Try.prog 2 (fun x : Int => [.int .i64 x]) (fun x => -9223372036854775808 ≤ x ∧ x < 9223372036854775808) := by
  intro w base sp held n cs x h
  obtain ⟨a, e, _, wa⟩ := DataW.trod_int Try.underlying2 h
  have hb : -9223372036854775808 ≤ a ∧ a ≤ 9223372036854775807 := by simpa [Lit.wf, IntKind.min, IntKind.max, IntKind.bits, IntKind.signed] using wa
  exact ⟨a, e, by omega⟩

set_option maxRecDepth 100000 in
theorem open_layout {H : Type} {enc : TypeId × Value → H} {w W : World} {r : Reach} {b0 base : Nat} {sp : Nat → Bool} {held : Bool} {v : Value} {d : DataW H} {p : List MemPlace} (hv : Value.okWide Try.prog W r b0 25 v) (h : DataW.Trod enc Try.prog w base sp held 25 v d p) :
    ∃ (L : Ly) (A : Option Addr) (c : Nat) (B : Option Addr) (d : Nat), v = .agg (lyV L A c B d) ∧ L.sgs.length ≤ c ∧ L.nws.length ≤ d ∧ SgR w w.heap.size A L.sgs ∧ InR w w.heap.size B L.nws := by
  obtain ⟨cs, rfl, _⟩ := okWide_struct Try.underlying25 hv
  obtain ⟨fuel, hf⟩ := h
  obtain ⟨m, hl, hf⟩ := trod_fields Try.underlying25 (by kernel_rfl) (by kernel_rfl) hf
  obtain ⟨cs⟩ := cs
  simp only [Value.cells] at hl hf
  match cs, hl with
  | [c0, c1, c2], _ =>
    obtain ⟨_, h0⟩ := hf 0 _ c0 rfl rfl
    obtain ⟨_, h1⟩ := hf 1 _ c1 rfl rfl
    obtain ⟨_, h2⟩ := hf 2 _ c2 rfl rfl
    obtain ⟨a, e0, _⟩ := DataW.trod_int Try.underlying3 h0
    obtain ⟨A, c, l, e1, hlc, _, hrd, _⟩ := open_rows Try.underlying22 (sz := 4) (by kernel_rfl) (by decide) decSg (fun _ => rfl) h1
    obtain ⟨B, d, l2, e2, hld, _, hrd2, _⟩ := open_rows Try.underlying23 (sz := 1) (by kernel_rfl) (by decide) decInt (fun _ => rfl) h2
    simp only [List.cons.injEq, and_true] at e0 e1 e2
    subst e0 e1 e2
    exact ⟨⟨a, l, l2⟩, A, c, B, d, rfl, hlc, hld, hrd, hrd2⟩
end Go.Proofs.Ytplpnnjjjfcibaa
