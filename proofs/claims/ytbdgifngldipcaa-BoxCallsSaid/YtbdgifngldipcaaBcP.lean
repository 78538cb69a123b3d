/- BoxCallsSaid: for all boxes, numbers and frames BoxCalls answers true and leaves its arguments as they were. No condition. -/
import Derived.Test.YtbdgifngldipcaaBcI
import Derived.Test.YtbdgifngldipcaaFrDec
import Derived.Deep.Strs
namespace Go.Proofs.Ytbdgifngldipcaa
open Go.ChangeShapes Go.WideShapes Go.ChangeAt Go.RowKit Go.Deep
open FP (Fr)

set_option maxRecDepth 100000 in
theorem decBox {H : Type} {enc : TypeId × Value → H} : Dec enc Try.prog 70 bxc (fun x => x.f.id < 4294967296 ∧ x.f.data.size ≤ maxLen) := by
  intro w base sp held n cs x h
  obtain ⟨y0, y1, y2, m, rfl, hl, h0, h1, h2⟩ := trod_struct3 Try.underlying70 h
  have kB : Try.prog.cellsOf 70 = 7 := by kernel_rfl
  have k0 : Try.prog.cellsOf 3 = 1 := by kernel_rfl
  have kF : Try.prog.cellsOf 39 = 5 := by kernel_rfl
  rw [kB] at hl
  obtain ⟨a, e0, _⟩ := DataW.trod_int Try.underlying3 h0
  obtain ⟨f, e1, wf⟩ := decFrame _ _ _ _ _ _ _ h1
  obtain ⟨s, e2, _⟩ := DataW.trod_int Try.underlying3 h2
  match cs, hl with
  | [c0, c1, c2, c3, c4, c5, c6], _ =>
    refine ⟨⟨a, f, s⟩, ?_, wf⟩
    dsimp only at e0 e1 e2
    rw [k0] at e0 e2
    rw [kF] at e1
    obtain ⟨id, ext, rem, dlc, data⟩ := f
    simp [frc] at e0 e1 e2
    obtain ⟨rfl, rfl, rfl, rfl, rfl⟩ := e1
    subst e0 e2
    rfl

set_option maxRecDepth 100000 in
theorem open_boxes {H : Type} {enc : TypeId × Value → H} {w W : World} {r : Reach} {b0 base : Nat} {sp : Nat → Bool} {held : Bool} {v : Value} {d : DataW H} {p : List MemPlace} (hv : Value.okWide Try.prog W r b0 65 v) (h : DataW.Trod enc Try.prog w base sp held 65 v d p) :
    ∃ (A : Option Addr) (c : Nat) (l : List Bx) (seq cap : Int), v = .agg #[.slice A l.length c, .int .i64 seq, .int .i64 cap] ∧ l.length ≤ c ∧ c ≤ maxLen ∧ BxR w w.heap.size A l ∧ ∀ x ∈ l, x.f.id < 4294967296 ∧ x.f.data.size ≤ maxLen := by
  obtain ⟨cs, rfl, _⟩ := okWide_struct Try.underlying65 hv
  obtain ⟨fuel, hf⟩ := h
  obtain ⟨m, hl, hf⟩ := trod_fields Try.underlying65 (by kernel_rfl) (by kernel_rfl) hf
  obtain ⟨cs⟩ := cs
  simp only [Value.cells] at hl hf
  match cs, hl with
  | [c0, c1, c2], _ =>
    obtain ⟨_, h0⟩ := hf 0 _ c0 rfl rfl
    obtain ⟨_, h1⟩ := hf 1 _ c1 rfl rfl
    obtain ⟨_, h2⟩ := hf 2 _ c2 rfl rfl
    obtain ⟨A, c, l, e0, hlc, hcm, hrd, hwf⟩ := open_rows Try.underlying63 (sz := 7) (by kernel_rfl) (by decide) decBox (fun _ => rfl) h0
    obtain ⟨a, e1, _⟩ := DataW.trod_int Try.underlying3 h1
    obtain ⟨b, e2, _⟩ := DataW.trod_int Try.underlying3 h2
    simp only [List.cons.injEq, and_true] at e0 e1 e2
    subst e0 e1 e2
    exact ⟨A, c, l, a, b, rfl, hlc, hcm, hrd, hwf⟩


set_option maxRecDepth 100000 in
theorem boxCalls_lifted (os : Os) (started : os.Started) (H : Type) (enc : TypeId × Value → H) :
    ReturnsInHanded {} Try.checked os 12 .any (Rows.boxCallsSpec.pre6 enc Try.prog Try.f12 Rows.boxCallsRow.domain false) (Rows.boxCallsSpec.post enc Try.prog Try.f12 false true false false) := by
  refine returnsInHanded_of_change (C := Try.checked) ownK started (by kernel_rfl) Try.func12
    (ChangeSpec.witness6 (enc := enc) (C := Try.checked) false ⟨#[], #[.int .i64 0, .agg #[.slice none 0 0, .int .i64 0, .int .i64 0], .int .i64 0, .agg #[.int .u32 0, .bool false, .bool false, .int .i64 0, .string ⟨#[]⟩]], []⟩ 8 (by kernel_rfl) (by kernel_rfl) (by kernel_rfl) (by kernel_rfl)) ?_
  intro W base args ds gs before hval0 hW hcnd _
  have hval : ∀ (j : Nat) t v, Try.f12.params[j]? = some t → args[j]? = some v → Value.okWide Try.prog W .any base t v := hval0
  have hW' := hW
  obtain ⟨p, q, hA0, hV, rfl, hfz, hnd⟩ := hW
  have hA : DataW.TrodAll enc Try.prog W 0 (fun _ => true) true Try.f12.params.toList args.toList ds p := hA0
  rw [Try.params12] at hA hval
  obtain ⟨v0, vs0, d0, ds0, p0, q0, hargs, rfl, rfl, h0, r0⟩ := trodAll_cons hA
  obtain ⟨v1, vs1, d1, ds1, p1, q1, rfl, rfl, rfl, h1, r1⟩ := trodAll_cons r0
  obtain ⟨v2, vs2, d2, ds2, p2, q2, rfl, rfl, rfl, h2, r2⟩ := trodAll_cons r1
  obtain ⟨v3, vs3, d3, ds3, p3, q3, rfl, rfl, rfl, h3, r3⟩ := trodAll_cons r2
  obtain ⟨rfl, rfl, rfl⟩ := trodAll_nil r3
  obtain rfl : args = #[v0, v1, v2, v3] := by cases args; simp_all
  obtain ⟨rfl, rfl⟩ := trodVars_none hV
  obtain ⟨a0, rfl, _, _, _⟩ := open_int Try.underlying3 (hval 0 3 v0 rfl rfl) h0
  obtain ⟨A, c, l, seq, cap, rfl, hlc, hcm, hrd, hfs⟩ := open_boxes (hval 1 65 v1 rfl rfl) h1
  obtain ⟨a2, rfl, _, _, _⟩ := open_int Try.underlying3 (hval 2 3 v2 rfl rfl) h2
  obtain ⟨f, rfl, hid, hsz⟩ := open_struct Try.underlying39 decFrame (hval 3 39 v3 rfl rfl) h3
  refine (boxCalls_walk a0 l A c seq cap a2 f W hrd hlc hcm (fun x hx => (hfs x hx).2) (fun x hx => (hfs x hx).1) hid hsz).mono fun e W' ⟨he, hg⟩ => ?_
  subst he
  exact ⟨_, rfl, law_post laidOut rfl hW' (by kernel_rfl) rfl Try.underlying4 rfl rfl hg⟩

theorem boxCalls_holds : Rows.BoxCallsSaid :=
  OpenClaim.holds_of_wide 12 Try.f12 rfl rfl rfl rfl rfl rfl rfl ⟨rfl, rfl, rfl, rfl, rfl⟩ rfl rfl rfl rfl rfl (by kernel_rfl) Try.func12 (by kernel_rfl)
    (of_decide_eq_true (by kernel_rfl)) (by unfold Func.isWrapper; first | (rw [if_pos (by decide +kernel)]; kernel_rfl) | (rw [if_neg (by decide +kernel)]; exact ⟨rfl, rfl⟩))
    (fun os started H enc _ => boxCalls_lifted os started H enc)
#print axioms boxCalls_holds

end Go.Proofs.Ytbdgifngldipcaa
