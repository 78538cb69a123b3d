/- ConfPartsSaid: for all that stands fast, places, nodes and frames ConfParts answers true and leaves its arguments as they were. No condition. -/
import Derived.Test.YtplpnnjjjfcibaaMgCoQ
import Derived.Test.YtplpnnjjjfcibaaCoDec
namespace Go.Proofs.Ytplpnnjjjfcibaa
open Go.ChangeShapes Go.WideShapes Go.ChangeAt Go.RowKit Go.Deep
open CM PD SG

set_option maxRecDepth 100000 in
theorem open_frame21 {H : Type} {enc : TypeId × Value → H} {w W : World} {r : Reach} {b0 base : Nat} {sp : Nat → Bool} {held : Bool} {v : Value} {d : DataW H} {p : List MemPlace} (hv : Value.okWide Try.prog W r b0 62 v) (h : DataW.Trod enc Try.prog w base sp held 62 v d p) :
    ∃ id ext rem dlc dt, v = .agg (frC id ext rem dlc dt).toArray ∧ 0 ≤ id ∧ id < 4294967296 := by
  obtain ⟨cs, rfl, _⟩ := okWide_struct Try.underlying62 hv
  obtain ⟨fuel, hf⟩ := h
  obtain ⟨m, hl, hf⟩ := trod_fields Try.underlying62 (by kernel_rfl) (by kernel_rfl) hf
  obtain ⟨cs⟩ := cs
  simp only [Value.cells] at hl hf
  match cs, hl with
  | [c0, c1, c2, c3, c4], _ =>
    obtain ⟨_, h0⟩ := hf 0 _ c0 rfl rfl
    obtain ⟨_, h1⟩ := hf 1 _ c1 rfl rfl
    obtain ⟨_, h2⟩ := hf 2 _ c2 rfl rfl
    obtain ⟨_, h3⟩ := hf 3 _ c3 rfl rfl
    obtain ⟨_, h4⟩ := hf 4 _ c4 rfl rfl
    obtain ⟨a, e0, _, wa⟩ := DataW.trod_int Try.underlying50 h0
    obtain ⟨b, e1, _⟩ := DataW.trod_bool Try.underlying4 h1
    obtain ⟨c, e2, _⟩ := DataW.trod_bool Try.underlying4 h2
    obtain ⟨d, e3, _⟩ := DataW.trod_int Try.underlying3 h3
    obtain ⟨s, e4, _, hs⟩ := DataW.trod_string Try.underlying9 h4
    simp only [List.cons.injEq, and_true] at e0 e1 e2 e3 e4
    subst e0 e1 e2 e3 e4
    have hb : 0 ≤ a ∧ a ≤ 4294967295 := by simpa [Lit.wf, IntKind.min, IntKind.max, IntKind.bits, IntKind.signed] using wa
    exact ⟨a, b, c, d, s, rfl, hb.1, by omega⟩


set_option maxRecDepth 100000 in
theorem confParts_lifted (os : Os) (started : os.Started) (H : Type) (enc : TypeId × Value → H) :
    ReturnsInHanded {} Try.checked os 9 .any (Rows.confPartsSpec.pre6 enc Try.prog Try.f9 Rows.confPartsRow.domain false) (Rows.confPartsSpec.post enc Try.prog Try.f9 false true false false) := by
  refine returnsInHanded_of_change (C := Try.checked) ownK started (by kernel_rfl) Try.func9
    (ChangeSpec.witness6 (enc := enc) (C := Try.checked) false ⟨#[], #[.agg #[.int .i64 0, .slice none 0 0, .int .u32 0, .int .i64 0, .int .i64 0, .int .i64 0, .int .i64 0, .int .i64 0], .int .i64 0, .int .i64 0, .agg #[.int .u32 0, .bool false, .bool false, .int .i64 0, .string ⟨#[]⟩]], []⟩ 8 (by kernel_rfl) (by kernel_rfl) (by kernel_rfl) (by kernel_rfl)) ?_
  intro W base args ds gs before hval0 hW hcnd _
  have hval : ∀ (j : Nat) t v, Try.f9.params[j]? = some t → args[j]? = some v → Value.okWide Try.prog W .any base t v := hval0
  have hW' := hW
  obtain ⟨p, q, hA0, hV, rfl, hfz, hnd⟩ := hW
  have hA : DataW.TrodAll enc Try.prog W 0 (fun _ => true) true Try.f9.params.toList args.toList ds p := hA0
  rw [Try.params9] at hA hval
  obtain ⟨v0, vs0, d0, ds0, p0, q0, hargs, rfl, rfl, h0, r0⟩ := trodAll_cons hA
  obtain ⟨v1, vs1, d1, ds1, p1, q1, rfl, rfl, rfl, h1, r1⟩ := trodAll_cons r0
  obtain ⟨v2, vs2, d2, ds2, p2, q2, rfl, rfl, rfl, h2, r2⟩ := trodAll_cons r1
  obtain ⟨v3, vs3, d3, ds3, p3, q3, rfl, rfl, rfl, h3, r3⟩ := trodAll_cons r2
  obtain ⟨rfl, rfl, rfl⟩ := trodAll_nil r3
  obtain rfl : args = #[v0, v1, v2, v3] := by cases args; simp_all
  obtain ⟨rfl, rfl⟩ := trodVars_none hV
  obtain ⟨c, rfl, hc, hcm⟩ := open_conf (hval 0 52 v0 rfl rfl) h0
  obtain ⟨a1, rfl, _, _, _⟩ := open_int Try.underlying3 (hval 1 3 v1 rfl rfl) h1
  obtain ⟨a2, rfl, _, _, _⟩ := open_int Try.underlying3 (hval 2 3 v2 rfl rfl) h2
  obtain ⟨id, ext, rem, dlc, dt, rfl, hid1, hid2⟩ := open_frame21 (hval 3 62 v3 rfl rfl) h3
  refine (confParts_walk c a1 a2 id ext rem dlc dt W hc hcm ⟨hid1, hid2⟩).mono fun e W' ⟨he, hg⟩ => ?_
  subst he
  exact ⟨_, rfl, law_post laidOut rfl hW' (by kernel_rfl) rfl Try.underlying4 rfl rfl hg⟩

theorem confParts_holds : Rows.ConfPartsSaid :=
  OpenClaim.holds_of_wide 9 Try.f9 rfl rfl rfl rfl rfl rfl rfl ⟨rfl, rfl, rfl, rfl, rfl⟩ rfl rfl rfl rfl rfl (by kernel_rfl) Try.func9 (by kernel_rfl)
    (of_decide_eq_true (by kernel_rfl)) (by unfold Func.isWrapper; first | (rw [if_pos (by decide +kernel)]; kernel_rfl) | (rw [if_neg (by decide +kernel)]; exact ⟨rfl, rfl⟩))
    (fun os started H enc _ => confParts_lifted os started H enc)
#print axioms confParts_holds

end Go.Proofs.Ytplpnnjjjfcibaa
