/- FrameKindsSaid: for every frame FrameKinds answers true and leaves it as it was. No condition. -/
import Derived.Test.YtbdgifngldipcaaFrKinds
import Derived.Test.YtbdgifngldipcaaFrDec
namespace Go.Proofs.Ytbdgifngldipcaa
open Go.ChangeShapes Go.WideShapes Go.ChangeAt Go.RowKit
open FP (Fr)

theorem kinds_walk (f : Fr) (w : World) (hid : f.id < 4294967296) (hs : f.data.size ≤ maxLen) :
    Calls Try.prog 6 #[.agg (frc f).toArray] w fun e w' => e = .returned (.bool true) ∧ Below w.heap.size w w' := by
  rcases hr : FP.rightB (cutF f) with _ | _
  · exact kinds_no f w hid hs hr
  · rcases he : f.ext with _ | _
    · exact kinds_short f w hid hs hr he
    · exact kinds_long f w hid hs hr he


set_option maxRecDepth 100000 in
theorem frameKinds_lifted (os : Os) (started : os.Started) (H : Type) (enc : TypeId × Value → H) :
    ReturnsInHanded {} Try.checked os 6 .any (Rows.frameKindsSpec.pre6 enc Try.prog Try.f6 Rows.frameKindsRow.domain false) (Rows.frameKindsSpec.post enc Try.prog Try.f6 false true false false) := by
  refine returnsInHanded_of_change (C := Try.checked) ownK started (by kernel_rfl) Try.func6
    (ChangeSpec.witness6 (enc := enc) (C := Try.checked) false ⟨#[], #[.agg #[.int .u32 0, .bool false, .bool false, .int .i64 0, .string ⟨#[]⟩]], []⟩ 8 (by kernel_rfl) (by kernel_rfl) (by kernel_rfl) (by kernel_rfl)) ?_
  intro W base args ds gs before hval0 hW hcnd _
  have hval : ∀ (j : Nat) t v, Try.f6.params[j]? = some t → args[j]? = some v → Value.okWide Try.prog W .any base t v := hval0
  have hW' := hW
  obtain ⟨p, q, hA0, hV, rfl, hfz, hnd⟩ := hW
  have hA : DataW.TrodAll enc Try.prog W 0 (fun _ => true) true Try.f6.params.toList args.toList ds p := hA0
  rw [Try.params6] at hA hval
  obtain ⟨v0, vs0, d0, ds0, p0, q0, hargs, rfl, rfl, h0, r0⟩ := trodAll_cons hA
  obtain ⟨rfl, rfl, rfl⟩ := trodAll_nil r0
  obtain rfl : args = #[v0] := by cases args; simp_all
  obtain ⟨rfl, rfl⟩ := trodVars_none hV
  obtain ⟨f, rfl, hfid, hfs⟩ := open_struct Try.underlying39 decFrame (hval 0 39 v0 rfl rfl) h0
  refine (kinds_walk f W hfid hfs).mono fun e W' ⟨he, hg⟩ => ?_
  subst he
  exact ⟨_, rfl, law_post laidOut rfl hW' (by kernel_rfl) rfl Try.underlying4 rfl rfl hg⟩

theorem frameKinds_holds : Rows.FrameKindsSaid :=
  OpenClaim.holds_of_wide 6 Try.f6 rfl rfl rfl rfl rfl rfl rfl ⟨rfl, rfl, rfl, rfl, rfl⟩ rfl rfl rfl rfl rfl (by kernel_rfl) Try.func6 (by kernel_rfl)
    (of_decide_eq_true (by kernel_rfl)) (by unfold Func.isWrapper; first | (rw [if_pos (by decide +kernel)]; kernel_rfl) | (rw [if_neg (by decide +kernel)]; exact ⟨rfl, rfl⟩))
    (fun os started H enc _ => frameKinds_lifted os started H enc)
#print axioms frameKinds_holds

end Go.Proofs.Ytbdgifngldipcaa
