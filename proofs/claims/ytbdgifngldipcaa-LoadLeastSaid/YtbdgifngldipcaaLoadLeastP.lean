/- LoadLeastSaid: for every row of loads and every two ints LoadLeast answers true and leaves its arguments as they were. No condition. -/
import Derived.Test.YtbdgifngldipcaaLoadLeast
import Derived.Test.YtbdgifngldipcaaLoadDec
namespace Go.Proofs.Ytbdgifngldipcaa
open Go.ChangeShapes Go.WideShapes Go.ChangeAt Go.RowKit
open LP (Ld okB rightB mx ah needF lateF)


set_option maxRecDepth 100000 in
theorem loadLeast_lifted (os : Os) (started : os.Started) (H : Type) (enc : TypeId × Value → H) :
    ReturnsInHanded {} Try.checked os 5 .any (Rows.loadLeastSpec.pre6 enc Try.prog Try.f5 Rows.loadLeastRow.domain false) (Rows.loadLeastSpec.post enc Try.prog Try.f5 false true false false) := by
  refine returnsInHanded_of_change (C := Try.checked) ownK started (by kernel_rfl) Try.func5
    (ChangeSpec.witness6 (enc := enc) (C := Try.checked) false ⟨#[], #[.slice none 0 0, .int .i64 0, .int .i64 0], []⟩ 8 (by kernel_rfl) (by kernel_rfl) (by kernel_rfl) (by kernel_rfl)) ?_
  intro W base args ds gs before hval0 hW hcnd _
  have hval : ∀ (j : Nat) t v, Try.f5.params[j]? = some t → args[j]? = some v → Value.okWide Try.prog W .any base t v := hval0
  have hW' := hW
  obtain ⟨p, q, hA0, hV, rfl, hfz, hnd⟩ := hW
  have hA : DataW.TrodAll enc Try.prog W 0 (fun _ => true) true Try.f5.params.toList args.toList ds p := hA0
  rw [Try.params5] at hA hval
  obtain ⟨v0, vs0, d0, ds0, p0, q0, hargs, rfl, rfl, h0, r0⟩ := trodAll_cons hA
  obtain ⟨v1, vs1, d1, ds1, p1, q1, rfl, rfl, rfl, h1, r1⟩ := trodAll_cons r0
  obtain ⟨v2, vs2, d2, ds2, p2, q2, rfl, rfl, rfl, h2, r2⟩ := trodAll_cons r1
  obtain ⟨rfl, rfl, rfl⟩ := trodAll_nil r2
  obtain rfl : args = #[v0, v1, v2] := by cases args; simp_all
  obtain ⟨rfl, rfl⟩ := trodVars_none hV
  obtain ⟨A, c, l, rfl, hlc, hcm, hrd, _⟩ := open_slices Try.underlying22 (sz := 2) (by kernel_rfl) (by decide) decLoad (fun _ => rfl) (hval 0 22 v0 rfl rfl) h0
  obtain ⟨i, rfl, _, _, _⟩ := open_int Try.underlying3 (hval 1 3 v1 rfl rfl) h1
  obtain ⟨f, rfl, _, _, _⟩ := open_int Try.underlying3 (hval 2 3 v2 rfl rfl) h2
  refine (loadLeast_walk l A c i f W hrd hlc hcm).mono fun e W' ⟨he, hg⟩ => ?_
  subst he
  exact ⟨_, rfl, law_post laidOut rfl hW' (by kernel_rfl) rfl Try.underlying4 rfl rfl hg⟩

theorem loadLeast_holds : Rows.LoadLeastSaid :=
  OpenClaim.holds_of_wide 5 Try.f5 rfl rfl rfl rfl rfl rfl rfl ⟨rfl, rfl, rfl, rfl, rfl⟩ rfl rfl rfl rfl rfl (by kernel_rfl) Try.func5 (by kernel_rfl)
    (of_decide_eq_true (by kernel_rfl)) (by unfold Func.isWrapper; first | (rw [if_pos (by decide +kernel)]; kernel_rfl) | (rw [if_neg (by decide +kernel)]; exact ⟨rfl, rfl⟩))
    (fun os started H enc _ => loadLeast_lifted os started H enc)
#print axioms loadLeast_holds

end Go.Proofs.Ytbdgifngldipcaa
