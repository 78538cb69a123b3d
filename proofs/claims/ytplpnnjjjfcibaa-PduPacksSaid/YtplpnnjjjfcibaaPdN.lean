/- PduPacksSaid: for every layout, row of values, row of news, fill and bytes PduPacks answers true and leaves its arguments as they were. No condition. -/
import Derived.Test.YtplpnnjjjfcibaaPdM
import Derived.Test.YtplpnnjjjfcibaaPdL
namespace Go.Proofs.Ytplpnnjjjfcibaa
open Go.ChangeShapes Go.WideShapes Go.ChangeAt Go.RowKit
open SG PD


set_option maxRecDepth 100000 in
theorem pduPacks_lifted (os : Os) (started : os.Started) (H : Type) (enc : TypeId × Value → H) :
    ReturnsInHanded {} Try.checked os 5 .any (Rows.pduPacksSpec.pre6 enc Try.prog Try.f5 Rows.pduPacksRow.domain false) (Rows.pduPacksSpec.post enc Try.prog Try.f5 false true false false) := by
  refine returnsInHanded_of_change (C := Try.checked) ownK started (by kernel_rfl) Try.func5
    (ChangeSpec.witness6 (enc := enc) (C := Try.checked) false ⟨#[], #[.agg #[.int .i64 0, .slice none 0 0, .slice none 0 0], .slice none 0 0, .slice none 0 0, .int .u8 0, .string ⟨#[]⟩], []⟩ 8 (by kernel_rfl) (by kernel_rfl) (by kernel_rfl) (by kernel_rfl)) ?_
  intro W base args ds gs before hval0 hW hcnd _
  have hval : ∀ (j : Nat) t v, Try.f5.params[j]? = some t → args[j]? = some v → Value.okWide Try.prog W .any base t v := hval0
  have hW' := hW
  obtain ⟨p, q, hA0, hV, rfl, hfz, hnd⟩ := hW
  have hA : DataW.TrodAll enc Try.prog W 0 (fun _ => true) true Try.f5.params.toList args.toList ds p := hA0
  rw [Try.params5] at hA hval
  obtain ⟨v0, vs0, d0, ds0, p0, q0, hargs, rfl, rfl, h0, r0⟩ := trodAll_cons hA
  obtain ⟨v1, vs1, d1, ds1, p1, q1, rfl, rfl, rfl, h1, r1⟩ := trodAll_cons r0
  obtain ⟨v2, vs2, d2, ds2, p2, q2, rfl, rfl, rfl, h2, r2⟩ := trodAll_cons r1
  obtain ⟨v3, vs3, d3, ds3, p3, q3, rfl, rfl, rfl, h3, r3⟩ := trodAll_cons r2
  obtain ⟨v4, vs4, d4, ds4, p4, q4, rfl, rfl, rfl, h4, r4⟩ := trodAll_cons r3
  obtain ⟨rfl, rfl, rfl⟩ := trodAll_nil r4
  obtain rfl : args = #[v0, v1, v2, v3, v4] := by cases args; simp_all
  obtain ⟨rfl, rfl⟩ := trodVars_none hV
  obtain ⟨L, A, c, B, d, rfl, hlc, hld, hrA, hrB⟩ := open_layout (hval 0 25 v0 rfl rfl) h0
  obtain ⟨VA, vc, vs, rfl, hvc, hvm, hrV, hvs⟩ := open_slices Try.underlying26 (sz := 1) (by kernel_rfl) (by decide) decInt64 (fun _ => rfl) (hval 1 26 v1 rfl rfl) h1
  obtain ⟨NA, nc, nb, rfl, hnc, hnm, hrN, _⟩ := open_slices Try.underlying28 (sz := 1) (by kernel_rfl) (by decide) decBool (fun _ => rfl) (hval 2 28 v2 rfl rfl) h2
  obtain ⟨x, rfl⟩ := open_u8 (hval 3 5 v3 rfl rfl) h3
  obtain ⟨s, rfl, _, _, hss⟩ := Go.ChangeMaps.open_string Try.underlying9 (hval 4 9 v4 rfl rfl) h4
  refine (pduPacks_walk L A c B d vs nb VA vc NA nc x s W hrA hrB hrV hrN hlc hld hvc hnc hvs hss).mono fun e W' ⟨he, hg⟩ => ?_
  subst he
  exact ⟨_, rfl, law_post laidOut rfl hW' (by kernel_rfl) rfl Try.underlying4 rfl rfl hg⟩

theorem pduPacks_holds : Rows.PduPacksSaid :=
  OpenClaim.holds_of_wide 5 Try.f5 rfl rfl rfl rfl rfl rfl rfl ⟨rfl, rfl, rfl, rfl, rfl⟩ rfl rfl rfl rfl rfl (by kernel_rfl) Try.func5 (by kernel_rfl)
    (of_decide_eq_true (by kernel_rfl)) (by unfold Func.isWrapper; first | (rw [if_pos (by decide +kernel)]; kernel_rfl) | (rw [if_neg (by decide +kernel)]; exact ⟨rfl, rfl⟩))
    (fun os started H enc _ => pduPacks_lifted os started H enc)
#print axioms pduPacks_holds

end Go.Proofs.Ytplpnnjjjfcibaa
