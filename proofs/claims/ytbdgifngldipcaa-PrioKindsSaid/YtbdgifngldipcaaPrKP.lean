/- PrioKindsSaid: for all three numbers PrioKinds answers true. No condition. -/
import Derived.Test.YtbdgifngldipcaaPrK
import Derived.Test.YtbdgifngldipcaaFrDec
namespace Go.Proofs.Ytbdgifngldipcaa
open Go.ChangeShapes Go.WideShapes Go.ChangeAt Go.RowKit

theorem u32_pos {n : Int} (h : (Lit.int .u32 n).wf = true) : 0 ≤ n := by
  have : 0 ≤ n ∧ n ≤ 4294967295 := by simpa [Lit.wf, IntKind.min, IntKind.max, IntKind.bits, IntKind.signed] using h
  omega

theorem prioKinds_any (id other low : Int) (h0 : 0 ≤ id) (h1 : 0 ≤ other) (h2 : 0 ≤ low) (w : World) :
    Calls Try.prog 7 #[.int .u32 id, .int .u32 other, .int .u32 low] w fun e w' => e = .returned (.bool true) ∧ Below w.heap.size w w' := by
  obtain ⟨n, rfl⟩ := Int.eq_ofNat_of_zero_le h0
  obtain ⟨m, rfl⟩ := Int.eq_ofNat_of_zero_le h1
  obtain ⟨k, rfl⟩ := Int.eq_ofNat_of_zero_le h2
  exact prioKinds_walk (n % 2048) (m % 2048) (k % 262144) _ rfl _ _ _ h0 h1 h2 rfl rfl rfl (by omega) (by omega) (by omega) w


set_option maxRecDepth 100000 in
theorem prioKinds_lifted (os : Os) (started : os.Started) (H : Type) (enc : TypeId × Value → H) :
    ReturnsInHanded {} Try.checked os 7 .any (Rows.prioKindsSpec.pre6 enc Try.prog Try.f7 Rows.prioKindsRow.domain false) (Rows.prioKindsSpec.post enc Try.prog Try.f7 false true false false) := by
  refine returnsInHanded_of_change (C := Try.checked) ownK started (by kernel_rfl) Try.func7
    (ChangeSpec.witness6 (enc := enc) (C := Try.checked) false ⟨#[], #[.int .u32 0, .int .u32 0, .int .u32 0], []⟩ 8 (by kernel_rfl) (by kernel_rfl) (by kernel_rfl) (by kernel_rfl)) ?_
  intro W base args ds gs before hval0 hW hcnd _
  have hval : ∀ (j : Nat) t v, Try.f7.params[j]? = some t → args[j]? = some v → Value.okWide Try.prog W .any base t v := hval0
  have hW' := hW
  obtain ⟨p, q, hA0, hV, rfl, hfz, hnd⟩ := hW
  have hA : DataW.TrodAll enc Try.prog W 0 (fun _ => true) true Try.f7.params.toList args.toList ds p := hA0
  rw [Try.params7] at hA hval
  obtain ⟨v0, vs0, d0, ds0, p0, q0, hargs, rfl, rfl, h0, r0⟩ := trodAll_cons hA
  obtain ⟨v1, vs1, d1, ds1, p1, q1, rfl, rfl, rfl, h1, r1⟩ := trodAll_cons r0
  obtain ⟨v2, vs2, d2, ds2, p2, q2, rfl, rfl, rfl, h2, r2⟩ := trodAll_cons r1
  obtain ⟨rfl, rfl, rfl⟩ := trodAll_nil r2
  obtain rfl : args = #[v0, v1, v2] := by cases args; simp_all
  obtain ⟨rfl, rfl⟩ := trodVars_none hV
  obtain ⟨a0, rfl, _, _, x0⟩ := open_int Try.underlying37 (hval 0 37 v0 rfl rfl) h0
  obtain ⟨a1, rfl, _, _, x1⟩ := open_int Try.underlying37 (hval 1 37 v1 rfl rfl) h1
  obtain ⟨a2, rfl, _, _, x2⟩ := open_int Try.underlying37 (hval 2 37 v2 rfl rfl) h2
  refine (prioKinds_any a0 a1 a2 (u32_pos x0) (u32_pos x1) (u32_pos x2) W).mono fun e W' ⟨he, hg⟩ => ?_
  subst he
  exact ⟨_, rfl, law_post laidOut rfl hW' (by kernel_rfl) rfl Try.underlying4 rfl rfl hg⟩

theorem prioKinds_holds : Rows.PrioKindsSaid :=
  OpenClaim.holds_of_wide 7 Try.f7 rfl rfl rfl rfl rfl rfl rfl ⟨rfl, rfl, rfl, rfl, rfl⟩ rfl rfl rfl rfl rfl (by kernel_rfl) Try.func7 (by kernel_rfl)
    (of_decide_eq_true (by kernel_rfl)) (by unfold Func.isWrapper; first | (rw [if_pos (by decide +kernel)]; kernel_rfl) | (rw [if_neg (by decide +kernel)]; exact ⟨rfl, rfl⟩))
    (fun os started H enc _ => prioKinds_lifted os started H enc)
#print axioms prioKinds_holds

end Go.Proofs.Ytbdgifngldipcaa
