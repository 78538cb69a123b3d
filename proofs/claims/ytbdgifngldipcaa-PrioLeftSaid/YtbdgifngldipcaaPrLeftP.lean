/- PrioLeftSaid: for every row of frames PrioLeft answers true and leaves its argument as it was. No condition. -/
import Derived.Test.YtbdgifngldipcaaPrO
import Derived.Test.YtbdgifngldipcaaFrDec
namespace Go.Proofs.Ytbdgifngldipcaa
open Go.ChangeShapes Go.WideShapes Go.ChangeAt Go.RowKit
open FP (Fr)

theorem prioLeft_walk (l : List Fr) (A : Option Addr) (c : Nat) (w : World) (hr : Rd w w.heap.size A 5 (l.map frc)) (hc : l.length ≤ c) (hcm : c ≤ maxLen) (hf : ∀ f ∈ l, f.id < 4294967296 ∧ f.data.size ≤ maxLen) :
    Calls Try.prog 8 #[.slice A l.length c] w fun e w' => e = .returned (.bool true) ∧ Below w.heap.size w w' := by
  by_cases h : (cutL l).length = 0 ∨ wellB (cutL l) = false
  · exact left_bad l A c w hr hc hcm (fun f m => (hf f m).1) (fun f m => (hf f m).2) h
  · exact left_good l A c w hr hc hcm (fun f m => (hf f m).1) (fun f m => (hf f m).2) (by omega) (by cases hw : wellB (cutL l) <;> simp_all)


set_option maxRecDepth 100000 in
theorem prioLeft_lifted (os : Os) (started : os.Started) (H : Type) (enc : TypeId × Value → H) :
    ReturnsInHanded {} Try.checked os 8 .any (Rows.prioLeftSpec.pre6 enc Try.prog Try.f8 Rows.prioLeftRow.domain false) (Rows.prioLeftSpec.post enc Try.prog Try.f8 false true false false) := by
  refine returnsInHanded_of_change (C := Try.checked) ownK started (by kernel_rfl) Try.func8
    (ChangeSpec.witness6 (enc := enc) (C := Try.checked) false ⟨#[], #[.slice none 0 0], []⟩ 8 (by kernel_rfl) (by kernel_rfl) (by kernel_rfl) (by kernel_rfl)) ?_
  intro W base args ds gs before hval0 hW hcnd _
  have hval : ∀ (j : Nat) t v, Try.f8.params[j]? = some t → args[j]? = some v → Value.okWide Try.prog W .any base t v := hval0
  have hW' := hW
  obtain ⟨p, q, hA0, hV, rfl, hfz, hnd⟩ := hW
  have hA : DataW.TrodAll enc Try.prog W 0 (fun _ => true) true Try.f8.params.toList args.toList ds p := hA0
  rw [Try.params8] at hA hval
  obtain ⟨v0, vs0, d0, ds0, p0, q0, hargs, rfl, rfl, h0, r0⟩ := trodAll_cons hA
  obtain ⟨rfl, rfl, rfl⟩ := trodAll_nil r0
  obtain rfl : args = #[v0] := by cases args; simp_all
  obtain ⟨rfl, rfl⟩ := trodVars_none hV
  obtain ⟨A, c, l, rfl, hlc, hcm, hrd, hfs⟩ := open_slices Try.underlying50 (sz := 5) (by kernel_rfl) (by decide) decFrame frc_len (hval 0 50 v0 rfl rfl) h0
  refine (prioLeft_walk l A c W hrd hlc hcm hfs).mono fun e W' ⟨he, hg⟩ => ?_
  subst he
  exact ⟨_, rfl, law_post laidOut rfl hW' (by kernel_rfl) rfl Try.underlying4 rfl rfl hg⟩

theorem prioLeft_holds : Rows.PrioLeftSaid :=
  OpenClaim.holds_of_wide 8 Try.f8 rfl rfl rfl rfl rfl rfl rfl ⟨rfl, rfl, rfl, rfl, rfl⟩ rfl rfl rfl rfl rfl (by kernel_rfl) Try.func8 (by kernel_rfl)
    (of_decide_eq_true (by kernel_rfl)) (by unfold Func.isWrapper; first | (rw [if_pos (by decide +kernel)]; kernel_rfl) | (rw [if_neg (by decide +kernel)]; exact ⟨rfl, rfl⟩))
    (fun os started H enc _ => prioLeft_lifted os started H enc)
#print axioms prioLeft_holds

end Go.Proofs.Ytbdgifngldipcaa
