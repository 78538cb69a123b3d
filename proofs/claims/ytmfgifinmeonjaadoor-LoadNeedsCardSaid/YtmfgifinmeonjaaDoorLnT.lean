/- LoadNeedsCardSaid: for every frame, truth, int, row of loads and two ints LoadNeeds answers true and leaves its arguments as they were. No condition; the two listed tables of package utf8 are named by the program and not read. -/
import Derived.Test.YtmfgifinmeonjaaDoorLnB
import Derived.Test.YtmfgifinmeonjaaDoorFrDec
import Derived.Test.YtmfgifinmeonjaaDoorLoadDec
import Derived.Test.YtmfgifinmeonjaaDoorCards
import Derived.Test.YtmfgifinmeonjaaDoorTie
import Derived.ProofKit
import Derived.PinnedBridge
import Derived.Lay
import Derived.LaidOnce
import Derived.SevenTiedAt
import Derived.ChangeMaps5
namespace Go.Proofs.YtmfgifinmeonjaaDoor
open Go.ChangeShapes Go.WideShapes Go.ChangeAt Go.RowKit
open FP (Fr)
open LP (Ld okB rightB mx ah needF lateF)


set_option maxRecDepth 100000 in
theorem loadNeeds_lifted (os : Os) (started : os.Started) (H : Type) (enc : TypeId × Value → H) :
    ReturnsInHanded {} Tryd.checked os 5 .any (fun w args => (Rows.loadNeedsSpec.pre enc Tryd.prog Tryd.f5 [] false w args ∧ laidMetH Tryd.prog Rows.loadNeedsRow.laid w) ∧ sizedMet enc Tryd.prog Tryd.f5 (OpenSpec.ofChange Rows.loadNeedsSpec) false w args) (Rows.loadNeedsSpec.post enc Tryd.prog Tryd.f5 false true false false) := by
  refine returnsInHanded_of_change_and (C := Tryd.checked) (X := fun w _ => laidMetH Tryd.prog Rows.loadNeedsRow.laid w) (fun _ _ _ hh h => h.of_heap hh) ownK started (by kernel_rfl) Tryd.func5
    (ChangeSpec.witness_shaped (enc := enc) (C := Tryd.checked) (os := os) (X := fun w _ => laidMetH Tryd.prog Rows.loadNeedsRow.laid w) false (World.laidAll Tryd.prog os Rows.loadNeedsRow.laid) #[.agg #[.int .u32 0, .bool false, .bool false, .int .i64 0, .string ⟨#[]⟩], .bool false, .int .i64 0, .slice none 0 0, .int .i64 0, .int .i64 0] 8 (World.laidAll_os _ _ _)
      (World.shaped_of_ZipB (by kernel_rfl) (by kernel_rfl)) (by kernel_rfl) (by kernel_rfl) (by kernel_rfl)
      (by rw [MakeChecks.laidMetH_plain _ _ _ (by kernel_rfl)]; exact laidMet_laidAll _ (by kernel_rfl) (by kernel_rfl))) ?_
  intro W base args ds gs before hval0 hW _ _ _ _
  have hval : ∀ (j : Nat) t v, Tryd.f5.params[j]? = some t → args[j]? = some v → Value.okWide Tryd.prog W .any base t v := hval0
  have hW' := hW
  obtain ⟨p, q, hA0, hV, rfl, hfz, hnd⟩ := hW
  have hA : DataW.TrodAll enc Tryd.prog W 0 (fun _ => true) true Tryd.f5.params.toList args.toList ds p := hA0
  rw [Tryd.params5] at hA hval
  obtain ⟨v0, vs0, d0, ds0, p0, q0, hargs, rfl, rfl, h0, r0⟩ := trodAll_cons hA
  obtain ⟨v1, vs1, d1, ds1, p1, q1, rfl, rfl, rfl, h1, r1⟩ := trodAll_cons r0
  obtain ⟨v2, vs2, d2, ds2, p2, q2, rfl, rfl, rfl, h2, r2⟩ := trodAll_cons r1
  obtain ⟨v3, vs3, d3, ds3, p3, q3, rfl, rfl, rfl, h3, r3⟩ := trodAll_cons r2
  obtain ⟨v4, vs4, d4, ds4, p4, q4, rfl, rfl, rfl, h4, r4⟩ := trodAll_cons r3
  obtain ⟨v5, vs5, d5, ds5, p5, q5, rfl, rfl, rfl, h5, r5⟩ := trodAll_cons r4
  obtain ⟨rfl, rfl, rfl⟩ := trodAll_nil r5
  obtain rfl : args = #[v0, v1, v2, v3, v4, v5] := by cases args; simp_all
  obtain ⟨rfl, rfl⟩ := trodVars_none hV
  obtain ⟨f, rfl, hfid, hfs⟩ := open_struct Tryd.underlying24 decFrame (hval 0 24 v0 rfl rfl) h0
  obtain ⟨e, rfl, _, _⟩ := open_bool Tryd.underlying4 (hval 1 4 v1 rfl rfl) h1
  obtain ⟨b, rfl, _, _, _⟩ := open_int Tryd.underlying3 (hval 2 3 v2 rfl rfl) h2
  obtain ⟨A, c, l, rfl, hlc, hcm, hrd, _⟩ := open_slices Tryd.underlying35 (sz := 2) (by kernel_rfl) (by decide) decLoad (fun _ => rfl) (hval 3 35 v3 rfl rfl) h3
  obtain ⟨i, rfl, _, _, _⟩ := open_int Tryd.underlying3 (hval 4 3 v4 rfl rfl) h4
  obtain ⟨t, rfl, _, _, _⟩ := open_int Tryd.underlying3 (hval 5 3 v5 rfl rfl) h5
  refine (loadNeeds_walk f e b l A c i t W hfid hfs hrd hlc hcm).mono fun e W' ⟨he, hg⟩ => ?_
  subst he
  exact ⟨_, rfl, law_post laidOut rfl hW' (by kernel_rfl) rfl Tryd.underlying4 rfl rfl hg⟩

theorem loadNeeds_row_holds : Rows.LoadNeedsSaid :=
  OpenClaim.holds_of_wide 5 Tryd.f5 rfl rfl rfl rfl rfl rfl rfl ⟨rfl, rfl, rfl, rfl, rfl⟩ rfl rfl rfl rfl rfl (by kernel_rfl) Tryd.func5 (by kernel_rfl)
    (of_decide_eq_true (by kernel_rfl)) (by unfold Func.isWrapper; first | (rw [if_pos (by decide +kernel)]; kernel_rfl) | (rw [if_neg (by decide +kernel)]; exact ⟨rfl, rfl⟩))
    (fun os started H enc _ => loadNeeds_lifted os started H enc)
theorem loadNeeds_holds : Rows.LoadNeedsCardSaid :=
  Claim7.holds_tied_plain_at .later [] [.data, .pinned] true (true, "f3411a2ec3917b0eac5c21af7e46ae930f455f6ca1aeb3f0d97c0b4cd74c3d45") false loadNeeds_row_holds (fun _ h => by cases h) (by kernel_rfl) (fun _ h => by cases h) loadNeeds_row_tie rfl ⟨rfl, rfl⟩ (by kernel_rfl) rfl
    (fun f fn hf hfn => by
      obtain rfl : f = 5 := Option.some.inj ((show Tryd.prog.funcNamed "campanile/campanilelaw22.LoadNeeds" = some 5 by kernel_rfl).symm.trans hf) |>.symm
      obtain rfl : fn = Tryd.f5 := (Option.some.inj (Tryd.func5.symm.trans hfn)).symm
      exact ⟨by kernel_rfl, fun j t ht => by
        rw [Tryd.params5] at ht
        have hm : t ∈ [24, 4, 3, 35, 3] := by simpa using Array.mem_of_getElem? ht
        have hall : ([24, 4, 3, 35, 3].all fun u => !Tryd.prog.wantsStandIn u) = true := by kernel_rfl
        exact (show Tryd.prog.wantsStandIn t = false by simpa using List.all_eq_true.1 hall t hm)⟩)
    (by kernel_rfl)
#print axioms loadNeeds_holds

end Go.Proofs.YtmfgifinmeonjaaDoor
