/- CtlStaysCardSaid: for every string, row of frames and row of bools CtlStays answers true and leaves them as they were. No condition; the two listed tables of package utf8 are named by the program and not read. -/
import Derived.Test.YtjfgapljfbkfiaaDoorCsYW
import Derived.Test.YtjfgapljfbkfiaaDoorMgFrame
import Derived.Test.YtjfgapljfbkfiaaDoorCards
import Derived.Test.YtjfgapljfbkfiaaDoorTie
import Derived.ProofKit
import Derived.PinnedBridge
import Derived.Lay
import Derived.LaidOnce
import Derived.SevenTiedAt
namespace Go.Proofs.YtjfgapljfbkfiaaDoor
open Go.ChangeShapes Go.WideShapes Go.ChangeAt Go.RowKit
open FP (Fr)

theorem decBoolY {H : Type} {enc : TypeId × Value → H} : Dec enc Tryd.prog 4 (fun x : Bool => [.bool x]) (fun _ => True) := by
  intro w base sp held n cs x h
  obtain ⟨a, e, _⟩ := DataW.trod_bool Tryd.underlying4 h
  exact ⟨a, e, trivial⟩


set_option maxRecDepth 100000 in
theorem ctlStays_lifted (os : Os) (started : os.Started) (H : Type) (enc : TypeId × Value → H) :
    ReturnsInHanded {} Tryd.checked os 3 .any (fun w args => (Rows.ctlStaysSpec.pre enc Tryd.prog Tryd.f3 [] false w args ∧ laidMetH Tryd.prog Rows.ctlStaysRow.laid w) ∧ sizedMet enc Tryd.prog Tryd.f3 (OpenSpec.ofChange Rows.ctlStaysSpec) false w args) (Rows.ctlStaysSpec.post enc Tryd.prog Tryd.f3 false true false false) := by
  refine returnsInHanded_of_change_and (C := Tryd.checked) (X := fun w _ => laidMetH Tryd.prog Rows.ctlStaysRow.laid w) (fun _ _ _ hh h => h.of_heap hh) ownK started (by kernel_rfl) Tryd.func3
    (ChangeSpec.witness_shaped (enc := enc) (C := Tryd.checked) (os := os) (X := fun w _ => laidMetH Tryd.prog Rows.ctlStaysRow.laid w) false (World.laidAll Tryd.prog os Rows.ctlStaysRow.laid) #[.string ⟨#[]⟩, .slice none 0 0, .slice none 0 0] 8 (World.laidAll_os _ _ _)
      (World.shaped_of_ZipB (by kernel_rfl) (by kernel_rfl)) (by kernel_rfl) (by kernel_rfl) (by kernel_rfl)
      (by rw [MakeChecks.laidMetH_plain _ _ _ (by kernel_rfl)]; exact laidMet_laidAll _ (by kernel_rfl) (by kernel_rfl))) ?_
  intro W base args ds gs before hval0 hW _ _ _ _
  have hval : ∀ (j : Nat) t v, Tryd.f3.params[j]? = some t → args[j]? = some v → Value.okWide Tryd.prog W .any base t v := hval0
  have hW' := hW
  obtain ⟨p, q, hA0, hV, rfl, hfz, hnd⟩ := hW
  have hA : DataW.TrodAll enc Tryd.prog W 0 (fun _ => true) true Tryd.f3.params.toList args.toList ds p := hA0
  rw [Tryd.params3] at hA hval
  obtain ⟨v0, vs0, d0, ds0, p0, q0, hargs, rfl, rfl, h0, r0⟩ := trodAll_cons hA
  obtain ⟨v1, vs1, d1, ds1, p1, q1, rfl, rfl, rfl, h1, r1⟩ := trodAll_cons r0
  obtain ⟨v2, vs2, d2, ds2, p2, q2, rfl, rfl, rfl, h2, r2⟩ := trodAll_cons r1
  obtain ⟨rfl, rfl, rfl⟩ := trodAll_nil r2
  obtain rfl : args = #[v0, v1, v2] := by cases args; simp_all
  obtain ⟨rfl, rfl⟩ := trodVars_none hV
  obtain ⟨s, rfl, _, _, hss⟩ := Go.ChangeMaps.open_string Tryd.underlying9 (hval 0 9 v0 rfl rfl) h0
  obtain ⟨A1, n1, l, rfl, hlc, hcm, hrd, hfs⟩ := open_slices Tryd.underlying22 (sz := 5) (by kernel_rfl) (by decide) decFrame (fun _ => rfl) (hval 1 22 v1 rfl rfl) h1
  obtain ⟨A2, n2, bs, rfl, hnc, hnm, hrN, _⟩ := open_slices Tryd.underlying23 (sz := 1) (by kernel_rfl) (by decide) decBoolY (fun _ => rfl) (hval 2 23 v2 rfl rfl) h2
  refine (ctlStays_walk s l A1 n1 bs A2 n2 W hss hrd hlc hcm hfs hrN hnc hnm).mono fun e W' ⟨he, hg⟩ => ?_
  subst he
  exact ⟨_, rfl, law_post laidOut rfl hW' (by kernel_rfl) rfl Tryd.underlying4 rfl rfl hg⟩

theorem ctlStays_row_holds : Rows.CtlStaysSaid :=
  OpenClaim.holds_of_wide 3 Tryd.f3 rfl rfl rfl rfl rfl rfl rfl ⟨rfl, rfl, rfl, rfl, rfl⟩ rfl rfl rfl rfl rfl (by kernel_rfl) Tryd.func3 (by kernel_rfl)
    (of_decide_eq_true (by kernel_rfl)) (by unfold Func.isWrapper; first | (rw [if_pos (by decide +kernel)]; kernel_rfl) | (rw [if_neg (by decide +kernel)]; exact ⟨rfl, rfl⟩))
    (fun os started H enc _ => ctlStays_lifted os started H enc)
theorem ctlStays_holds : Rows.CtlStaysCardSaid :=
  Claim7.holds_tied_plain_at .later [] [.data, .pinned] true (true, "3885b0c70585418b0059721a50df9dca819eb9e0bc765a646e70553d31d63d5a") false ctlStays_row_holds (fun _ h => by cases h) (by kernel_rfl) (fun _ h => by cases h) ctlStays_row_tie rfl ⟨rfl, rfl⟩ (by kernel_rfl) rfl
    (fun f fn hf hfn => by
      obtain rfl : f = 3 := Option.some.inj ((show Tryd.prog.funcNamed "campanile/campanilelaw07.CtlStays" = some 3 by kernel_rfl).symm.trans hf) |>.symm
      obtain rfl : fn = Tryd.f3 := (Option.some.inj (Tryd.func3.symm.trans hfn)).symm
      exact ⟨by kernel_rfl, fun j t ht => by
        rw [Tryd.params3] at ht
        have hm : t ∈ [9, 22, 23] := by simpa using Array.mem_of_getElem? ht
        have hall : ([9, 22, 23].all fun u => !Tryd.prog.wantsStandIn u) = true := by kernel_rfl
        exact (show Tryd.prog.wantsStandIn t = false by simpa using List.all_eq_true.1 hall t hm)⟩)
    (by kernel_rfl)
#print axioms ctlStays_holds

end Go.Proofs.YtjfgapljfbkfiaaDoor
