/- TopRoutedCardSaid: what is put into a router and sent as it is taken comes in order over a bus. No condition; the two listed tables of package utf8 are named by the program and not read. -/
import Derived.Test.YthkilodnghiocaaGreatDoorTrW
import Derived.Test.YthkilodnghiocaaGreatDoorCards
import Derived.Test.YthkilodnghiocaaGreatDoorTie
import Derived.ProofKit
import Derived.PinnedBridge
import Derived.Lay
import Derived.LaidOnce
import Derived.SevenTiedAt
namespace Go.Proofs.YthkilodnghiocaaGreatDoor
open Go.ChangeShapes Go.WideShapes Go.ChangeAt Go.RowKit
open FP (Fr)

set_option maxRecDepth 100000 in
theorem decStr {H : Type} {enc : TypeId × Value → H} : Dec enc Tryz.prog 9 (fun s : ByteArray => [.string s]) (fun s => s.size ≤ maxLen) := by
  intro w base sp held n cs x h
  obtain ⟨a, e, _, hw⟩ := DataW.trod_string Tryz.underlying9 h
  exact ⟨a, e, hw⟩

set_option maxRecDepth 100000 in
theorem open_u32 {H : Type} {enc : TypeId × Value → H} {W : World} {r : Reach} {b0 base : Nat} {sp : Nat → Bool} {held : Bool} {v : Value} {d : DataW H} {p : List MemPlace} (hv : Value.okWide Tryz.prog W r b0 23 v) (h : DataW.Trod enc Tryz.prog W base sp held 23 v d p) :
    ∃ x : Nat, v = .int .u32 x := by
  obtain ⟨a, rfl, _, _, xa⟩ := open_int Tryz.underlying23 hv h
  have hb : 0 ≤ a ∧ a ≤ 4294967295 := by simpa [Lit.wf, IntKind.min, IntKind.max, IntKind.bits, IntKind.signed] using xa
  refine ⟨a.toNat, ?_⟩
  congr 1
  omega


set_option maxRecDepth 100000 in
theorem topRouted_lifted (os : Os) (started : os.Started) (H : Type) (enc : TypeId × Value → H) :
    ReturnsInHanded {} Tryz.checked os 3 .any (fun w args => (Rows.topRoutedSpec.pre enc Tryz.prog Tryz.f3 [] false w args ∧ laidMetH Tryz.prog Rows.topRoutedRow.laid w) ∧ sizedMet enc Tryz.prog Tryz.f3 (OpenSpec.ofChange Rows.topRoutedSpec) false w args) (Rows.topRoutedSpec.post enc Tryz.prog Tryz.f3 false true false false) := by
  refine returnsInHanded_of_change_and (C := Tryz.checked) (X := fun w _ => laidMetH Tryz.prog Rows.topRoutedRow.laid w) (fun _ _ _ hh h => h.of_heap hh) ownK started (by kernel_rfl) Tryz.func3
    (ChangeSpec.witness_shaped (enc := enc) (C := Tryz.checked) (os := os) (X := fun w _ => laidMetH Tryz.prog Rows.topRoutedRow.laid w) false (World.laidAll Tryz.prog os Rows.topRoutedRow.laid) #[.slice none 0 0, .int .u32 0] 8 (World.laidAll_os _ _ _)
      (World.shaped_of_ZipB (by kernel_rfl) (by kernel_rfl)) (by kernel_rfl) (by kernel_rfl) (by kernel_rfl)
      (by rw [MakeChecks.laidMetH_plain _ _ _ (by kernel_rfl)]; exact laidMet_laidAll _ (by kernel_rfl) (by kernel_rfl))) ?_
  intro W base args ds gs before hval0 hW _ _ _ _
  have hval : ∀ (j : Nat) t v, Tryz.f3.params[j]? = some t → args[j]? = some v → Value.okWide Tryz.prog W .any base t v := hval0
  have hW' := hW
  obtain ⟨p, q, hA0, hV, rfl, hfz, hnd⟩ := hW
  have hA : DataW.TrodAll enc Tryz.prog W 0 (fun _ => true) true Tryz.f3.params.toList args.toList ds p := hA0
  rw [Tryz.params3] at hA hval
  obtain ⟨v0, vs0, d0, ds0, p0, q0, hargs, rfl, rfl, h0, r0⟩ := trodAll_cons hA
  obtain ⟨v1, vs1, d1, ds1, p1, q1, rfl, rfl, rfl, h1, r1⟩ := trodAll_cons r0
  obtain ⟨rfl, rfl, rfl⟩ := trodAll_nil r1
  obtain rfl : args = #[v0, v1] := by cases args; simp_all
  obtain ⟨rfl, rfl⟩ := trodVars_none hV
  obtain ⟨LA, lc, l, rfl, _, _, hr, hs⟩ := open_slices Tryz.underlying22 (sz := 1) (by kernel_rfl) (by decide) decStr (fun _ => rfl) (hval 0 22 v0 rfl rfl) h0
  obtain ⟨id, rfl⟩ := open_u32 (hval 1 23 v1 rfl rfl) h1
  refine (topRouted_walk l LA lc id W hr (fun s h => hs s h)).mono fun e W' ⟨he, hg⟩ => ?_
  subst he
  exact ⟨_, rfl, law_post laidOut rfl hW' (by kernel_rfl) rfl Tryz.underlying4 rfl rfl hg⟩

theorem topRouted_row_holds : Rows.TopRoutedSaid :=
  OpenClaim.holds_of_wide 3 Tryz.f3 rfl rfl rfl rfl rfl rfl rfl ⟨rfl, rfl, rfl, rfl, rfl⟩ rfl rfl rfl rfl rfl (by kernel_rfl) Tryz.func3 (by kernel_rfl)
    (of_decide_eq_true (by kernel_rfl)) (by unfold Func.isWrapper; first | (rw [if_pos (by decide +kernel)]; kernel_rfl) | (rw [if_neg (by decide +kernel)]; exact ⟨rfl, rfl⟩))
    (fun os started H enc _ => topRouted_lifted os started H enc)
theorem topRouted_holds : Rows.TopRoutedCardSaid :=
  Claim7.holds_tied_plain_at .later [] [.data, .pinned] true (true, "0d029196f5bae1b5d53f10aaa6a3d4dc26239f65685d1a1b02a8ca870f516626") false topRouted_row_holds (fun _ h => by cases h) (by kernel_rfl) (fun _ h => by cases h) topRouted_row_tie rfl ⟨rfl, rfl⟩ (by kernel_rfl) rfl
    (fun f fn hf hfn => by
      obtain rfl : f = 3 := Option.some.inj ((show Tryz.prog.funcNamed "campanile/campaniletop.TopRouted" = some 3 by kernel_rfl).symm.trans hf) |>.symm
      obtain rfl : fn = Tryz.f3 := (Option.some.inj (Tryz.func3.symm.trans hfn)).symm
      exact ⟨by kernel_rfl, fun j t ht => by
        rw [Tryz.params3] at ht
        have hm : t ∈ [22, 23] := by simpa using Array.mem_of_getElem? ht
        have hall : ([22, 23].all fun u => !Tryz.prog.wantsStandIn u) = true := by kernel_rfl
        exact (show Tryz.prog.wantsStandIn t = false by simpa using List.all_eq_true.1 hall t hm)⟩)
    (by kernel_rfl)
#print axioms topRouted_holds

end Go.Proofs.YthkilodnghiocaaGreatDoor
