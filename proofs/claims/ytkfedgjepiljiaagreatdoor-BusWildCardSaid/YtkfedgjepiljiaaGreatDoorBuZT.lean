/- BusWildCardSaid: a bus that may not be is refused in each call, and what may be does not have what its controllers do not drive. No condition; the two listed tables of package utf8 are named by the program and not read. -/
import Derived.Test.YtkfedgjepiljiaaGreatDoorBuZW
import Derived.Test.YtkfedgjepiljiaaGreatDoorCards
import Derived.Test.YtkfedgjepiljiaaGreatDoorTie
import Derived.ProofKit
import Derived.PinnedBridge
import Derived.Lay
import Derived.LaidOnce
import Derived.SevenTiedAt
namespace Go.Proofs.YtkfedgjepiljiaaGreatDoor
open Go.ChangeShapes Go.WideShapes Go.ChangeAt Go.RowKit
open FP (Fr)

set_option maxRecDepth 100000 in
theorem open_bus {H : Type} {enc : TypeId × Value → H} {w W : World} {r : Reach} {b0 base : Nat} {sp : Nat → Bool} {held : Bool} {v : Value} {d : DataW H} {p : List MemPlace} (hv : Value.okWide Tryz.prog W r b0 24 v) (h : DataW.Trod enc Tryz.prog w base sp held 24 v d p) :
    ∃ (l : List Cl) (A : Option Addr) (c : Nat) (now : Int), v = .agg (busL A l.length c now).toArray ∧ l.length ≤ c ∧ ClR w w.heap.size A l ∧ ∀ c ∈ l, c.Raw := by
  obtain ⟨cs, rfl, _⟩ := okWide_struct Tryz.underlying24 hv
  obtain ⟨fuel, hf⟩ := h
  obtain ⟨m, hl, hf⟩ := trod_fields Tryz.underlying24 (by kernel_rfl) (by kernel_rfl) hf
  obtain ⟨cs⟩ := cs
  simp only [Value.cells] at hl hf
  match cs, hl with
  | [c0, c1], _ =>
    obtain ⟨_, h0⟩ := hf 0 _ c0 rfl rfl
    obtain ⟨_, h1⟩ := hf 1 _ c1 rfl rfl
    obtain ⟨A, c, l, e1, hlc, _, hrd, hw⟩ := open_rows Tryz.underlying22 (sz := 23) (by kernel_rfl) (by decide) decCl (fun _ => rfl) h0
    obtain ⟨a, e0, _⟩ := DataW.trod_int Tryz.underlying3 h1
    simp only [List.cons.injEq, and_true] at e0 e1
    subst e0 e1
    exact ⟨l, A, c, a, rfl, hlc, hrd, hw⟩


set_option maxRecDepth 100000 in
theorem busWild_lifted (os : Os) (started : os.Started) (H : Type) (enc : TypeId × Value → H) :
    ReturnsInHanded {} Tryz.checked os 3 .any (fun w args => (Rows.busWildSpec.pre enc Tryz.prog Tryz.f3 [] false w args ∧ laidMetH Tryz.prog Rows.busWildRow.laid w) ∧ sizedMet enc Tryz.prog Tryz.f3 (OpenSpec.ofChange Rows.busWildSpec) false w args) (Rows.busWildSpec.post enc Tryz.prog Tryz.f3 false true false false) := by
  refine returnsInHanded_of_change_and (C := Tryz.checked) (X := fun w _ => laidMetH Tryz.prog Rows.busWildRow.laid w) (fun _ _ _ hh h => h.of_heap hh) ownK started (by kernel_rfl) Tryz.func3
    (ChangeSpec.witness_shaped (enc := enc) (C := Tryz.checked) (os := os) (X := fun w _ => laidMetH Tryz.prog Rows.busWildRow.laid w) false (World.laidAll Tryz.prog os Rows.busWildRow.laid) #[.agg #[.slice none 0 0, .int .i64 0], .int .i64 0] 8 (World.laidAll_os _ _ _)
      (World.shaped_of_ZipB (by kernel_rfl) (by kernel_rfl)) (by kernel_rfl) (by kernel_rfl) (by kernel_rfl)
      (by rw [MakeChecks.laidMetH_plain _ _ _ (by kernel_rfl)]; exact laidMet_laidAll _ (by kernel_rfl) (by kernel_rfl))) ?_
  intro W base args ds gs before hval0 hW _ _ _ _
  have hval : ∀ (j : Nat) t v, Tryz.f3.params[j]? = some t → args[j]? = some v → Value.okWide Tryz.prog W .any base t v := hval0
  have hW' := hW
  obtain ⟨p, q, hA0, hV, rfl, hfz, hnd⟩ := hW
  have hA : DataW.TrodAll enc Tryz.prog W 0 (fun _ => true) true Tryz.f3.params.toList args.toList ds p := hA0
  rw [Tryz.params3] at hA hval
  obtain ⟨v0, vs0, d0, ds0, p0, q0, hargs, rfl, rfl, h0, r0⟩ := trodAll_cons hA
  obtain ⟨v1, vs1, d1, ds1, p1, q1, rfl, rfl, rfl, h1, r1⟩ := trodAll_cons r0
  obtain ⟨rfl, rfl, rfl⟩ := trodAll_nil r1
  obtain rfl : args = #[v0, v1] := by cases args; simp_all
  obtain ⟨rfl, rfl⟩ := trodVars_none hV
  obtain ⟨l0, A0, c0, now0, rfl, xc, xr, xraw⟩ := open_bus (hval 0 24 v0 rfl rfl) h0
  obtain ⟨x1, rfl, _, _, _⟩ := open_int Tryz.underlying3 (hval 1 3 v1 rfl rfl) h1
  refine (busWild_walk l0 A0 c0 now0 x1 W xr xc xraw).mono fun e W' ⟨he, hg⟩ => ?_
  subst he
  exact ⟨_, rfl, law_post laidOut rfl hW' (by kernel_rfl) rfl Tryz.underlying4 rfl rfl hg⟩

theorem busWild_row_holds : Rows.BusWildSaid :=
  OpenClaim.holds_of_wide 3 Tryz.f3 rfl rfl rfl rfl rfl rfl rfl ⟨rfl, rfl, rfl, rfl, rfl⟩ rfl rfl rfl rfl rfl (by kernel_rfl) Tryz.func3 (by kernel_rfl)
    (of_decide_eq_true (by kernel_rfl)) (by unfold Func.isWrapper; first | (rw [if_pos (by decide +kernel)]; kernel_rfl) | (rw [if_neg (by decide +kernel)]; exact ⟨rfl, rfl⟩))
    (fun os started H enc _ => busWild_lifted os started H enc)
theorem busWild_holds : Rows.BusWildCardSaid :=
  Claim7.holds_tied_plain_at .later [] [.data, .pinned] true (true, "b57d3143a23168d3af64b6ad1372186f3e43a464aeb9c15b124dd745db821857") false busWild_row_holds (fun _ h => by cases h) (by kernel_rfl) (fun _ h => by cases h) busWild_row_tie rfl ⟨rfl, rfl⟩ (by kernel_rfl) rfl
    (fun f fn hf hfn => by
      obtain rfl : f = 3 := Option.some.inj ((show Tryz.prog.funcNamed "campanile/campanilelaw08.BusWild" = some 3 by kernel_rfl).symm.trans hf) |>.symm
      obtain rfl : fn = Tryz.f3 := (Option.some.inj (Tryz.func3.symm.trans hfn)).symm
      exact ⟨by kernel_rfl, fun j t ht => by
        rw [Tryz.params3] at ht
        have hm : t ∈ [24, 3] := by simpa using Array.mem_of_getElem? ht
        have hall : ([24, 3].all fun u => !Tryz.prog.wantsStandIn u) = true := by kernel_rfl
        exact (show Tryz.prog.wantsStandIn t = false by simpa using List.all_eq_true.1 hall t hm)⟩)
    (by kernel_rfl)
#print axioms busWild_holds

end Go.Proofs.YtkfedgjepiljiaaGreatDoor
