/- PduBackSaid: for every layout, row of values, row of news and fill PduBack answers true and leaves its arguments as they were. No condition. -/
import Derived.Test.YtplpnnjjjfcibaaPdK
import Derived.Test.YtplpnnjjjfcibaaPdDec
namespace Go.Proofs.Ytplpnnjjjfcibaa
open Go.ChangeShapes Go.WideShapes Go.ChangeAt Go.RowKit
open SG PD

theorem decBool {H : Type} {enc : TypeId × Value → H} : Dec enc Try.prog 4 (fun x : Bool => [.bool x]) (fun _ => True) := by
  intro w base sp held n cs x h
  obtain ⟨a, e, _⟩ := DataW.trod_bool Try.underlying4 h
  exact ⟨a, e, trivial⟩
set_option maxRecDepth 100000 in
theorem open_u8 {H : Type} {enc : TypeId × Value → H} {W : World} {r : Reach} {b0 base : Nat} {sp : Nat → Bool} {held : Bool} {v : Value} {d : DataW H} {p : List MemPlace} (hv : Value.okWide Try.prog W r b0 5 v) (h : DataW.Trod enc Try.prog W base sp held 5 v d p) :
    ∃ x : UInt8, v = .int .u8 x.toNat := by
  obtain ⟨a, rfl, _, _, xa⟩ := open_int Try.underlying5 hv h
  have hb : 0 ≤ a ∧ a ≤ 255 := by simpa [Lit.wf, IntKind.min, IntKind.max, IntKind.bits, IntKind.signed] using xa
  refine ⟨UInt8.ofNat a.toNat, ?_⟩
  rw [UInt8.toNat_ofNat', Nat.mod_eq_of_lt (by omega)]
  congr 1
  omega


set_option maxRecDepth 100000 in
theorem pduBack_lifted (os : Os) (started : os.Started) (H : Type) (enc : TypeId × Value → H) :
    ReturnsInHanded {} Try.checked os 4 .any (Rows.pduBackSpec.pre6 enc Try.prog Try.f4 Rows.pduBackRow.domain false) (Rows.pduBackSpec.post enc Try.prog Try.f4 false true false false) := by
  refine returnsInHanded_of_change (C := Try.checked) ownK started (by kernel_rfl) Try.func4
    (ChangeSpec.witness6 (enc := enc) (C := Try.checked) false ⟨#[], #[.agg #[.int .i64 0, .slice none 0 0, .slice none 0 0], .slice none 0 0, .slice none 0 0, .int .u8 0], []⟩ 8 (by kernel_rfl) (by kernel_rfl) (by kernel_rfl) (by kernel_rfl)) ?_
  intro W base args ds gs before hval0 hW hcnd _
  have hval : ∀ (j : Nat) t v, Try.f4.params[j]? = some t → args[j]? = some v → Value.okWide Try.prog W .any base t v := hval0
  have hW' := hW
  obtain ⟨p, q, hA0, hV, rfl, hfz, hnd⟩ := hW
  have hA : DataW.TrodAll enc Try.prog W 0 (fun _ => true) true Try.f4.params.toList args.toList ds p := hA0
  rw [Try.params4] at hA hval
  obtain ⟨v0, vs0, d0, ds0, p0, q0, hargs, rfl, rfl, h0, r0⟩ := trodAll_cons hA
  obtain ⟨v1, vs1, d1, ds1, p1, q1, rfl, rfl, rfl, h1, r1⟩ := trodAll_cons r0
  obtain ⟨v2, vs2, d2, ds2, p2, q2, rfl, rfl, rfl, h2, r2⟩ := trodAll_cons r1
  obtain ⟨v3, vs3, d3, ds3, p3, q3, rfl, rfl, rfl, h3, r3⟩ := trodAll_cons r2
  obtain ⟨rfl, rfl, rfl⟩ := trodAll_nil r3
  obtain rfl : args = #[v0, v1, v2, v3] := by cases args; simp_all
  obtain ⟨rfl, rfl⟩ := trodVars_none hV
  obtain ⟨L, A, c, B, d, rfl, hlc, hld, hrA, hrB⟩ := open_layout (hval 0 25 v0 rfl rfl) h0
  obtain ⟨VA, vc, vs, rfl, hvc, hvm, hrV, hvs⟩ := open_slices Try.underlying26 (sz := 1) (by kernel_rfl) (by decide) decInt64 (fun _ => rfl) (hval 1 26 v1 rfl rfl) h1
  obtain ⟨NA, nc, nb, rfl, hnc, hnm, hrN, _⟩ := open_slices Try.underlying28 (sz := 1) (by kernel_rfl) (by decide) decBool (fun _ => rfl) (hval 2 28 v2 rfl rfl) h2
  obtain ⟨x, rfl⟩ := open_u8 (hval 3 5 v3 rfl rfl) h3
  refine (pduBack_walk L A c B d vs nb VA vc NA nc x W hrA hrB hrV hrN hlc hld hvc hnc hvs).mono fun e W' ⟨he, hg⟩ => ?_
  subst he
  exact ⟨_, rfl, law_post laidOut rfl hW' (by kernel_rfl) rfl Try.underlying4 rfl rfl hg⟩

theorem pduBack_holds : Rows.PduBackSaid :=
  OpenClaim.holds_of_wide 4 Try.f4 rfl rfl rfl rfl rfl rfl rfl ⟨rfl, rfl, rfl, rfl, rfl⟩ rfl rfl rfl rfl rfl (by kernel_rfl) Try.func4 (by kernel_rfl)
    (of_decide_eq_true (by kernel_rfl)) (by unfold Func.isWrapper; first | (rw [if_pos (by decide +kernel)]; kernel_rfl) | (rw [if_neg (by decide +kernel)]; exact ⟨rfl, rfl⟩))
    (fun os started H enc _ => pduBack_lifted os started H enc)
#print axioms pduBack_holds

end Go.Proofs.Ytplpnnjjjfcibaa
