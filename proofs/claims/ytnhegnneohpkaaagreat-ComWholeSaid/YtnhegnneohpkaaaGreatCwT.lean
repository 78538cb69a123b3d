/- ComWholeSaid: for every layout, rows of values, way, ints and row of deeds ComWhole answers true and leaves its arguments as they were. No condition. -/
import Derived.Test.YtnhegnneohpkaaaGreatCwW
import Derived.Test.YtnhegnneohpkaaaGreatMgFrame
namespace Go.Proofs.YtnhegnneohpkaaaGreat
open Go.ChangeShapes Go.WideShapes Go.ChangeAt Go.RowKit Go.Deep
open CM PD SG

set_option maxRecDepth 100000 in
theorem decWay20 {H : Type} {enc : TypeId × Value → H} : Dec enc Tryz.prog 32 wycL (fun _ => True) := by
  intro w base sp held n cs x h
  obtain ⟨m, hl, hf⟩ := trod_fields Tryz.underlying32 (by kernel_rfl) (by kernel_rfl) h
  match cs, hl with
  | [c0, c1, c2, c3, c4], _ =>
    obtain ⟨_, h0⟩ := hf 0 _ c0 rfl rfl
    obtain ⟨_, h1⟩ := hf 1 _ c1 rfl rfl
    obtain ⟨_, h2⟩ := hf 2 _ c2 rfl rfl
    obtain ⟨_, h3⟩ := hf 3 _ c3 rfl rfl
    obtain ⟨_, h4⟩ := hf 4 _ c4 rfl rfl
    obtain ⟨a0, e0, _⟩ := DataW.trod_int Tryz.underlying3 h0
    obtain ⟨a1, e1, _⟩ := DataW.trod_int Tryz.underlying3 h1
    obtain ⟨a2, e2, _⟩ := DataW.trod_int Tryz.underlying3 h2
    obtain ⟨a3, e3, _⟩ := DataW.trod_int Tryz.underlying3 h3
    obtain ⟨a4, e4, _⟩ := DataW.trod_int Tryz.underlying3 h4
    simp only [List.cons.injEq, and_true] at e0 e1 e2 e3 e4
    subst e0 e1 e2 e3 e4
    exact ⟨⟨a0, a1, a2, a3, a4⟩, rfl, trivial⟩
set_option maxRecDepth 100000 in
theorem open_way20 {H : Type} {enc : TypeId × Value → H} {w W : World} {r : Reach} {b0 base : Nat} {sp : Nat → Bool} {held : Bool} {v : Value} {d : DataW H} {p : List MemPlace} (hv : Value.okWide Tryz.prog W r b0 32 v) (h : DataW.Trod enc Tryz.prog w base sp held 32 v d p) :
    ∃ y : Wy, v = .agg (wycL y).toArray := by
  obtain ⟨cs, rfl, _⟩ := okWide_struct Tryz.underlying32 hv
  obtain ⟨fuel, hf⟩ := h
  obtain ⟨cs⟩ := cs
  obtain ⟨y, hy, _⟩ := decWay20 _ _ _ _ _ _ _ hf
  have : cs = wycL y := hy
  exact ⟨y, by rw [this]⟩
set_option maxRecDepth 100000 in
set_option maxHeartbeats 4000000 in
theorem decDd {H : Type} {enc : TypeId × Value → H} (w : World) : DecW enc Tryz.prog w 69 Dd.cs (fun a => InR w w.heap.size a.vs.a a.vs.l ∧ ∀ v ∈ a.vs.l, lim v) := by
  intro base sp held n cs x h
  obtain ⟨m, hl, hf⟩ := trod_fields Tryz.underlying69 (by kernel_rfl) (by kernel_rfl) h
  match cs, hl with
  | [c0, c1, c2, c3], _ =>
    obtain ⟨_, h0⟩ := hf 0 _ c0 rfl rfl
    obtain ⟨_, h1⟩ := hf 1 _ c1 rfl rfl
    obtain ⟨_, h2⟩ := hf 2 _ c2 rfl rfl
    obtain ⟨_, h3⟩ := hf 3 _ c3 rfl rfl
    obtain ⟨SA, sc, S, e0, _, _, s2, s3⟩ := open_rows Tryz.underlying33 (sz := 1) (by kernel_rfl) (by decide) decInt64 (fun _ => rfl) h0
    obtain ⟨a1, e1, _⟩ := DataW.trod_bool Tryz.underlying4 h1
    obtain ⟨a2, e2, _⟩ := DataW.trod_bool Tryz.underlying4 h2
    obtain ⟨a3, e3, _⟩ := DataW.trod_int Tryz.underlying3 h3
    simp only [List.cons.injEq, and_true] at e0 e1 e2 e3
    subst e0 e1 e2 e3
    exact ⟨⟨⟨S, SA, sc⟩, a1, a2, a3⟩, rfl, s2, s3⟩
set_option maxRecDepth 100000 in
theorem open_acts {H : Type} {enc : TypeId × Value → H} {w W : World} {r : Reach} {b0 base : Nat} {sp : Nat → Bool} {held : Bool} {v : Value} {d : DataW H} {p : List MemPlace} (hv : Value.okWide Tryz.prog W r b0 62 v) (h : DataW.Trod enc Tryz.prog w base sp held 62 v d p) :
    ∃ (A : Option Addr) (c : Nat) (l : List Dd), v = .slice A l.length c ∧ Rd w w.heap.size A 4 (l.map Dd.cs) ∧ ∀ a ∈ l, InR w w.heap.size a.vs.a a.vs.l ∧ ∀ v ∈ a.vs.l, lim v := by
  obtain ⟨a0, len, cap, rfl⟩ := okWide_slice Tryz.underlying62 hv
  obtain ⟨fuel, hf⟩ := h
  obtain ⟨A, c, l, e, _, _, hr, hw⟩ := open_rowsW Tryz.underlying62 (sz := 4) (by kernel_rfl) (by decide) (decDd w) (fun _ => rfl) hf
  simp only [Value.cells, List.cons.injEq, and_true] at e
  exact ⟨A, c, l, e, hr, hw⟩


set_option maxRecDepth 100000 in
theorem comWhole_lifted (os : Os) (started : os.Started) (H : Type) (enc : TypeId × Value → H) :
    ReturnsInHanded {} Tryz.checked os 4 .any (Rows.comWholeSpec.pre6 enc Tryz.prog Tryz.f4 Rows.comWholeRow.domain false) (Rows.comWholeSpec.post enc Tryz.prog Tryz.f4 false true false false) := by
  refine returnsInHanded_of_change (C := Tryz.checked) ownK started (by kernel_rfl) Tryz.func4
    (ChangeSpec.witness6 (enc := enc) (C := Tryz.checked) false ⟨#[], #[.agg #[.int .i64 0, .slice none 0 0, .slice none 0 0], .slice none 0 0, .slice none 0 0, .agg #[.int .i64 0, .int .i64 0, .int .i64 0, .int .i64 0, .int .i64 0], .int .i64 0, .int .i64 0, .slice none 0 0], []⟩ 8 (by kernel_rfl) (by kernel_rfl) (by kernel_rfl) (by kernel_rfl)) ?_
  intro W base args ds gs before hval0 hW hcnd _
  have hval : ∀ (j : Nat) t v, Tryz.f4.params[j]? = some t → args[j]? = some v → Value.okWide Tryz.prog W .any base t v := hval0
  have hW' := hW
  obtain ⟨p, q, hA0, hV, rfl, hfz, hnd⟩ := hW
  have hA : DataW.TrodAll enc Tryz.prog W 0 (fun _ => true) true Tryz.f4.params.toList args.toList ds p := hA0
  rw [Tryz.params4] at hA hval
  obtain ⟨v0, vs0, d0, ds0, p0, q0, hargs, rfl, rfl, h0, r0⟩ := trodAll_cons hA
  obtain ⟨v1, vs1, d1, ds1, p1, q1, rfl, rfl, rfl, h1, r1⟩ := trodAll_cons r0
  obtain ⟨v2, vs2, d2, ds2, p2, q2, rfl, rfl, rfl, h2, r2⟩ := trodAll_cons r1
  obtain ⟨v3, vs3, d3, ds3, p3, q3, rfl, rfl, rfl, h3, r3⟩ := trodAll_cons r2
  obtain ⟨v4, vs4, d4, ds4, p4, q4, rfl, rfl, rfl, h4, r4⟩ := trodAll_cons r3
  obtain ⟨v5, vs5, d5, ds5, p5, q5, rfl, rfl, rfl, h5, r5⟩ := trodAll_cons r4
  obtain ⟨v6, vs6, d6, ds6, p6, q6, rfl, rfl, rfl, h6, r6⟩ := trodAll_cons r5
  obtain ⟨rfl, rfl, rfl⟩ := trodAll_nil r6
  obtain rfl : args = #[v0, v1, v2, v3, v4, v5, v6] := by cases args; simp_all
  obtain ⟨rfl, rfl⟩ := trodVars_none hV
  obtain ⟨L, A, c, B, d, rfl, hlc, hld, hrA, hrB⟩ := open_layout (hval 0 27 v0 rfl rfl) h0
  obtain ⟨FA, fc, first, rfl, _, _, hrF, hfs⟩ := open_slices Tryz.underlying33 (sz := 1) (by kernel_rfl) (by decide) decInt64 (fun _ => rfl) (hval 1 33 v1 rfl rfl) h1
  obtain ⟨SA, sc, subs, rfl, _, _, hrS, hss⟩ := open_slices Tryz.underlying33 (sz := 1) (by kernel_rfl) (by decide) decInt64 (fun _ => rfl) (hval 2 33 v2 rfl rfl) h2
  obtain ⟨yes, rfl⟩ := open_way20 (hval 3 32 v3 rfl rfl) h3
  obtain ⟨delay, rfl, _, _, _⟩ := open_int Tryz.underlying3 (hval 4 3 v4 rfl rfl) h4
  obtain ⟨each, rfl, _, _, _⟩ := open_int Tryz.underlying3 (hval 5 3 v5 rfl rfl) h5
  obtain ⟨AA, acap, acts, rfl, hra, haa⟩ := open_acts (hval 6 62 v6 rfl rfl) h6
  refine (comWhole_walk L A c B d first FA fc subs SA sc yes delay each acts AA acap W hrA hlc hld hrF hfs hrS hss hra haa).mono fun e W' ⟨he, hg⟩ => ?_
  subst he
  exact ⟨_, rfl, law_post laidOut rfl hW' (by kernel_rfl) rfl Tryz.underlying4 rfl rfl hg⟩

theorem comWhole_holds : Rows.ComWholeSaid :=
  OpenClaim.holds_of_wide 4 Tryz.f4 rfl rfl rfl rfl rfl rfl rfl ⟨rfl, rfl, rfl, rfl, rfl⟩ rfl rfl rfl rfl rfl (by kernel_rfl) Tryz.func4 (by kernel_rfl)
    (of_decide_eq_true (by kernel_rfl)) (by unfold Func.isWrapper; first | (rw [if_pos (by decide +kernel)]; kernel_rfl) | (rw [if_neg (by decide +kernel)]; exact ⟨rfl, rfl⟩))
    (fun os started H enc _ => comWhole_lifted os started H enc)
#print axioms comWhole_holds

end Go.Proofs.YtnhegnneohpkaaaGreat
