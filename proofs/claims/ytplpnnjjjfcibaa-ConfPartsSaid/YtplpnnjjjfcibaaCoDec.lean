/- What stands fast that came in: its cells, its Pdus, their rows. -/
import Derived.Test.YtplpnnjjjfcibaaCoX
import Derived.Test.YtplpnnjjjfcibaaMgFrame
namespace Go.Proofs.Ytplpnnjjjfcibaa
open Go.ChangeShapes Go.WideShapes Go.ChangeAt Go.RowKit Go.Deep
open CM PD SG

section
variable {H : Type} {enc : TypeId × Value → H} {P : Program}
/-- Elements of a type decode at a world. -/
def DecW {α : Type} (enc : TypeId × Value → H) (P : Program) (w : World) (e : TypeId) (ec : α → List Value) (wf : α → Prop) : Prop :=
  ∀ (base : Nat) (sp : Nat → Bool) (held : Bool) (n : Nat) (cs : List Value) (x : DataW H × List MemPlace), DataW.trod enc P w base sp held n e cs = some x → ∃ a : α, cs = ec a ∧ wf a
theorem open_rowsW {α : Type} {t e : TypeId} {ec : α → List Value} {wf : α → Prop} {sz : Nat} {w : World} (ht : P.underlying t = some (.slice e)) (hc : P.cellsOf e = sz) (hsz : 0 < sz) (hd : DecW enc P w e ec wf) (hlen : ∀ a, (ec a).length = sz)
    {base : Nat} {sp : Nat → Bool} {held : Bool} {fuel : Nat} {cs : List Value} {x : DataW H × List MemPlace} (h : DataW.trod enc P w base sp held fuel t cs = some x) :
    ∃ (A : Option Addr) (c : Nat) (l : List α), cs = [.slice A l.length c] ∧ l.length ≤ c ∧ c ≤ maxLen ∧ Rd w w.heap.size A sz (l.map ec) ∧ ∀ a ∈ l, wf a := by
  rcases open_slice ht h with ⟨rfl, _⟩ | ⟨a, len, cap, m, n, D, Pl, rfl, _, hlc, hcm, hm, _, hel⟩
  · exact ⟨none, 0, [], rfl, by simp, by simp, Rd.nil, by simp⟩
  · have hlm : len ≤ m := by rw [hm]; split <;> omega
    rw [hc] at hel
    obtain ⟨l, hl, hq⟩ := list_of (n := len) (Q := fun i (x : α) => wf x ∧ ∀ j v, (ec x)[j]? = some v → w.cell? ((a.add (i * sz)).add j) = some v) (fun i hi => by
      obtain ⟨cs', hcs, htr⟩ := hel i (by omega)
      obtain ⟨_, hcl, hat⟩ := World.cells?_some hcs
      obtain ⟨x, hx, hwf⟩ := hd _ _ _ _ _ _ htr
      refine ⟨x, hwf, fun j v hj => ?_⟩
      rw [hx] at hcl hat
      have hjl : j < (ec x).length := (List.getElem?_eq_some_iff.1 hj).1
      rw [hat j (by omega)]; exact hj)
    refine ⟨some a, cap, l, by rw [hl], by omega, hcm, fun hn => ?_, fun x hx => ?_⟩
    · rw [List.length_map] at hn
      have h0 : 0 < (ec l[0]).length := by rw [hlen]; exact hsz
      have hc0 := (hq 0 hn).2 0 (ec l[0])[0] (List.getElem?_eq_getElem h0)
      obtain ⟨b, off, spot⟩ := a
      have hspot : spot = none := by simpa [Addr.add] using World.cell?_spot hc0
      subst hspot
      refine ⟨b, off, rfl, ?_, fun k row j v hk hj => ?_⟩
      · have := cell_lt hc0; simpa [Addr.add] using this
      · rw [List.getElem?_map] at hk
        obtain ⟨y, hy, rfl⟩ := Option.map_eq_some_iff.1 hk
        obtain ⟨hkl, rfl⟩ := List.getElem?_eq_some_iff.1 hy
        have := (hq k hkl).2 j v hj
        rw [Go.WideShapes.add_plain, Go.WideShapes.add_plain] at this
        exact this
    · obtain ⟨i, hi, rfl⟩ := List.mem_iff_getElem.1 hx
      exact (hq i hi).1
theorem trod_at {t : TypeId} {fs : Array Field} (ht : P.underlying t = some (.struct fs)) {w : World} {base : Nat} {sp : Nat → Bool} {held : Bool} {fuel : Nat} {cs : List Value} {x : DataW H × List MemPlace}
    (h : DataW.trod enc P w base sp held fuel t cs = some x) : ∃ m, cs.length = P.cellsOf t ∧ ∀ (i : Nat) (f : Field), fs[i]? = some f → ∃ y, DataW.trod enc P w base sp held m f.type ((cs.drop f.offset).take (P.cellsOf f.type)) = some y := by
  obtain ⟨xs, m, _, _, hlen, hxl, hg⟩ := DataW.trod_struct ht h
  refine ⟨m, hlen, fun i f hf => ?_⟩
  have h1 := hg i f hf
  have hi : i < fs.size := (Array.getElem?_eq_some_iff.1 hf).1
  exact ⟨xs[i]'(by omega), by rw [h1, List.getElem?_eq_getElem (by omega)]⟩
end

theorem lim_wf {a : Int} (wa : Lit.wf (.int .i64 a) = true) : lim a := by
  have : -9223372036854775808 ≤ a ∧ a ≤ 9223372036854775807 := by simpa [Lit.wf, IntKind.min, IntKind.max, IntKind.bits, IntKind.signed] using wa
  exact ⟨this.1, by omega⟩

set_option maxRecDepth 100000 in
theorem decWy {H : Type} {enc : TypeId × Value → H} : Dec enc Try.prog 65 (fun w : Wy => [.int .i64 w.kind, .int .i64 w.first, .int .i64 w.period, .int .i64 w.reps, .int .i64 w.gap]) (fun _ => True) := by
  intro w base sp held n cs x h
  obtain ⟨m, hl, hf⟩ := trod_fields Try.underlying65 (by kernel_rfl) (by kernel_rfl) h
  match cs, hl with
  | [c0, c1, c2, c3, c4], _ =>
    obtain ⟨_, h0⟩ := hf 0 _ c0 rfl rfl
    obtain ⟨_, h1⟩ := hf 1 _ c1 rfl rfl
    obtain ⟨_, h2⟩ := hf 2 _ c2 rfl rfl
    obtain ⟨_, h3⟩ := hf 3 _ c3 rfl rfl
    obtain ⟨_, h4⟩ := hf 4 _ c4 rfl rfl
    obtain ⟨a0, e0, _⟩ := DataW.trod_int Try.underlying3 h0
    obtain ⟨a1, e1, _⟩ := DataW.trod_int Try.underlying3 h1
    obtain ⟨a2, e2, _⟩ := DataW.trod_int Try.underlying3 h2
    obtain ⟨a3, e3, _⟩ := DataW.trod_int Try.underlying3 h3
    obtain ⟨a4, e4, _⟩ := DataW.trod_int Try.underlying3 h4
    simp only [List.cons.injEq, and_true] at e0 e1 e2 e3 e4
    subst e0 e1 e2 e3 e4
    exact ⟨⟨a0, a1, a2, a3, a4⟩, rfl, trivial⟩
set_option maxRecDepth 100000 in
theorem decFlt {H : Type} {enc : TypeId × Value → H} : Dec enc Try.prog 142 flcL (fun _ => True) := by
  intro w base sp held n cs x h
  obtain ⟨m, hl, hf⟩ := trod_fields Try.underlying142 (by kernel_rfl) (by kernel_rfl) h
  match cs, hl with
  | [c0, c1, c2, c3, c4, c5, c6, c7, c8], _ =>
    obtain ⟨_, h0⟩ := hf 0 _ c0 rfl rfl
    obtain ⟨_, h1⟩ := hf 1 _ c1 rfl rfl
    obtain ⟨_, h2⟩ := hf 2 _ c2 rfl rfl
    obtain ⟨_, h3⟩ := hf 3 _ c3 rfl rfl
    obtain ⟨_, h4⟩ := hf 4 _ c4 rfl rfl
    obtain ⟨_, h5⟩ := hf 5 _ c5 rfl rfl
    obtain ⟨_, h6⟩ := hf 6 _ c6 rfl rfl
    obtain ⟨_, h7⟩ := hf 7 _ c7 rfl rfl
    obtain ⟨_, h8⟩ := hf 8 _ c8 rfl rfl
    obtain ⟨a0, e0, _⟩ := DataW.trod_int Try.underlying3 h0
    obtain ⟨a1, e1, _⟩ := DataW.trod_int Try.underlying2 h1
    obtain ⟨a2, e2, _⟩ := DataW.trod_int Try.underlying2 h2
    obtain ⟨a3, e3, _⟩ := DataW.trod_int Try.underlying2 h3
    obtain ⟨a4, e4, _⟩ := DataW.trod_int Try.underlying2 h4
    obtain ⟨a5, e5, _⟩ := DataW.trod_int Try.underlying3 h5
    obtain ⟨a6, e6, _⟩ := DataW.trod_int Try.underlying3 h6
    obtain ⟨a7, e7, _⟩ := DataW.trod_int Try.underlying2 h7
    obtain ⟨a8, e8, _⟩ := DataW.trod_int Try.underlying3 h8
    simp only [List.cons.injEq, and_true] at e0 e1 e2 e3 e4 e5 e6 e7 e8
    subst e0 e1 e2 e3 e4 e5 e6 e7 e8
    exact ⟨⟨a0, a1, a2, a3, a4, a5, a6, a7, a8⟩, rfl, trivial⟩
/-- A layout's slices. -/
def LyRaw (l : Lv) (w : World) : Prop := SgR w w.heap.size l.A l.L.sgs ∧ InR w w.heap.size l.B l.L.nws ∧ l.L.sgs.length ≤ l.c ∧ l.L.nws.length ≤ l.d
set_option maxRecDepth 100000 in
theorem decLv {H : Type} {enc : TypeId × Value → H} (w : World) : DecW enc Try.prog w 25 Lv.cs (fun l => LyRaw l w) := by
  intro base sp held n cs x h
  obtain ⟨m, hl, hf⟩ := trod_fields Try.underlying25 (by kernel_rfl) (by kernel_rfl) h
  match cs, hl with
  | [c0, c1, c2], _ =>
    obtain ⟨_, h0⟩ := hf 0 _ c0 rfl rfl
    obtain ⟨_, h1⟩ := hf 1 _ c1 rfl rfl
    obtain ⟨_, h2⟩ := hf 2 _ c2 rfl rfl
    obtain ⟨a, e0, _⟩ := DataW.trod_int Try.underlying3 h0
    obtain ⟨A, c, l, e1, hlc, _, hrd, _⟩ := open_rows Try.underlying22 (sz := 4) (by kernel_rfl) (by decide) decSg (fun _ => rfl) h1
    obtain ⟨B, d, l2, e2, hld, _, hrd2, _⟩ := open_rows Try.underlying23 (sz := 1) (by kernel_rfl) (by decide) decInt (fun _ => rfl) h2
    simp only [List.cons.injEq, and_true] at e0 e1 e2
    subst e0 e1 e2
    exact ⟨⟨⟨a, l, l2⟩, A, c, B, d⟩, rfl, hrd, hrd2, hlc, hld⟩
set_option maxRecDepth 100000 in
set_option maxHeartbeats 4000000 in
theorem decPd {H : Type} {enc : TypeId × Value → H} (w : World) : DecW enc Try.prog w 67 Pd.cs (fun p => p.Raw w) := by
  intro base sp held n cs x h
  obtain ⟨m, hl, hf⟩ := trod_at Try.underlying67 h
  have kP : Try.prog.cellsOf 67 = 22 := by kernel_rfl
  have k0 : Try.prog.cellsOf 50 = 1 := by kernel_rfl
  have k1 : Try.prog.cellsOf 3 = 1 := by kernel_rfl
  have k2 : Try.prog.cellsOf 25 = 3 := by kernel_rfl
  have k3 : Try.prog.cellsOf 5 = 1 := by kernel_rfl
  have k4 : Try.prog.cellsOf 26 = 1 := by kernel_rfl
  have k5 : Try.prog.cellsOf 63 = 1 := by kernel_rfl
  have k6 : Try.prog.cellsOf 65 = 5 := by kernel_rfl
  rw [kP] at hl
  match cs, hl with
  | [c0, c1, c2, c3, c4, c5, c6, c7, c8, c9, c10, c11, c12, c13, c14, c15, c16, c17, c18, c19, c20, c21], _ =>
    obtain ⟨_, h0⟩ : ∃ y, DataW.trod enc Try.prog w base sp held m 50 (([c0, c1, c2, c3, c4, c5, c6, c7, c8, c9, c10, c11, c12, c13, c14, c15, c16, c17, c18, c19, c20, c21].drop 0).take (Try.prog.cellsOf 50)) = some y := hf 0 _ rfl
    rw [k0] at h0
    simp only [List.drop_succ_cons, List.drop_zero, List.take_succ_cons, List.take_zero] at h0
    obtain ⟨_, h1⟩ : ∃ y, DataW.trod enc Try.prog w base sp held m 3 (([c0, c1, c2, c3, c4, c5, c6, c7, c8, c9, c10, c11, c12, c13, c14, c15, c16, c17, c18, c19, c20, c21].drop 1).take (Try.prog.cellsOf 3)) = some y := hf 1 _ rfl
    rw [k1] at h1
    simp only [List.drop_succ_cons, List.drop_zero, List.take_succ_cons, List.take_zero] at h1
    obtain ⟨_, h2⟩ : ∃ y, DataW.trod enc Try.prog w base sp held m 3 (([c0, c1, c2, c3, c4, c5, c6, c7, c8, c9, c10, c11, c12, c13, c14, c15, c16, c17, c18, c19, c20, c21].drop 2).take (Try.prog.cellsOf 3)) = some y := hf 2 _ rfl
    rw [k1] at h2
    simp only [List.drop_succ_cons, List.drop_zero, List.take_succ_cons, List.take_zero] at h2
    obtain ⟨_, h3⟩ : ∃ y, DataW.trod enc Try.prog w base sp held m 25 (([c0, c1, c2, c3, c4, c5, c6, c7, c8, c9, c10, c11, c12, c13, c14, c15, c16, c17, c18, c19, c20, c21].drop 3).take (Try.prog.cellsOf 25)) = some y := hf 3 _ rfl
    rw [k2] at h3
    simp only [List.drop_succ_cons, List.drop_zero, List.take_succ_cons, List.take_zero] at h3
    obtain ⟨_, h4⟩ : ∃ y, DataW.trod enc Try.prog w base sp held m 5 (([c0, c1, c2, c3, c4, c5, c6, c7, c8, c9, c10, c11, c12, c13, c14, c15, c16, c17, c18, c19, c20, c21].drop 6).take (Try.prog.cellsOf 5)) = some y := hf 4 _ rfl
    rw [k3] at h4
    simp only [List.drop_succ_cons, List.drop_zero, List.take_succ_cons, List.take_zero] at h4
    obtain ⟨_, h5⟩ : ∃ y, DataW.trod enc Try.prog w base sp held m 26 (([c0, c1, c2, c3, c4, c5, c6, c7, c8, c9, c10, c11, c12, c13, c14, c15, c16, c17, c18, c19, c20, c21].drop 7).take (Try.prog.cellsOf 26)) = some y := hf 5 _ rfl
    rw [k4] at h5
    simp only [List.drop_succ_cons, List.drop_zero, List.take_succ_cons, List.take_zero] at h5
    obtain ⟨_, h6⟩ : ∃ y, DataW.trod enc Try.prog w base sp held m 26 (([c0, c1, c2, c3, c4, c5, c6, c7, c8, c9, c10, c11, c12, c13, c14, c15, c16, c17, c18, c19, c20, c21].drop 8).take (Try.prog.cellsOf 26)) = some y := hf 6 _ rfl
    rw [k4] at h6
    simp only [List.drop_succ_cons, List.drop_zero, List.take_succ_cons, List.take_zero] at h6
    obtain ⟨_, h7⟩ : ∃ y, DataW.trod enc Try.prog w base sp held m 63 (([c0, c1, c2, c3, c4, c5, c6, c7, c8, c9, c10, c11, c12, c13, c14, c15, c16, c17, c18, c19, c20, c21].drop 9).take (Try.prog.cellsOf 63)) = some y := hf 7 _ rfl
    rw [k5] at h7
    simp only [List.drop_succ_cons, List.drop_zero, List.take_succ_cons, List.take_zero] at h7
    obtain ⟨_, h8⟩ : ∃ y, DataW.trod enc Try.prog w base sp held m 65 (([c0, c1, c2, c3, c4, c5, c6, c7, c8, c9, c10, c11, c12, c13, c14, c15, c16, c17, c18, c19, c20, c21].drop 10).take (Try.prog.cellsOf 65)) = some y := hf 8 _ rfl
    rw [k6] at h8
    simp only [List.drop_succ_cons, List.drop_zero, List.take_succ_cons, List.take_zero] at h8
    obtain ⟨_, h9⟩ : ∃ y, DataW.trod enc Try.prog w base sp held m 65 (([c0, c1, c2, c3, c4, c5, c6, c7, c8, c9, c10, c11, c12, c13, c14, c15, c16, c17, c18, c19, c20, c21].drop 15).take (Try.prog.cellsOf 65)) = some y := hf 9 _ rfl
    rw [k6] at h9
    simp only [List.drop_succ_cons, List.drop_zero, List.take_succ_cons, List.take_zero] at h9
    obtain ⟨_, h10⟩ : ∃ y, DataW.trod enc Try.prog w base sp held m 3 (([c0, c1, c2, c3, c4, c5, c6, c7, c8, c9, c10, c11, c12, c13, c14, c15, c16, c17, c18, c19, c20, c21].drop 20).take (Try.prog.cellsOf 3)) = some y := hf 10 _ rfl
    rw [k1] at h10
    simp only [List.drop_succ_cons, List.drop_zero, List.take_succ_cons, List.take_zero] at h10
    obtain ⟨_, h11⟩ : ∃ y, DataW.trod enc Try.prog w base sp held m 3 (([c0, c1, c2, c3, c4, c5, c6, c7, c8, c9, c10, c11, c12, c13, c14, c15, c16, c17, c18, c19, c20, c21].drop 21).take (Try.prog.cellsOf 3)) = some y := hf 11 _ rfl
    rw [k1] at h11
    simp only [List.drop_succ_cons, List.drop_zero, List.take_succ_cons, List.take_zero] at h11
    obtain ⟨id, e0, _, w0⟩ := DataW.trod_int Try.underlying50 h0
    obtain ⟨frm, e1, _, w1⟩ := DataW.trod_int Try.underlying3 h1
    obtain ⟨dst, e2, _, w2⟩ := DataW.trod_int Try.underlying3 h2
    obtain ⟨ly, e3, la, lb, lc, ld⟩ := decLv w _ _ _ _ _ _ h3
    obtain ⟨fill, e4, _⟩ := DataW.trod_int Try.underlying5 h4
    obtain ⟨SA, sc, S, e5, s1, _, s2, s3⟩ := open_rows Try.underlying26 (sz := 1) (by kernel_rfl) (by decide) decInt64 (fun _ => rfl) h5
    obtain ⟨UA, uc, U, e6, u1, _, u2, u3⟩ := open_rows Try.underlying26 (sz := 1) (by kernel_rfl) (by decide) decInt64 (fun _ => rfl) h6
    obtain ⟨FA, fc, F, e7, f1, _, f2, _⟩ := open_rows Try.underlying63 (sz := 9) (by kernel_rfl) (by decide) decFlt (fun _ => rfl) h7
    obtain ⟨yes, e8, _⟩ := decWy _ _ _ _ _ _ _ h8
    obtain ⟨no, e9, _⟩ := decWy _ _ _ _ _ _ _ h9
    obtain ⟨delay, e10, _⟩ := DataW.trod_int Try.underlying3 h10
    obtain ⟨limit, e11, _, w11⟩ := DataW.trod_int Try.underlying3 h11
    simp only [List.cons.injEq, and_true, Lv.cs] at e0 e1 e2 e3 e4 e5 e6 e7 e8 e9 e10 e11
    obtain ⟨e3a, e3b, e3c⟩ := e3
    obtain ⟨e8a, e8b, e8c, e8d, e8e⟩ := e8
    obtain ⟨e9a, e9b, e9c, e9d, e9e⟩ := e9
    have hid : 0 ≤ id ∧ id ≤ 4294967295 := by simpa [Lit.wf, IntKind.min, IntKind.max, IntKind.bits, IntKind.signed] using w0
    refine ⟨⟨id, frm, dst, ly, fill, ⟨S, SA, sc⟩, ⟨U, UA, uc⟩, ⟨F, FA, fc⟩, yes, no, delay, limit⟩, ?_, ⟨la, lb, lc, ld, s2, s3, s1, u2, u3, u1, f2, f1, ⟨hid.1, by show id < 4294967296; omega⟩, lim_wf w1, lim_wf w2, lim_wf w11⟩⟩
    subst e0 e1 e2 e3a e3b e3c e4 e5 e6 e7 e8a e8b e8c e8d e8e e9a e9b e9c e9d e9e e10 e11
    rfl

set_option maxRecDepth 100000 in
theorem open_conf {H : Type} {enc : TypeId × Value → H} {w W : World} {r : Reach} {b0 base : Nat} {sp : Nat → Bool} {held : Bool} {v : Value} {d : DataW H} {p : List MemPlace} (hv : Value.okWide Try.prog W r b0 52 v) (h : DataW.Trod enc Try.prog w base sp held 52 v d p) :
    ∃ c : Cf, v = .agg c.cs.toArray ∧ c.Raw w ∧ c.c ≤ maxLen := by
  obtain ⟨cs, rfl, _⟩ := okWide_struct Try.underlying52 hv
  obtain ⟨fuel, hf⟩ := h
  obtain ⟨m, hl, hf⟩ := trod_fields Try.underlying52 (by kernel_rfl) (by kernel_rfl) hf
  obtain ⟨cs⟩ := cs
  simp only [Value.cells] at hl hf
  match cs, hl with
  | [c0, c1, c2, c3, c4, c5, c6, c7], _ =>
    obtain ⟨_, h0⟩ := hf 0 _ c0 rfl rfl
    obtain ⟨_, h1⟩ := hf 1 _ c1 rfl rfl
    obtain ⟨_, h2⟩ := hf 2 _ c2 rfl rfl
    obtain ⟨_, h3⟩ := hf 3 _ c3 rfl rfl
    obtain ⟨_, h4⟩ := hf 4 _ c4 rfl rfl
    obtain ⟨_, h5⟩ := hf 5 _ c5 rfl rfl
    obtain ⟨_, h6⟩ := hf 6 _ c6 rfl rfl
    obtain ⟨_, h7⟩ := hf 7 _ c7 rfl rfl
    obtain ⟨a0, e0, _, w0⟩ := DataW.trod_int Try.underlying3 h0
    obtain ⟨A, cc, l, e1, hlc, hcm, hrd, hwf⟩ := open_rowsW Try.underlying49 (sz := 22) (by kernel_rfl) (by decide) (decPd w) (fun _ => rfl) h1
    obtain ⟨a2, e2, _, w2⟩ := DataW.trod_int Try.underlying50 h2
    obtain ⟨a3, e3, _, w3⟩ := DataW.trod_int Try.underlying3 h3
    obtain ⟨a4, e4, _, w4⟩ := DataW.trod_int Try.underlying3 h4
    obtain ⟨a5, e5, _, w5⟩ := DataW.trod_int Try.underlying3 h5
    obtain ⟨a6, e6, _, w6⟩ := DataW.trod_int Try.underlying3 h6
    obtain ⟨a7, e7, _, w7⟩ := DataW.trod_int Try.underlying3 h7
    simp only [List.cons.injEq, and_true] at e0 e1 e2 e3 e4 e5 e6 e7
    subst e0 e1 e2 e3 e4 e5 e6 e7
    have hb : 0 ≤ a2 ∧ a2 ≤ 4294967295 := by simpa [Lit.wf, IntKind.min, IntKind.max, IntKind.bits, IntKind.signed] using w2
    exact ⟨⟨a0, l, A, cc, a2, a3, a4, a5, a6, a7⟩, rfl, ⟨hrd, hwf, hlc, hb.1, by show a2 < 4294967296; omega⟩, hcm⟩
end Go.Proofs.Ytplpnnjjjfcibaa
