import Derived.Test.YtkmddjbialpppaaGreatDoorMgPdG
import Derived.Test.YtkmddjbialpppaaGreatDoorMgPrA
import Derived.Test.YtkmddjbialpppaaGreatDoorMgCoRw
import Derived.Test.YtkmddjbialpppaaGreatDoorMgFlB
import Derived.Test.YtkmddjbialpppaaGreatDoorMgCoZ
import Derived.Test.YtkmddjbialpppaaGreatDoorNbC
namespace Go.Proofs.YtkmddjbialpppaaGreatDoor
open Go.ChangeShapes Go.WideShapes Go.ChangeAt Go.RowKit Go.Deep
open SG PD
set_option maxRecDepth 100000 in
theorem decSg {H : Type} {enc : TypeId × Value → H} : Dec enc Tryz.prog 136 jQ (fun _ => True) := by
  intro w base sp held n cs x h
  obtain ⟨m, hl, hf⟩ := fO Tryz.underlying136 (by kernel_rfl) (by kernel_rfl) h
  match cs, hl with
  | [c0, c1, c2, c3], _ =>
    obtain ⟨_, h0⟩ := hf 0 _ c0 rfl rfl
    obtain ⟨_, h1⟩ := hf 1 _ c1 rfl rfl
    obtain ⟨_, h2⟩ := hf 2 _ c2 rfl rfl
    obtain ⟨_, h3⟩ := hf 3 _ c3 rfl rfl
    obtain ⟨a, e0, _⟩ := DataW.trod_int Tryz.underlying3 h0
    obtain ⟨b, e1, _⟩ := DataW.trod_int Tryz.underlying3 h1
    obtain ⟨c, e2, _⟩ := DataW.trod_bool Tryz.underlying4 h2
    obtain ⟨d, e3, _⟩ := DataW.trod_bool Tryz.underlying4 h3
    simp only [List.cons.injEq, and_true] at e0 e1 e2 e3
    subst e0 e1 e2 e3
    exact ⟨⟨a, b, c, d⟩, rfl, trivial⟩
theorem decInt {H : Type} {enc : TypeId × Value → H} : Dec enc Tryz.prog 3 (fun x : Int => [.int .i64 x]) (fun _ => True) := by
  intro w base sp held n cs x h
  obtain ⟨a, e, _⟩ := DataW.trod_int Tryz.underlying3 h
  exact ⟨a, e, trivial⟩
theorem decInt64 {H : Type} {enc : TypeId × Value → H} : Dec enc Tryz.prog 2 (fun x : Int => [.int .i64 x]) (fun x => -9223372036854775808 ≤ x ∧ x < 9223372036854775808) := by
  intro w base sp held n cs x h
  obtain ⟨a, e, _, wa⟩ := DataW.trod_int Tryz.underlying2 h
  have hb : -9223372036854775808 ≤ a ∧ a ≤ 9223372036854775807 := by simpa [Lit.wf, IntKind.min, IntKind.max, IntKind.bits, IntKind.signed] using wa
  exact ⟨a, e, by omega⟩
end Go.Proofs.YtkmddjbialpppaaGreatDoor
namespace Go.Proofs.YtkmddjbialpppaaGreatDoor
open Go.ChangeShapes Go.WideShapes Go.ChangeAt Go.RowKit Go.Deep
section
variable {H : Type} {enc : TypeId × Value → H} {P : Program}
def DecW {α : Type} (enc : TypeId × Value → H) (P : Program) (w : World) (e : TypeId) (ec : α → List Value) (wf : α → Prop) : Prop :=
  ∀ (base : Nat) (sp : Nat → Bool) (held : Bool) (n : Nat) (cs : List Value) (x : DataW H × List MemPlace), DataW.trod enc P w base sp held n e cs = some x → ∃ a : α, cs = ec a ∧ wf a
theorem open_rowsW {α : Type} {t e : TypeId} {ec : α → List Value} {wf : α → Prop} {sz : Nat} {w : World} (ht : P.underlying t = some (.slice e)) (hc : P.cellsOf e = sz) (hsz : 0 < sz) (hd : DecW enc P w e ec wf) (hlen : ∀ a, (ec a).length = sz)
    {base : Nat} {sp : Nat → Bool} {held : Bool} {fuel : Nat} {cs : List Value} {x : DataW H × List MemPlace} (h : DataW.trod enc P w base sp held fuel t cs = some x) :
    ∃ (A : Option Addr) (c : Nat) (l : List α), cs = [.slice A l.length c] ∧ l.length ≤ c ∧ c ≤ maxLen ∧ Rd w w.heap.size A sz (l.map ec) ∧ ∀ a ∈ l, wf a := by
  rcases open_slice ht h with ⟨rfl, _⟩ | ⟨a, len, cap, m, n, D, Pl, rfl, _, hlc, hcm, hm, _, hel⟩
  · exact ⟨none, 0, [], rfl, by simp, by simp, Rd.nil, by simp⟩
  · have hlm : len ≤ m := by rw [hm]; split <;> omega
    rw [hc] at hel
    obtain ⟨l, hl, hq⟩ := list_of (n := len) (Q := fun i (x : α) => wf x ∧ ∀ j v, (ec x)[j]? = some v → w.cell? ((a.add (i * sz)).add j) = some v) (fun i hi => by
      obtain ⟨cs', hcs, htr⟩ := hel i (by omega)
      obtain ⟨_, hcl, hat⟩ := World.cells?_some hcs
      obtain ⟨x, hx, hwf⟩ := hd _ _ _ _ _ _ htr
      refine ⟨x, hwf, fun j v hj => ?_⟩
      rw [hx] at hcl hat
      have hjl : j < (ec x).length := (List.getElem?_eq_some_iff.1 hj).1
      rw [hat j (by omega)]; exact hj)
    refine ⟨some a, cap, l, by rw [hl], by omega, hcm, fun hn => ?_, fun x hx => ?_⟩
    · rw [List.length_map] at hn
      have h0 : 0 < (ec l[0]).length := by rw [hlen]; exact hsz
      have hc0 := (hq 0 hn).2 0 (ec l[0])[0] (List.getElem?_eq_getElem h0)
      obtain ⟨b, off, spot⟩ := a
      have hspot : spot = none := by simpa [Addr.add] using World.cell?_spot hc0
      subst hspot
      refine ⟨b, off, rfl, ?_, fun k row j v hk hj => ?_⟩
      · have := cell_lt hc0; simpa [Addr.add] using this
      · rw [List.getElem?_map] at hk
        obtain ⟨y, hy, rfl⟩ := Option.map_eq_some_iff.1 hk
        obtain ⟨hkl, rfl⟩ := List.getElem?_eq_some_iff.1 hy
        have := (hq k hkl).2 j v hj
        rw [Go.WideShapes.add_plain, Go.WideShapes.add_plain] at this
        exact this
    · obtain ⟨i, hi, rfl⟩ := List.mem_iff_getElem.1 hx
      exact (hq i hi).1
theorem trod_at {t : TypeId} {fs : Array Field} (ht : P.underlying t = some (.struct fs)) {w : World} {base : Nat} {sp : Nat → Bool} {held : Bool} {fuel : Nat} {cs : List Value} {x : DataW H × List MemPlace}
    (h : DataW.trod enc P w base sp held fuel t cs = some x) : ∃ m, cs.length = P.cellsOf t ∧ ∀ (i : Nat) (f : Field), fs[i]? = some f → ∃ y, DataW.trod enc P w base sp held m f.type ((cs.drop f.offset).take (P.cellsOf f.type)) = some y := by
  obtain ⟨xs, m, _, _, hlen, hxl, hg⟩ := DataW.trod_struct ht h
  refine ⟨m, hlen, fun i f hf => ?_⟩
  have h1 := hg i f hf
  have hi : i < fs.size := (Array.getElem?_eq_some_iff.1 hf).1
  exact ⟨xs[i]'(by omega), by rw [h1, List.getElem?_eq_getElem (by omega)]⟩
end
end Go.Proofs.YtkmddjbialpppaaGreatDoor
namespace Go.Proofs.YtkmddjbialpppaaGreatDoor
open Go.ChangeShapes Go.WideShapes Go.ChangeAt Go.RowKit Go.Deep
open CM PD SG
theorem lim_wf {a : Int} (wa : Lit.wf (.int .i64 a) = true) : lim a := by
  have : -9223372036854775808 ≤ a ∧ a ≤ 9223372036854775807 := by simpa [Lit.wf, IntKind.min, IntKind.max, IntKind.bits, IntKind.signed] using wa
  exact ⟨this.1, by omega⟩
set_option maxRecDepth 100000 in
theorem decWy {H : Type} {enc : TypeId × Value → H} : Dec enc Tryz.prog 73 (fun w : Wy => [.int .i64 w.kind, .int .i64 w.first, .int .i64 w.period, .int .i64 w.reps, .int .i64 w.gap]) (fun _ => True) := by
  intro w base sp held n cs x h
  obtain ⟨m, hl, hf⟩ := fO Tryz.underlying73 (by kernel_rfl) (by kernel_rfl) h
  match cs, hl with
  | [c0, c1, c2, c3, c4], _ =>
    obtain ⟨_, h0⟩ := hf 0 _ c0 rfl rfl
    obtain ⟨_, h1⟩ := hf 1 _ c1 rfl rfl
    obtain ⟨_, h2⟩ := hf 2 _ c2 rfl rfl
    obtain ⟨_, h3⟩ := hf 3 _ c3 rfl rfl
    obtain ⟨_, h4⟩ := hf 4 _ c4 rfl rfl
    obtain ⟨a0, e0, _⟩ := DataW.trod_int Tryz.underlying3 h0
    obtain ⟨a1, e1, _⟩ := DataW.trod_int Tryz.underlying3 h1
    obtain ⟨a2, e2, _⟩ := DataW.trod_int Tryz.underlying3 h2
    obtain ⟨a3, e3, _⟩ := DataW.trod_int Tryz.underlying3 h3
    obtain ⟨a4, e4, _⟩ := DataW.trod_int Tryz.underlying3 h4
    simp only [List.cons.injEq, and_true] at e0 e1 e2 e3 e4
    subst e0 e1 e2 e3 e4
    exact ⟨⟨a0, a1, a2, a3, a4⟩, rfl, trivial⟩
set_option maxRecDepth 100000 in
theorem decFlt {H : Type} {enc : TypeId × Value → H} : Dec enc Tryz.prog 138 fC (fun _ => True) := by
  intro w base sp held n cs x h
  obtain ⟨m, hl, hf⟩ := fO Tryz.underlying138 (by kernel_rfl) (by kernel_rfl) h
  match cs, hl with
  | [c0, c1, c2, c3, c4, c5, c6, c7, c8], _ =>
    obtain ⟨_, h0⟩ := hf 0 _ c0 rfl rfl
    obtain ⟨_, h1⟩ := hf 1 _ c1 rfl rfl
    obtain ⟨_, h2⟩ := hf 2 _ c2 rfl rfl
    obtain ⟨_, h3⟩ := hf 3 _ c3 rfl rfl
    obtain ⟨_, h4⟩ := hf 4 _ c4 rfl rfl
    obtain ⟨_, h5⟩ := hf 5 _ c5 rfl rfl
    obtain ⟨_, h6⟩ := hf 6 _ c6 rfl rfl
    obtain ⟨_, h7⟩ := hf 7 _ c7 rfl rfl
    obtain ⟨_, h8⟩ := hf 8 _ c8 rfl rfl
    obtain ⟨a0, e0, _⟩ := DataW.trod_int Tryz.underlying3 h0
    obtain ⟨a1, e1, _⟩ := DataW.trod_int Tryz.underlying2 h1
    obtain ⟨a2, e2, _⟩ := DataW.trod_int Tryz.underlying2 h2
    obtain ⟨a3, e3, _⟩ := DataW.trod_int Tryz.underlying2 h3
    obtain ⟨a4, e4, _⟩ := DataW.trod_int Tryz.underlying2 h4
    obtain ⟨a5, e5, _⟩ := DataW.trod_int Tryz.underlying3 h5
    obtain ⟨a6, e6, _⟩ := DataW.trod_int Tryz.underlying3 h6
    obtain ⟨a7, e7, _⟩ := DataW.trod_int Tryz.underlying2 h7
    obtain ⟨a8, e8, _⟩ := DataW.trod_int Tryz.underlying3 h8
    simp only [List.cons.injEq, and_true] at e0 e1 e2 e3 e4 e5 e6 e7 e8
    subst e0 e1 e2 e3 e4 e5 e6 e7 e8
    exact ⟨⟨a0, a1, a2, a3, a4, a5, a6, a7, a8⟩, rfl, trivial⟩
def LyRaw (l : Lv) (w : World) : Prop := SgR w w.heap.size l.A l.L.sgs ∧ InR w w.heap.size l.B l.L.nws ∧ l.L.sgs.length ≤ l.c ∧ l.L.nws.length ≤ l.d ∧ l.c ≤ maxLen ∧ l.d ≤ maxLen
set_option maxRecDepth 100000 in
theorem decLv {H : Type} {enc : TypeId × Value → H} (w : World) : DecW enc Tryz.prog w 66 Lv.cs (fun l => LyRaw l w) := by
  intro base sp held n cs x h
  obtain ⟨m, hl, hf⟩ := fO Tryz.underlying66 (by kernel_rfl) (by kernel_rfl) h
  match cs, hl with
  | [c0, c1, c2], _ =>
    obtain ⟨_, h0⟩ := hf 0 _ c0 rfl rfl
    obtain ⟨_, h1⟩ := hf 1 _ c1 rfl rfl
    obtain ⟨_, h2⟩ := hf 2 _ c2 rfl rfl
    obtain ⟨a, e0, _⟩ := DataW.trod_int Tryz.underlying3 h0
    obtain ⟨A, c, l, e1, hlc, hm1, hrd, _⟩ := iE Tryz.underlying64 (sz := 4) (by kernel_rfl) (by decide) decSg (fun _ => rfl) h1
    obtain ⟨B, d, l2, e2, hld, hm2, hrd2, _⟩ := iE Tryz.underlying61 (sz := 1) (by kernel_rfl) (by decide) decInt (fun _ => rfl) h2
    simp only [List.cons.injEq, and_true] at e0 e1 e2
    subst e0 e1 e2
    exact ⟨⟨⟨a, l, l2⟩, A, c, B, d⟩, rfl, hrd, hrd2, hlc, hld, hm1, hm2⟩
set_option maxRecDepth 100000 in
set_option maxHeartbeats 4000000 in
theorem decPd {H : Type} {enc : TypeId × Value → H} (w : World) : DecW enc Tryz.prog w 79 Pd.cs (fun p => p.Raw w) := by
  intro base sp held n cs x h
  obtain ⟨m, hl, hf⟩ := trod_at Tryz.underlying79 h
  have kP : Tryz.prog.cellsOf 79 = 22 := by kernel_rfl
  have k0 : Tryz.prog.cellsOf 23 = 1 := by kernel_rfl
  have k1 : Tryz.prog.cellsOf 3 = 1 := by kernel_rfl
  have k2 : Tryz.prog.cellsOf 66 = 3 := by kernel_rfl
  have k3 : Tryz.prog.cellsOf 5 = 1 := by kernel_rfl
  have k4 : Tryz.prog.cellsOf 68 = 1 := by kernel_rfl
  have k5 : Tryz.prog.cellsOf 67 = 1 := by kernel_rfl
  have k6 : Tryz.prog.cellsOf 73 = 5 := by kernel_rfl
  rw [kP] at hl
  match cs, hl with
  | [c0, c1, c2, c3, c4, c5, c6, c7, c8, c9, c10, c11, c12, c13, c14, c15, c16, c17, c18, c19, c20, c21], _ =>
    obtain ⟨_, h0⟩ : ∃ y, DataW.trod enc Tryz.prog w base sp held m 23 (([c0, c1, c2, c3, c4, c5, c6, c7, c8, c9, c10, c11, c12, c13, c14, c15, c16, c17, c18, c19, c20, c21].drop 0).take (Tryz.prog.cellsOf 23)) = some y := hf 0 _ rfl
    rw [k0] at h0
    simp only [List.drop_succ_cons, List.drop_zero, List.take_succ_cons, List.take_zero] at h0
    obtain ⟨_, h1⟩ : ∃ y, DataW.trod enc Tryz.prog w base sp held m 3 (([c0, c1, c2, c3, c4, c5, c6, c7, c8, c9, c10, c11, c12, c13, c14, c15, c16, c17, c18, c19, c20, c21].drop 1).take (Tryz.prog.cellsOf 3)) = some y := hf 1 _ rfl
    rw [k1] at h1
    simp only [List.drop_succ_cons, List.drop_zero, List.take_succ_cons, List.take_zero] at h1
    obtain ⟨_, h2⟩ : ∃ y, DataW.trod enc Tryz.prog w base sp held m 3 (([c0, c1, c2, c3, c4, c5, c6, c7, c8, c9, c10, c11, c12, c13, c14, c15, c16, c17, c18, c19, c20, c21].drop 2).take (Tryz.prog.cellsOf 3)) = some y := hf 2 _ rfl
    rw [k1] at h2
    simp only [List.drop_succ_cons, List.drop_zero, List.take_succ_cons, List.take_zero] at h2
    obtain ⟨_, h3⟩ : ∃ y, DataW.trod enc Tryz.prog w base sp held m 66 (([c0, c1, c2, c3, c4, c5, c6, c7, c8, c9, c10, c11, c12, c13, c14, c15, c16, c17, c18, c19, c20, c21].drop 3).take (Tryz.prog.cellsOf 66)) = some y := hf 3 _ rfl
    rw [k2] at h3
    simp only [List.drop_succ_cons, List.drop_zero, List.take_succ_cons, List.take_zero] at h3
    obtain ⟨_, h4⟩ : ∃ y, DataW.trod enc Tryz.prog w base sp held m 5 (([c0, c1, c2, c3, c4, c5, c6, c7, c8, c9, c10, c11, c12, c13, c14, c15, c16, c17, c18, c19, c20, c21].drop 6).take (Tryz.prog.cellsOf 5)) = some y := hf 4 _ rfl
    rw [k3] at h4
    simp only [List.drop_succ_cons, List.drop_zero, List.take_succ_cons, List.take_zero] at h4
    obtain ⟨_, h5⟩ : ∃ y, DataW.trod enc Tryz.prog w base sp held m 68 (([c0, c1, c2, c3, c4, c5, c6, c7, c8, c9, c10, c11, c12, c13, c14, c15, c16, c17, c18, c19, c20, c21].drop 7).take (Tryz.prog.cellsOf 68)) = some y := hf 5 _ rfl
    rw [k4] at h5
    simp only [List.drop_succ_cons, List.drop_zero, List.take_succ_cons, List.take_zero] at h5
    obtain ⟨_, h6⟩ : ∃ y, DataW.trod enc Tryz.prog w base sp held m 68 (([c0, c1, c2, c3, c4, c5, c6, c7, c8, c9, c10, c11, c12, c13, c14, c15, c16, c17, c18, c19, c20, c21].drop 8).take (Tryz.prog.cellsOf 68)) = some y := hf 6 _ rfl
    rw [k4] at h6
    simp only [List.drop_succ_cons, List.drop_zero, List.take_succ_cons, List.take_zero] at h6
    obtain ⟨_, h7⟩ : ∃ y, DataW.trod enc Tryz.prog w base sp held m 67 (([c0, c1, c2, c3, c4, c5, c6, c7, c8, c9, c10, c11, c12, c13, c14, c15, c16, c17, c18, c19, c20, c21].drop 9).take (Tryz.prog.cellsOf 67)) = some y := hf 7 _ rfl
    rw [k5] at h7
    simp only [List.drop_succ_cons, List.drop_zero, List.take_succ_cons, List.take_zero] at h7
    obtain ⟨_, h8⟩ : ∃ y, DataW.trod enc Tryz.prog w base sp held m 73 (([c0, c1, c2, c3, c4, c5, c6, c7, c8, c9, c10, c11, c12, c13, c14, c15, c16, c17, c18, c19, c20, c21].drop 10).take (Tryz.prog.cellsOf 73)) = some y := hf 8 _ rfl
    rw [k6] at h8
    simp only [List.drop_succ_cons, List.drop_zero, List.take_succ_cons, List.take_zero] at h8
    obtain ⟨_, h9⟩ : ∃ y, DataW.trod enc Tryz.prog w base sp held m 73 (([c0, c1, c2, c3, c4, c5, c6, c7, c8, c9, c10, c11, c12, c13, c14, c15, c16, c17, c18, c19, c20, c21].drop 15).take (Tryz.prog.cellsOf 73)) = some y := hf 9 _ rfl
    rw [k6] at h9
    simp only [List.drop_succ_cons, List.drop_zero, List.take_succ_cons, List.take_zero] at h9
    obtain ⟨_, h10⟩ : ∃ y, DataW.trod enc Tryz.prog w base sp held m 3 (([c0, c1, c2, c3, c4, c5, c6, c7, c8, c9, c10, c11, c12, c13, c14, c15, c16, c17, c18, c19, c20, c21].drop 20).take (Tryz.prog.cellsOf 3)) = some y := hf 10 _ rfl
    rw [k1] at h10
    simp only [List.drop_succ_cons, List.drop_zero, List.take_succ_cons, List.take_zero] at h10
    obtain ⟨_, h11⟩ : ∃ y, DataW.trod enc Tryz.prog w base sp held m 3 (([c0, c1, c2, c3, c4, c5, c6, c7, c8, c9, c10, c11, c12, c13, c14, c15, c16, c17, c18, c19, c20, c21].drop 21).take (Tryz.prog.cellsOf 3)) = some y := hf 11 _ rfl
    rw [k1] at h11
    simp only [List.drop_succ_cons, List.drop_zero, List.take_succ_cons, List.take_zero] at h11
    obtain ⟨id, e0, _, w0⟩ := DataW.trod_int Tryz.underlying23 h0
    obtain ⟨frm, e1, _, w1⟩ := DataW.trod_int Tryz.underlying3 h1
    obtain ⟨dst, e2, _, w2⟩ := DataW.trod_int Tryz.underlying3 h2
    obtain ⟨ly, e3, la, lb, lc, ld, le, lf⟩ := decLv w _ _ _ _ _ _ h3
    obtain ⟨fill, e4, _⟩ := DataW.trod_int Tryz.underlying5 h4
    obtain ⟨SA, sc, S, e5, s1, s4, s2, s3⟩ := iE Tryz.underlying68 (sz := 1) (by kernel_rfl) (by decide) decInt64 (fun _ => rfl) h5
    obtain ⟨UA, uc, U, e6, u1, u4, u2, u3⟩ := iE Tryz.underlying68 (sz := 1) (by kernel_rfl) (by decide) decInt64 (fun _ => rfl) h6
    obtain ⟨FA, fc, F, e7, f1, f4, f2, _⟩ := iE Tryz.underlying67 (sz := 9) (by kernel_rfl) (by decide) decFlt (fun _ => rfl) h7
    obtain ⟨yes, e8, _⟩ := decWy _ _ _ _ _ _ _ h8
    obtain ⟨no, e9, _⟩ := decWy _ _ _ _ _ _ _ h9
    obtain ⟨delay, e10, _⟩ := DataW.trod_int Tryz.underlying3 h10
    obtain ⟨limit, e11, _, w11⟩ := DataW.trod_int Tryz.underlying3 h11
    simp only [List.cons.injEq, and_true, Lv.cs] at e0 e1 e2 e3 e4 e5 e6 e7 e8 e9 e10 e11
    obtain ⟨e3a, e3b, e3c⟩ := e3
    obtain ⟨e8a, e8b, e8c, e8d, e8e⟩ := e8
    obtain ⟨e9a, e9b, e9c, e9d, e9e⟩ := e9
    have hid : 0 ≤ id ∧ id ≤ 4294967295 := by simpa [Lit.wf, IntKind.min, IntKind.max, IntKind.bits, IntKind.signed] using w0
    refine ⟨⟨id, frm, dst, ly, fill, ⟨S, SA, sc⟩, ⟨U, UA, uc⟩, ⟨F, FA, fc⟩, yes, no, delay, limit⟩, ?_, ⟨la, lb, lc, ld, s2, s3, s1, u2, u3, u1, f2, f1, ⟨hid.1, by show id < 4294967296; omega⟩, lim_wf w1, lim_wf w2, lim_wf w11, ⟨le, lf⟩, ⟨s4, u4, f4⟩⟩⟩
    subst e0 e1 e2 e3a e3b e3c e4 e5 e6 e7 e8a e8b e8c e8d e8e e9a e9b e9c e9d e9e e10 e11
    rfl
set_option maxRecDepth 100000 in
theorem open_conf {H : Type} {enc : TypeId × Value → H} {w W : World} {r : Reach} {b0 base : Nat} {sp : Nat → Bool} {held : Bool} {v : Value} {d : DataW H} {p : List MemPlace} (hv : Value.okWide Tryz.prog W r b0 25 v) (h : DataW.Trod enc Tryz.prog w base sp held 25 v d p) :
    ∃ c : Cf, v = .agg c.cs.toArray ∧ c.Raw w ∧ c.c ≤ maxLen := by
  obtain ⟨cs, rfl, _⟩ := okWide_struct Tryz.underlying25 hv
  obtain ⟨fuel, hf⟩ := h
  obtain ⟨m, hl, hf⟩ := fO Tryz.underlying25 (by kernel_rfl) (by kernel_rfl) hf
  obtain ⟨cs⟩ := cs
  simp only [Value.cells] at hl hf
  match cs, hl with
  | [c0, c1, c2, c3, c4, c5, c6, c7], _ =>
    obtain ⟨_, h0⟩ := hf 0 _ c0 rfl rfl
    obtain ⟨_, h1⟩ := hf 1 _ c1 rfl rfl
    obtain ⟨_, h2⟩ := hf 2 _ c2 rfl rfl
    obtain ⟨_, h3⟩ := hf 3 _ c3 rfl rfl
    obtain ⟨_, h4⟩ := hf 4 _ c4 rfl rfl
    obtain ⟨_, h5⟩ := hf 5 _ c5 rfl rfl
    obtain ⟨_, h6⟩ := hf 6 _ c6 rfl rfl
    obtain ⟨_, h7⟩ := hf 7 _ c7 rfl rfl
    obtain ⟨a0, e0, _, w0⟩ := DataW.trod_int Tryz.underlying3 h0
    obtain ⟨A, cc, l, e1, hlc, hcm, hrd, hwf⟩ := open_rowsW Tryz.underlying22 (sz := 22) (by kernel_rfl) (by decide) (decPd w) (fun _ => rfl) h1
    obtain ⟨a2, e2, _, w2⟩ := DataW.trod_int Tryz.underlying23 h2
    obtain ⟨a3, e3, _, w3⟩ := DataW.trod_int Tryz.underlying3 h3
    obtain ⟨a4, e4, _, w4⟩ := DataW.trod_int Tryz.underlying3 h4
    obtain ⟨a5, e5, _, w5⟩ := DataW.trod_int Tryz.underlying3 h5
    obtain ⟨a6, e6, _, w6⟩ := DataW.trod_int Tryz.underlying3 h6
    obtain ⟨a7, e7, _, w7⟩ := DataW.trod_int Tryz.underlying3 h7
    simp only [List.cons.injEq, and_true] at e0 e1 e2 e3 e4 e5 e6 e7
    subst e0 e1 e2 e3 e4 e5 e6 e7
    have hb : 0 ≤ a2 ∧ a2 ≤ 4294967295 := by simpa [Lit.wf, IntKind.min, IntKind.max, IntKind.bits, IntKind.signed] using w2
    exact ⟨⟨a0, l, A, cc, a2, a3, a4, a5, a6, a7⟩, rfl, ⟨hrd, hwf, hlc, hb.1, by show a2 < 4294967296; omega⟩, hcm⟩
end Go.Proofs.YtkmddjbialpppaaGreatDoor
namespace Go.Proofs.YtkmddjbialpppaaGreatDoor
open Go.ChangeShapes Go.WideShapes Go.ChangeAt Go.RowKit Go.Deep
open CM PD SG ND
theorem u32Wf {a : Int} (h : Lit.wf (.int .u32 a) = true) : 0 ≤ a ∧ a < 4294967296 := by
  have : 0 ≤ a ∧ a ≤ 4294967295 := by simpa [Lit.wf, IntKind.min, IntKind.max, IntKind.bits, IntKind.signed] using h
  omega
structure TvRaw (t : Tv) : Prop where
  id : 0 ≤ t.id ∧ t.id < 4294967296
  mask : 0 ≤ t.mask ∧ t.mask < 4294967296
  data : t.data.size ≤ maxLen
set_option maxRecDepth 100000 in
set_option maxHeartbeats 4000000 in
theorem decTv {H : Type} {enc : TypeId × Value → H} : Dec enc Tryz.prog 27 bD (TvRaw) := by
  intro w base sp held n cs x h
  obtain ⟨m, hl, hf⟩ := trod_at Tryz.underlying27 h
  have kP : Tryz.prog.cellsOf 27 = 13 := by kernel_rfl
  have k0 : Tryz.prog.cellsOf 4 = 1 := by kernel_rfl
  have k1 : Tryz.prog.cellsOf 23 = 1 := by kernel_rfl
  have k2 : Tryz.prog.cellsOf 3 = 1 := by kernel_rfl
  have k3 : Tryz.prog.cellsOf 9 = 1 := by kernel_rfl
  rw [kP] at hl
  match cs, hl with
  | [c0, c1, c2, c3, c4, c5, c6, c7, c8, c9, c10, c11, c12], _ =>
    obtain ⟨_, h0⟩ : ∃ y, DataW.trod enc Tryz.prog w base sp held m 4 (([c0, c1, c2, c3, c4, c5, c6, c7, c8, c9, c10, c11, c12].drop 0).take (Tryz.prog.cellsOf 4)) = some y := hf 0 _ rfl
    rw [k0] at h0
    simp only [List.drop_zero, List.take_succ_cons, List.take_zero] at h0
    obtain ⟨_, h1⟩ : ∃ y, DataW.trod enc Tryz.prog w base sp held m 23 (([c0, c1, c2, c3, c4, c5, c6, c7, c8, c9, c10, c11, c12].drop 1).take (Tryz.prog.cellsOf 23)) = some y := hf 1 _ rfl
    rw [k1] at h1
    simp only [List.drop_succ_cons, List.drop_zero, List.take_succ_cons, List.take_zero] at h1
    obtain ⟨_, h2⟩ : ∃ y, DataW.trod enc Tryz.prog w base sp held m 23 (([c0, c1, c2, c3, c4, c5, c6, c7, c8, c9, c10, c11, c12].drop 2).take (Tryz.prog.cellsOf 23)) = some y := hf 2 _ rfl
    rw [k1] at h2
    simp only [List.drop_succ_cons, List.drop_zero, List.take_succ_cons, List.take_zero] at h2
    obtain ⟨_, h3⟩ : ∃ y, DataW.trod enc Tryz.prog w base sp held m 4 (([c0, c1, c2, c3, c4, c5, c6, c7, c8, c9, c10, c11, c12].drop 3).take (Tryz.prog.cellsOf 4)) = some y := hf 3 _ rfl
    rw [k0] at h3
    simp only [List.drop_succ_cons, List.drop_zero, List.take_succ_cons, List.take_zero] at h3
    obtain ⟨_, h4⟩ : ∃ y, DataW.trod enc Tryz.prog w base sp held m 3 (([c0, c1, c2, c3, c4, c5, c6, c7, c8, c9, c10, c11, c12].drop 4).take (Tryz.prog.cellsOf 3)) = some y := hf 4 _ rfl
    rw [k2] at h4
    simp only [List.drop_succ_cons, List.drop_zero, List.take_succ_cons, List.take_zero] at h4
    obtain ⟨_, h5⟩ : ∃ y, DataW.trod enc Tryz.prog w base sp held m 9 (([c0, c1, c2, c3, c4, c5, c6, c7, c8, c9, c10, c11, c12].drop 5).take (Tryz.prog.cellsOf 9)) = some y := hf 5 _ rfl
    rw [k3] at h5
    simp only [List.drop_succ_cons, List.drop_zero, List.take_succ_cons, List.take_zero] at h5
    obtain ⟨_, h6⟩ : ∃ y, DataW.trod enc Tryz.prog w base sp held m 3 (([c0, c1, c2, c3, c4, c5, c6, c7, c8, c9, c10, c11, c12].drop 6).take (Tryz.prog.cellsOf 3)) = some y := hf 6 _ rfl
    rw [k2] at h6
    simp only [List.drop_succ_cons, List.drop_zero, List.take_succ_cons, List.take_zero] at h6
    obtain ⟨_, h7⟩ : ∃ y, DataW.trod enc Tryz.prog w base sp held m 3 (([c0, c1, c2, c3, c4, c5, c6, c7, c8, c9, c10, c11, c12].drop 7).take (Tryz.prog.cellsOf 3)) = some y := hf 7 _ rfl
    rw [k2] at h7
    simp only [List.drop_succ_cons, List.drop_zero, List.take_succ_cons, List.take_zero] at h7
    obtain ⟨_, h8⟩ : ∃ y, DataW.trod enc Tryz.prog w base sp held m 3 (([c0, c1, c2, c3, c4, c5, c6, c7, c8, c9, c10, c11, c12].drop 8).take (Tryz.prog.cellsOf 3)) = some y := hf 8 _ rfl
    rw [k2] at h8
    simp only [List.drop_succ_cons, List.drop_zero, List.take_succ_cons, List.take_zero] at h8
    obtain ⟨_, h9⟩ : ∃ y, DataW.trod enc Tryz.prog w base sp held m 4 (([c0, c1, c2, c3, c4, c5, c6, c7, c8, c9, c10, c11, c12].drop 9).take (Tryz.prog.cellsOf 4)) = some y := hf 9 _ rfl
    rw [k0] at h9
    simp only [List.drop_succ_cons, List.drop_zero, List.take_succ_cons, List.take_zero] at h9
    obtain ⟨_, h10⟩ : ∃ y, DataW.trod enc Tryz.prog w base sp held m 4 (([c0, c1, c2, c3, c4, c5, c6, c7, c8, c9, c10, c11, c12].drop 10).take (Tryz.prog.cellsOf 4)) = some y := hf 10 _ rfl
    rw [k0] at h10
    simp only [List.drop_succ_cons, List.drop_zero, List.take_succ_cons, List.take_zero] at h10
    obtain ⟨_, h11⟩ : ∃ y, DataW.trod enc Tryz.prog w base sp held m 4 (([c0, c1, c2, c3, c4, c5, c6, c7, c8, c9, c10, c11, c12].drop 11).take (Tryz.prog.cellsOf 4)) = some y := hf 11 _ rfl
    rw [k0] at h11
    simp only [List.drop_succ_cons, List.drop_zero, List.take_succ_cons, List.take_zero] at h11
    obtain ⟨_, h12⟩ : ∃ y, DataW.trod enc Tryz.prog w base sp held m 4 (([c0, c1, c2, c3, c4, c5, c6, c7, c8, c9, c10, c11, c12].drop 12).take (Tryz.prog.cellsOf 4)) = some y := hf 12 _ rfl
    rw [k0] at h12
    simp only [List.drop_succ_cons, List.drop_zero, List.take_succ_cons, List.take_zero] at h12
    obtain ⟨a0, e0, _⟩ := DataW.trod_bool Tryz.underlying4 h0
    obtain ⟨a1, e1, _, w1⟩ := DataW.trod_int Tryz.underlying23 h1
    obtain ⟨a2, e2, _, w2⟩ := DataW.trod_int Tryz.underlying23 h2
    obtain ⟨a3, e3, _⟩ := DataW.trod_bool Tryz.underlying4 h3
    obtain ⟨a4, e4, _, w4⟩ := DataW.trod_int Tryz.underlying3 h4
    obtain ⟨a5, e5, _, w5⟩ := DataW.trod_string Tryz.underlying9 h5
    obtain ⟨a6, e6, _, w6⟩ := DataW.trod_int Tryz.underlying3 h6
    obtain ⟨a7, e7, _, w7⟩ := DataW.trod_int Tryz.underlying3 h7
    obtain ⟨a8, e8, _, w8⟩ := DataW.trod_int Tryz.underlying3 h8
    obtain ⟨a9, e9, _⟩ := DataW.trod_bool Tryz.underlying4 h9
    obtain ⟨a10, e10, _⟩ := DataW.trod_bool Tryz.underlying4 h10
    obtain ⟨a11, e11, _⟩ := DataW.trod_bool Tryz.underlying4 h11
    obtain ⟨a12, e12, _⟩ := DataW.trod_bool Tryz.underlying4 h12
    simp only [List.cons.injEq, and_true] at e0 e1 e2 e3 e4 e5 e6 e7 e8 e9 e10 e11 e12
    refine ⟨⟨a0, a1, a2, a3, a4, a5, a6, a7, a8, a9, a10, a11, a12⟩, ?_, ?_⟩
    · subst e0 e1 e2 e3 e4 e5 e6 e7 e8 e9 e10 e11 e12
      rfl
    · exact ⟨u32Wf w1, u32Wf w2, by simpa using w5⟩
end Go.Proofs.YtkmddjbialpppaaGreatDoor
namespace Go.Proofs.YtkmddjbialpppaaGreatDoor
open Go.ChangeShapes Go.WideShapes Go.ChangeAt Go.RowKit
open CM PD SG ND
theorem Cf.Raw.cut6 {c : Cf} {w : World} (h : c.Raw w) : ({ c with l := c.l.take 6 } : Cf).Ok w :=
  ⟨by have k := Rd.take h.r 6; unfold pdRow at k ⊢; rw [← List.map_take] at k; exact k, fun p hp => (h.p p (List.mem_of_mem_take hp)).ok, by show (c.l.take 6).length ≤ 1000; rw [List.length_take]; omega, h.base⟩
theorem nodeBegins_walk (c : Cf) (id : Int) (t : Tv) (mem : Int) (w : World) (hc : c.Raw w) (ht : TvRaw t) (hm : 0 ≤ mem ∧ mem < 65536) :
    Calls Tryz.prog 3 #[.agg c.cs.toArray, .int .i64 id, .agg (bD t).toArray, .int .u16 mem] w fun e w' => e = .returned (.bool true) ∧ Below w.heap.size w w' := by
  obtain ⟨d, hd⟩ : ∃ d, d = ({ c with l := c.l.take 6 } : Cf) := ⟨_, rfl⟩
  obtain ⟨u, hu⟩ : ∃ u, u = ({ t with data := t.data.extract 0 (min t.data.size 12) } : Tv) := ⟨_, rfl⟩
  have ho : d.Ok w := by rw [hd]; exact hc.cut6
  have hui : 0 ≤ u.id ∧ 0 ≤ u.mask := by rw [hu]; exact ⟨ht.id.1, ht.mask.1⟩
  rcases h : (cF d && cK id 0 (d.nodes - 1)) with _ | _
  · exact nb_bad1 c d id t u mem w hc.n hd ht.data hu hui ho h
  · obtain ⟨h1, h2⟩ := Bool.and_eq_true_iff.1 h
    obtain ⟨h3, h4⟩ := b8 h2
    rcases hb : tvB u with _ | _
    · exact nb_bad2 c d id t u mem w hc.n hd ht.data hu hui ho hm h1 h3 (by omega) hb
    · exact nb_good c d id t u mem w hc.n hd ht.data hu hui ho hm h1 h3 (by omega) hb
end Go.Proofs.YtkmddjbialpppaaGreatDoor
