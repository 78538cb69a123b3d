/- The walk of campanilelaw08.BusAlone. -/
import Derived.Test.YtkfedgjepiljiaaGreatDoorMgBuC
import Derived.Test.YtkfedgjepiljiaaGreatDoorBuB
import Derived.Test.YtkfedgjepiljiaaGreatDoorMgFrR
import Derived.Test.YtkfedgjepiljiaaGreatDoorRows
import Derived.Test.YtkfedgjepiljiaaGreatDoorMgMem
import Derived.ProofKit
import Derived.OpenShut
import Derived.Deep.Slices
import Derived.Deep.Fields
import Derived.Test.YtkfedgjepiljiaaGreatDoorMgFrPlain
import Derived.Test.YtkfedgjepiljiaaGreatDoorMgFbA
namespace Go.Proofs.YtkfedgjepiljiaaGreatDoor
open Go.ChangeShapes Go.WideShapes Go.ChangeAt Go.RowKit
open FP (Fr bitsF bodyF)

theorem sn_mem {s : List Sn} {k : Nat} (hk : k < s.length) {P : Sn → Prop} (h : ∀ y ∈ s, P y) : P s[k] := h _ (List.getElem_mem hk)
theorem sn_box {W : World} {x : Nat} {y : Sn} {t : TypeId} {fz : Nat × Nat} (h : W.heap[x]? = some (.cells (sncs y).toArray t fz)) :
    W.cell? ⟨x, 0, none⟩ = some (.int .i64 y.at_) ∧ W.cell? ⟨x, 1, none⟩ = some (.int .i64 y.who) ∧ W.cell? ⟨x, 2, none⟩ = some (.int .i64 y.kind) ∧ W.cell? ⟨x, 8, none⟩ = some (.int .i64 y.bad) := by
  simp [World.cell?, h, sncs, evL]
theorem sentN_take (s : List Sn) {k : Nat} (hk : k < s.length) : sentN (s.take (k + 1)) = sentN (s.take k) + if s[k].kind = 1 then 1 else 0 := by
  rw [List.take_succ_eq_append_getElem hk, sentN_app]
  unfold sentN
  by_cases h : s[k].kind = 1
  · rw [if_pos h]; simp [h]
  · rw [if_neg h]; simp [h]
theorem sentN_le (s : List Sn) : sentN s ≤ s.length := by unfold sentN; exact List.length_filter_le _ _
def zSn : Sn := ⟨0, 0, 0, zFr, 0⟩

end Go.Proofs.YtkfedgjepiljiaaGreatDoor

/- The frame of every law's row: what a walk that only lays new memory owes the statement; slices and structs that came in, opened. Nothing of the program's text. -/
namespace Go.Proofs.YtkfedgjepiljiaaGreatDoor
open Go.ChangeShapes Go.WideShapes Go.ChangeAt Go.RowKit Go.Deep

theorem ownK : ownKnob Tryz.prog.godebug = none := by kernel_rfl
theorem laidOut : laidOutB Tryz.prog = true := by kernel_rfl

section
variable {H : Type} {enc : TypeId × Value → H} {P : Program}

theorem trodAll_stays (hl : laidOutB P = true) {W W' : World} {sp : Nat → Bool} : ∀ {ts : List TypeId} {vs : List Value} {ds : List (DataW H)} {ps : List MemPlace},
    (ts.all fun t => P.readableRec t && decide (t < P.types.size)) = true → DataW.TrodAll enc P W 0 (fun _ => true) true ts vs ds ps → (∀ x ∈ ps, W.sameAt W' x) → (∀ x ∈ ps, sp x.block = true) → DataW.TrodAll enc P W' 0 sp true ts vs ds ps
  | [], [], [], ps, _, h, _, _ => h
  | t :: ts, v :: vs, d :: ds, ps, hr, h, hs, hp => by
    obtain ⟨p, q, h1, h2, rfl⟩ := h
    simp only [List.all_cons, Bool.and_eq_true, decide_eq_true_eq] at hr
    exact ⟨p, q, WideElems.Trod_stays hl hr.1.1 hr.1.2 h1 (fun x hx => hs x (by simp [hx])) (fun x hx => hp x (by simp [hx])),
      trodAll_stays hl hr.2 h2 (fun x hx => hs x (by simp [hx])) (fun x hx => hp x (by simp [hx])), rfl⟩
  | [], [], _ :: _, _, _, h, _, _ => h.elim
  | [], _ :: _, [], _, _, h, _, _ => h.elim
  | [], _ :: _, _ :: _, _, _, h, _, _ => h.elim
  | _ :: _, [], [], _, _, h, _, _ => h.elim
  | _ :: _, [], _ :: _, _, _, h, _, _ => h.elim
  | _ :: _, _ :: _, [], _, _, h, _, _ => h.elim

/-- What a law's row asks of a call that answers true and has laid new memory alone. -/
theorem law_post {f : Func} {s : ChangeSpec} {W W' : World} {args : Array Value} {ds gs : List (DataW H)} {before : List MemPlace} {tb : TypeId} (hl : laidOutB P = true) (hvs : s.vars = [])
    (hW : DataW.Whole enc P f.params.toList s.vars false W args.toList ds gs before)
    (hts : (f.params.toList.all fun t => P.readableRec t && decide (t < P.types.size)) = true)
    (hres : f.resultTypes = #[tb]) (hub : P.underlying tb = some .bool)
    (hfn : s.fn H (ds ++ gs) = { results := [.lit (.bool true)], args := ds }) (hfv : gs = [])
    (hb : Below W.heap.size W W') :
    s.post enc P f false true false false W args (.bool true) W' := by
  subst hfv
  have hlt : ∀ p ∈ before, p.block < W.heap.size := fun p hp => hW.lt p hp
  have hW0 := hW
  obtain ⟨p, q, hA, hV, rfl, hfz, hnd⟩ := hW
  rw [hvs] at hV
  obtain ⟨_, rfl⟩ := trodVars_none hV
  have hres' : (Value.bool true).resultList f.resultTypes.size = [.bool true] := by rw [hres]; rfl
  have hargs : ∀ sp : Nat → Bool, (∀ x ∈ p ++ [], sp x.block = true) → DataW.TrodAll enc P W' 0 sp true f.params.toList args.toList ds p := fun sp hsp =>
    trodAll_stays hl hts hA (fun x hx => hb.same (hlt x (by simp [hx]))) (fun x hx => hsp x (by simp [hx]))
  have hrs : ∀ (b : Nat) (sp : Nat → Bool) (hd : Bool), DataW.TrodAll enc P W' b sp hd f.resultTypes.toList [.bool true] [.lit (.bool true)] [] := fun b sp hd => by
    rw [hres]; exact trodAll_cons_mk (shut_bool hub _) trodAll_mk0
  refine ⟨ds, [], p ++ [], [], p, [], hW0, ?_, ?_, ?_, World.keptBut_mono (fun x hx => ⟨hx, ?_⟩) (hb.frame (· ∈ p ++ [])), fun h => by cases h⟩
  · rw [hfn, hres']; exact hrs _ _ _
  · rw [hfn]; exact hargs _ (fun x hx => by simpa using hlt x hx)
  · rw [hfn, hvs]; rfl
  · simpa using hx

theorem cell_lt {w : World} {a : Addr} {v : Value} (h : w.cell? a = some v) : a.block < w.heap.size := by
  unfold World.cell? at h
  by_cases hlt : a.block < w.heap.size
  · exact hlt
  · rw [Array.getElem?_eq_none (by omega)] at h; simp at h

theorem list_of {α : Type} {n : Nat} {Q : Nat → α → Prop} (h : ∀ i, i < n → ∃ x, Q i x) : ∃ l : List α, l.length = n ∧ ∀ i (hi : i < l.length), Q i l[i] := by
  induction n with
  | zero => exact ⟨[], rfl, fun i hi => absurd hi (by simp)⟩
  | succ n ih =>
    obtain ⟨l, hl, hq⟩ := ih (fun i hi => h i (by omega))
    obtain ⟨x, hx⟩ := h n (by omega)
    refine ⟨l ++ [x], by simp [hl], fun i hi => ?_⟩
    by_cases e : i < l.length
    · rw [List.getElem_append_left e]; exact hq i e
    · have : i = n := by simp at hi; omega
      subst this
      rw [List.getElem_append_right (by omega)]
      simpa [hl] using hx

/-- Elements of a type e decode: their cells are those of some x. -/
def Dec {α : Type} (enc : TypeId × Value → H) (P : Program) (e : TypeId) (ec : α → List Value) (wf : α → Prop) : Prop :=
  ∀ (w : World) (base : Nat) (sp : Nat → Bool) (held : Bool) (n : Nat) (cs : List Value) (x : DataW H × List MemPlace), DataW.trod enc P w base sp held n e cs = some x → ∃ a : α, cs = ec a ∧ wf a

theorem open_rows {α : Type} {t e : TypeId} {ec : α → List Value} {wf : α → Prop} {sz : Nat} (ht : P.underlying t = some (.slice e)) (hc : P.cellsOf e = sz) (hsz : 0 < sz) (hd : Dec enc P e ec wf) (hlen : ∀ a, (ec a).length = sz)
    {w : World} {base : Nat} {sp : Nat → Bool} {held : Bool} {fuel : Nat} {cs : List Value} {x : DataW H × List MemPlace} (h : DataW.trod enc P w base sp held fuel t cs = some x) :
    ∃ (A : Option Addr) (c : Nat) (l : List α), cs = [.slice A l.length c] ∧ l.length ≤ c ∧ c ≤ maxLen ∧ Rd w w.heap.size A sz (l.map ec) ∧ ∀ a ∈ l, wf a := by
  rcases open_slice ht h with ⟨rfl, _⟩ | ⟨a, len, cap, m, n, D, Pl, rfl, _, hlc, hcm, hm, _, hel⟩
  · exact ⟨none, 0, [], rfl, by simp, by simp, Rd.nil, by simp⟩
  · have hlm : len ≤ m := by rw [hm]; split <;> omega
    rw [hc] at hel
    obtain ⟨l, hl, hq⟩ := list_of (n := len) (Q := fun i (x : α) => wf x ∧ ∀ j v, (ec x)[j]? = some v → w.cell? ((a.add (i * sz)).add j) = some v) (fun i hi => by
      obtain ⟨cs', hcs, htr⟩ := hel i (by omega)
      obtain ⟨_, hcl, hat⟩ := World.cells?_some hcs
      obtain ⟨x, hx, hwf⟩ := hd _ _ _ _ _ _ _ htr
      refine ⟨x, hwf, fun j v hj => ?_⟩
      rw [hx] at hcl hat
      have hjl : j < (ec x).length := (List.getElem?_eq_some_iff.1 hj).1
      rw [hat j (by omega)]; exact hj)
    refine ⟨some a, cap, l, by rw [hl], by omega, hcm, fun hn => ?_, fun x hx => ?_⟩
    · rw [List.length_map] at hn
      have h0 : 0 < (ec l[0]).length := by rw [hlen]; exact hsz
      have hc0 := (hq 0 hn).2 0 (ec l[0])[0] (List.getElem?_eq_getElem h0)
      obtain ⟨b, off, spot⟩ := a
      have hspot : spot = none := by simpa [Addr.add] using World.cell?_spot hc0
      subst hspot
      refine ⟨b, off, rfl, ?_, fun k row j v hk hj => ?_⟩
      · have := cell_lt hc0; simpa [Addr.add] using this
      · rw [List.getElem?_map] at hk
        obtain ⟨y, hy, rfl⟩ := Option.map_eq_some_iff.1 hk
        obtain ⟨hkl, rfl⟩ := List.getElem?_eq_some_iff.1 hy
        have := (hq k hkl).2 j v hj
        rw [Go.WideShapes.add_plain, Go.WideShapes.add_plain] at this
        exact this
    · obtain ⟨i, hi, rfl⟩ := List.mem_iff_getElem.1 hx
      exact (hq i hi).1

/-- A struct that came in by value. -/
theorem open_struct {α : Type} {t : TypeId} {fs : Array Field} {ec : α → List Value} {wf : α → Prop} (ht : P.underlying t = some (.struct fs)) (hd : Dec enc P t ec wf)
    {w W : World} {r : Reach} {b0 base : Nat} {sp : Nat → Bool} {held : Bool} {v : Value} {d : DataW H} {p : List MemPlace} (hv : Value.okWide P W r b0 t v) (h : DataW.Trod enc P w base sp held t v d p) :
    ∃ a : α, v = .agg (ec a).toArray ∧ wf a := by
  obtain ⟨cs, rfl, _⟩ := okWide_struct ht hv
  obtain ⟨fuel, hf⟩ := h
  obtain ⟨a, ha, hw⟩ := hd _ _ _ _ _ _ _ hf
  refine ⟨a, ?_, hw⟩
  simp only [Value.cells] at ha
  rw [← ha]

/-- A slice that came in. -/
theorem open_slices {α : Type} {t e : TypeId} {ec : α → List Value} {wf : α → Prop} {sz : Nat} (ht : P.underlying t = some (.slice e)) (hc : P.cellsOf e = sz) (hsz : 0 < sz) (hd : Dec enc P e ec wf) (hlen : ∀ a, (ec a).length = sz)
    {w W : World} {r : Reach} {b0 base : Nat} {sp : Nat → Bool} {held : Bool} {v : Value} {d : DataW H} {p : List MemPlace} (hv : Value.okWide P W r b0 t v) (h : DataW.Trod enc P w base sp held t v d p) :
    ∃ (A : Option Addr) (c : Nat) (l : List α), v = .slice A l.length c ∧ l.length ≤ c ∧ c ≤ maxLen ∧ Rd w w.heap.size A sz (l.map ec) ∧ ∀ a ∈ l, wf a := by
  obtain ⟨a0, len, cap, rfl⟩ := okWide_slice ht hv
  obtain ⟨fuel, hf⟩ := h
  obtain ⟨A, c, l, hcs, h1, h2, h3, h4⟩ := open_rows ht hc hsz hd hlen hf
  simp only [Value.cells, List.cons.injEq, and_true] at hcs
  exact ⟨A, c, l, hcs, h1, h2, h3, h4⟩

/-- A struct's fields, each of one cell. -/
theorem trod_fields {t : TypeId} {fs : Array Field} (ht : P.underlying t = some (.struct fs)) (hone : oneCellFields P fs = true) (hC : P.cellsOf t = fs.size) {w : World} {base : Nat} {sp : Nat → Bool} {held : Bool} {fuel : Nat} {cs : List Value} {x : DataW H × List MemPlace}
    (h : DataW.trod enc P w base sp held fuel t cs = some x) : ∃ m, cs.length = fs.size ∧ ∀ (i : Nat) (f : Field) (c : Value), fs[i]? = some f → cs[i]? = some c → ∃ y, DataW.trod enc P w base sp held m f.type [c] = some y := by
  obtain ⟨xs, m, _, _, hlen, hxl, hg⟩ := DataW.trod_struct ht h
  refine ⟨m, hlen.trans hC, fun i f c hf hc => ?_⟩
  obtain ⟨ho, hk⟩ := hone_of hone i f hf
  have h1 := hg i f hf
  rw [ho, hk] at h1
  have hi : i < fs.size := (Array.getElem?_eq_some_iff.1 hf).1
  have hil : i < cs.length := by omega
  have hd : (cs.drop i).take 1 = [c] := by
    rw [List.drop_eq_getElem_cons hil]
    have : cs[i] = c := by rw [List.getElem?_eq_getElem hil] at hc; exact Option.some.inj hc
    rw [this]; rfl
  rw [hd] at h1
  exact ⟨xs[i]'(by omega), by rw [h1, List.getElem?_eq_getElem (by omega)]⟩
end
end Go.Proofs.YtkfedgjepiljiaaGreatDoor

/- A frame that came in: its five cells. -/
namespace Go.Proofs.YtkfedgjepiljiaaGreatDoor
open Go.ChangeShapes Go.WideShapes Go.ChangeAt Go.RowKit
open FP (Fr)

theorem decFrame {H : Type} {enc : TypeId × Value → H} : Dec enc Tryz.prog 29 frc (fun f => f.id < 4294967296 ∧ f.data.size ≤ maxLen) := by
  intro w base sp held n cs x h
  obtain ⟨m, hl, hf⟩ := trod_fields Tryz.underlying29 (by kernel_rfl) (by kernel_rfl) h
  match cs, hl with
  | [c0, c1, c2, c3, c4], _ =>
    obtain ⟨_, h0⟩ := hf 0 _ c0 rfl rfl
    obtain ⟨_, h1⟩ := hf 1 _ c1 rfl rfl
    obtain ⟨_, h2⟩ := hf 2 _ c2 rfl rfl
    obtain ⟨_, h3⟩ := hf 3 _ c3 rfl rfl
    obtain ⟨_, h4⟩ := hf 4 _ c4 rfl rfl
    obtain ⟨a, e0, _, wa⟩ := DataW.trod_int Tryz.underlying27 h0
    obtain ⟨b, e1, _⟩ := DataW.trod_bool Tryz.underlying4 h1
    obtain ⟨c, e2, _⟩ := DataW.trod_bool Tryz.underlying4 h2
    obtain ⟨d, e3, _⟩ := DataW.trod_int Tryz.underlying3 h3
    obtain ⟨s, e4, _, hs⟩ := DataW.trod_string Tryz.underlying9 h4
    simp only [List.cons.injEq, and_true] at e0 e1 e2 e3 e4
    subst e0 e1 e2 e3 e4
    have hb : 0 ≤ a ∧ a ≤ 4294967295 := by simpa [Lit.wf, IntKind.min, IntKind.max, IntKind.bits, IntKind.signed] using wa
    refine ⟨⟨a.toNat, b, c, d, s⟩, ?_, ?_, hs⟩
    · simp [frc, Int.toNat_of_nonneg hb.1]
    · show a.toNat < 4294967296
      omega
end Go.Proofs.YtkfedgjepiljiaaGreatDoor

/- Decoders whose elements hold slices: DecW, open_rowsW, trod_at. Nothing of the program's text. -/
namespace Go.Proofs.YtkfedgjepiljiaaGreatDoor
open Go.ChangeShapes Go.WideShapes Go.ChangeAt Go.RowKit Go.Deep

section
variable {H : Type} {enc : TypeId × Value → H} {P : Program}
/-- Elements of a type decode at a world. -/
def DecW {α : Type} (enc : TypeId × Value → H) (P : Program) (w : World) (e : TypeId) (ec : α → List Value) (wf : α → Prop) : Prop :=
  ∀ (base : Nat) (sp : Nat → Bool) (held : Bool) (n : Nat) (cs : List Value) (x : DataW H × List MemPlace), DataW.trod enc P w base sp held n e cs = some x → ∃ a : α, cs = ec a ∧ wf a
theorem open_rowsW {α : Type} {t e : TypeId} {ec : α → List Value} {wf : α → Prop} {sz : Nat} {w : World} (ht : P.underlying t = some (.slice e)) (hc : P.cellsOf e = sz) (hsz : 0 < sz) (hd : DecW enc P w e ec wf) (hlen : ∀ a, (ec a).length = sz)
    {base : Nat} {sp : Nat → Bool} {held : Bool} {fuel : Nat} {cs : List Value} {x : DataW H × List MemPlace} (h : DataW.trod enc P w base sp held fuel t cs = some x) :
    ∃ (A : Option Addr) (c : Nat) (l : List α), cs = [.slice A l.length c] ∧ l.length ≤ c ∧ c ≤ maxLen ∧ Rd w w.heap.size A sz (l.map ec) ∧ ∀ a ∈ l, wf a := by
  rcases open_slice ht h with ⟨rfl, _⟩ | ⟨a, len, cap, m, n, D, Pl, rfl, _, hlc, hcm, hm, _, hel⟩
  · exact ⟨none, 0, [], rfl, by simp, by simp, Rd.nil, by simp⟩
  · have hlm : len ≤ m := by rw [hm]; split <;> omega
    rw [hc] at hel
    obtain ⟨l, hl, hq⟩ := list_of (n := len) (Q := fun i (x : α) => wf x ∧ ∀ j v, (ec x)[j]? = some v → w.cell? ((a.add (i * sz)).add j) = some v) (fun i hi => by
      obtain ⟨cs', hcs, htr⟩ := hel i (by omega)
      obtain ⟨_, hcl, hat⟩ := World.cells?_some hcs
      obtain ⟨x, hx, hwf⟩ := hd _ _ _ _ _ _ htr
      refine ⟨x, hwf, fun j v hj => ?_⟩
      rw [hx] at hcl hat
      have hjl : j < (ec x).length := (List.getElem?_eq_some_iff.1 hj).1
      rw [hat j (by omega)]; exact hj)
    refine ⟨some a, cap, l, by rw [hl], by omega, hcm, fun hn => ?_, fun x hx => ?_⟩
    · rw [List.length_map] at hn
      have h0 : 0 < (ec l[0]).length := by rw [hlen]; exact hsz
      have hc0 := (hq 0 hn).2 0 (ec l[0])[0] (List.getElem?_eq_getElem h0)
      obtain ⟨b, off, spot⟩ := a
      have hspot : spot = none := by simpa [Addr.add] using World.cell?_spot hc0
      subst hspot
      refine ⟨b, off, rfl, ?_, fun k row j v hk hj => ?_⟩
      · have := cell_lt hc0; simpa [Addr.add] using this
      · rw [List.getElem?_map] at hk
        obtain ⟨y, hy, rfl⟩ := Option.map_eq_some_iff.1 hk
        obtain ⟨hkl, rfl⟩ := List.getElem?_eq_some_iff.1 hy
        have := (hq k hkl).2 j v hj
        rw [Go.WideShapes.add_plain, Go.WideShapes.add_plain] at this
        exact this
    · obtain ⟨i, hi, rfl⟩ := List.mem_iff_getElem.1 hx
      exact (hq i hi).1
theorem trod_at {t : TypeId} {fs : Array Field} (ht : P.underlying t = some (.struct fs)) {w : World} {base : Nat} {sp : Nat → Bool} {held : Bool} {fuel : Nat} {cs : List Value} {x : DataW H × List MemPlace}
    (h : DataW.trod enc P w base sp held fuel t cs = some x) : ∃ m, cs.length = P.cellsOf t ∧ ∀ (i : Nat) (f : Field), fs[i]? = some f → ∃ y, DataW.trod enc P w base sp held m f.type ((cs.drop f.offset).take (P.cellsOf f.type)) = some y := by
  obtain ⟨xs, m, _, _, hlen, hxl, hg⟩ := DataW.trod_struct ht h
  refine ⟨m, hlen, fun i f hf => ?_⟩
  have h1 := hg i f hf
  have hi : i < fs.size := (Array.getElem?_eq_some_iff.1 hf).1
  exact ⟨xs[i]'(by omega), by rw [h1, List.getElem?_eq_getElem (by omega)]⟩
end
end Go.Proofs.YtkfedgjepiljiaaGreatDoor

/- A controller that came in: its 23 cells. -/
namespace Go.Proofs.YtkfedgjepiljiaaGreatDoor
open Go.ChangeShapes Go.WideShapes Go.ChangeAt Go.RowKit Go.Deep
open FP (Fr)

structure CntD where
  tc : Int
  rc : Int
  off : Bool
  rs : Int
def cnD (a : CntD) : List Value := [.int .i64 a.tc, .int .i64 a.rc, .bool a.off, .int .i64 a.rs]
def stfL (a : Int × Int) : List Value := [.int .u8 a.1, .int .i64 a.2]
/-- What is known of a controller that came in. -/
structure Cl.Raw (c : Cl) : Prop where
  last : c.last = (c.L.toNat : Int)
  id : c.f.id < 4294967296
  fs : c.f.data.size ≤ maxLen
  os : c.out.size ≤ maxLen
  gs : c.got.size ≤ maxLen
set_option maxRecDepth 100000 in
set_option maxHeartbeats 4000000 in
theorem decCn {H : Type} {enc : TypeId × Value → H} : Dec enc Tryz.prog 26 cnD (fun _ => True) := by
  intro w base sp held n cs x h
  obtain ⟨m, hl, hf⟩ := trod_at Tryz.underlying26 h
  have kP : Tryz.prog.cellsOf 26 = 4 := by kernel_rfl
  have k0 : Tryz.prog.cellsOf 3 = 1 := by kernel_rfl
  have k1 : Tryz.prog.cellsOf 4 = 1 := by kernel_rfl
  rw [kP] at hl
  match cs, hl with
  | [c0, c1, c2, c3], _ =>
    obtain ⟨_, h0⟩ : ∃ y, DataW.trod enc Tryz.prog w base sp held m 3 (([c0, c1, c2, c3].drop 0).take (Tryz.prog.cellsOf 3)) = some y := hf 0 _ rfl
    rw [k0] at h0
    simp only [List.drop_zero, List.take_succ_cons, List.take_zero] at h0
    obtain ⟨_, h1⟩ : ∃ y, DataW.trod enc Tryz.prog w base sp held m 3 (([c0, c1, c2, c3].drop 1).take (Tryz.prog.cellsOf 3)) = some y := hf 1 _ rfl
    rw [k0] at h1
    simp only [List.drop_succ_cons, List.drop_zero, List.take_succ_cons, List.take_zero] at h1
    obtain ⟨_, h2⟩ : ∃ y, DataW.trod enc Tryz.prog w base sp held m 4 (([c0, c1, c2, c3].drop 2).take (Tryz.prog.cellsOf 4)) = some y := hf 2 _ rfl
    rw [k1] at h2
    simp only [List.drop_succ_cons, List.drop_zero, List.take_succ_cons, List.take_zero] at h2
    obtain ⟨_, h3⟩ : ∃ y, DataW.trod enc Tryz.prog w base sp held m 3 (([c0, c1, c2, c3].drop 3).take (Tryz.prog.cellsOf 3)) = some y := hf 3 _ rfl
    rw [k0] at h3
    simp only [List.drop_succ_cons, List.drop_zero, List.take_succ_cons, List.take_zero] at h3
    obtain ⟨a0, e0, _, w0⟩ := DataW.trod_int Tryz.underlying3 h0
    obtain ⟨a1, e1, _, w1⟩ := DataW.trod_int Tryz.underlying3 h1
    obtain ⟨a2, e2, _⟩ := DataW.trod_bool Tryz.underlying4 h2
    obtain ⟨a3, e3, _, w3⟩ := DataW.trod_int Tryz.underlying3 h3
    simp only [List.cons.injEq, and_true] at e0 e1 e2 e3
    refine ⟨⟨a0, a1, a2, a3⟩, ?_, ?_⟩
    · subst e0 e1 e2 e3
      rfl
    · trivial
set_option maxRecDepth 100000 in
set_option maxHeartbeats 4000000 in
theorem decStf {H : Type} {enc : TypeId × Value → H} : Dec enc Tryz.prog 31 stfL (fun a => 0 ≤ a.1 ∧ a.1 ≤ 255) := by
  intro w base sp held n cs x h
  obtain ⟨m, hl, hf⟩ := trod_at Tryz.underlying31 h
  have kP : Tryz.prog.cellsOf 31 = 2 := by kernel_rfl
  have k0 : Tryz.prog.cellsOf 5 = 1 := by kernel_rfl
  have k1 : Tryz.prog.cellsOf 3 = 1 := by kernel_rfl
  rw [kP] at hl
  match cs, hl with
  | [c0, c1], _ =>
    obtain ⟨_, h0⟩ : ∃ y, DataW.trod enc Tryz.prog w base sp held m 5 (([c0, c1].drop 0).take (Tryz.prog.cellsOf 5)) = some y := hf 0 _ rfl
    rw [k0] at h0
    simp only [List.drop_zero, List.take_succ_cons, List.take_zero] at h0
    obtain ⟨_, h1⟩ : ∃ y, DataW.trod enc Tryz.prog w base sp held m 3 (([c0, c1].drop 1).take (Tryz.prog.cellsOf 3)) = some y := hf 1 _ rfl
    rw [k1] at h1
    simp only [List.drop_succ_cons, List.drop_zero, List.take_succ_cons, List.take_zero] at h1
    obtain ⟨a0, e0, _, w0⟩ := DataW.trod_int Tryz.underlying5 h0
    obtain ⟨a1, e1, _, w1⟩ := DataW.trod_int Tryz.underlying3 h1
    simp only [List.cons.injEq, and_true] at e0 e1
    refine ⟨(a0, a1), ?_, ?_⟩
    · subst e0 e1
      rfl
    · simpa [Lit.wf, IntKind.min, IntKind.max, IntKind.bits, IntKind.signed] using w0
set_option maxRecDepth 100000 in
set_option maxHeartbeats 4000000 in
theorem decCl {H : Type} {enc : TypeId × Value → H} : Dec enc Tryz.prog 33 Cl.cs (Cl.Raw) := by
  intro w base sp held n cs x h
  obtain ⟨m, hl, hf⟩ := trod_at Tryz.underlying33 h
  have kP : Tryz.prog.cellsOf 33 = 23 := by kernel_rfl
  have k0 : Tryz.prog.cellsOf 26 = 4 := by kernel_rfl
  have k1 : Tryz.prog.cellsOf 3 = 1 := by kernel_rfl
  have k2 : Tryz.prog.cellsOf 4 = 1 := by kernel_rfl
  have k3 : Tryz.prog.cellsOf 29 = 5 := by kernel_rfl
  have k4 : Tryz.prog.cellsOf 9 = 1 := by kernel_rfl
  have k5 : Tryz.prog.cellsOf 31 = 2 := by kernel_rfl
  rw [kP] at hl
  match cs, hl with
  | [c0, c1, c2, c3, c4, c5, c6, c7, c8, c9, c10, c11, c12, c13, c14, c15, c16, c17, c18, c19, c20, c21, c22], _ =>
    obtain ⟨_, h0⟩ : ∃ y, DataW.trod enc Tryz.prog w base sp held m 26 (([c0, c1, c2, c3, c4, c5, c6, c7, c8, c9, c10, c11, c12, c13, c14, c15, c16, c17, c18, c19, c20, c21, c22].drop 0).take (Tryz.prog.cellsOf 26)) = some y := hf 0 _ rfl
    rw [k0] at h0
    simp only [List.drop_zero, List.take_succ_cons, List.take_zero] at h0
    obtain ⟨_, h1⟩ : ∃ y, DataW.trod enc Tryz.prog w base sp held m 3 (([c0, c1, c2, c3, c4, c5, c6, c7, c8, c9, c10, c11, c12, c13, c14, c15, c16, c17, c18, c19, c20, c21, c22].drop 4).take (Tryz.prog.cellsOf 3)) = some y := hf 1 _ rfl
    rw [k1] at h1
    simp only [List.drop_succ_cons, List.drop_zero, List.take_succ_cons, List.take_zero] at h1
    obtain ⟨_, h2⟩ : ∃ y, DataW.trod enc Tryz.prog w base sp held m 3 (([c0, c1, c2, c3, c4, c5, c6, c7, c8, c9, c10, c11, c12, c13, c14, c15, c16, c17, c18, c19, c20, c21, c22].drop 5).take (Tryz.prog.cellsOf 3)) = some y := hf 2 _ rfl
    rw [k1] at h2
    simp only [List.drop_succ_cons, List.drop_zero, List.take_succ_cons, List.take_zero] at h2
    obtain ⟨_, h3⟩ : ∃ y, DataW.trod enc Tryz.prog w base sp held m 4 (([c0, c1, c2, c3, c4, c5, c6, c7, c8, c9, c10, c11, c12, c13, c14, c15, c16, c17, c18, c19, c20, c21, c22].drop 6).take (Tryz.prog.cellsOf 4)) = some y := hf 3 _ rfl
    rw [k2] at h3
    simp only [List.drop_succ_cons, List.drop_zero, List.take_succ_cons, List.take_zero] at h3
    obtain ⟨_, h4⟩ : ∃ y, DataW.trod enc Tryz.prog w base sp held m 4 (([c0, c1, c2, c3, c4, c5, c6, c7, c8, c9, c10, c11, c12, c13, c14, c15, c16, c17, c18, c19, c20, c21, c22].drop 7).take (Tryz.prog.cellsOf 4)) = some y := hf 4 _ rfl
    rw [k2] at h4
    simp only [List.drop_succ_cons, List.drop_zero, List.take_succ_cons, List.take_zero] at h4
    obtain ⟨_, h5⟩ : ∃ y, DataW.trod enc Tryz.prog w base sp held m 4 (([c0, c1, c2, c3, c4, c5, c6, c7, c8, c9, c10, c11, c12, c13, c14, c15, c16, c17, c18, c19, c20, c21, c22].drop 8).take (Tryz.prog.cellsOf 4)) = some y := hf 5 _ rfl
    rw [k2] at h5
    simp only [List.drop_succ_cons, List.drop_zero, List.take_succ_cons, List.take_zero] at h5
    obtain ⟨_, h6⟩ : ∃ y, DataW.trod enc Tryz.prog w base sp held m 29 (([c0, c1, c2, c3, c4, c5, c6, c7, c8, c9, c10, c11, c12, c13, c14, c15, c16, c17, c18, c19, c20, c21, c22].drop 9).take (Tryz.prog.cellsOf 29)) = some y := hf 6 _ rfl
    rw [k3] at h6
    simp only [List.drop_succ_cons, List.drop_zero, List.take_succ_cons, List.take_zero] at h6
    obtain ⟨_, h7⟩ : ∃ y, DataW.trod enc Tryz.prog w base sp held m 4 (([c0, c1, c2, c3, c4, c5, c6, c7, c8, c9, c10, c11, c12, c13, c14, c15, c16, c17, c18, c19, c20, c21, c22].drop 14).take (Tryz.prog.cellsOf 4)) = some y := hf 7 _ rfl
    rw [k2] at h7
    simp only [List.drop_succ_cons, List.drop_zero, List.take_succ_cons, List.take_zero] at h7
    obtain ⟨_, h8⟩ : ∃ y, DataW.trod enc Tryz.prog w base sp held m 9 (([c0, c1, c2, c3, c4, c5, c6, c7, c8, c9, c10, c11, c12, c13, c14, c15, c16, c17, c18, c19, c20, c21, c22].drop 15).take (Tryz.prog.cellsOf 9)) = some y := hf 8 _ rfl
    rw [k4] at h8
    simp only [List.drop_succ_cons, List.drop_zero, List.take_succ_cons, List.take_zero] at h8
    obtain ⟨_, h9⟩ : ∃ y, DataW.trod enc Tryz.prog w base sp held m 3 (([c0, c1, c2, c3, c4, c5, c6, c7, c8, c9, c10, c11, c12, c13, c14, c15, c16, c17, c18, c19, c20, c21, c22].drop 16).take (Tryz.prog.cellsOf 3)) = some y := hf 9 _ rfl
    rw [k1] at h9
    simp only [List.drop_succ_cons, List.drop_zero, List.take_succ_cons, List.take_zero] at h9
    obtain ⟨_, h10⟩ : ∃ y, DataW.trod enc Tryz.prog w base sp held m 31 (([c0, c1, c2, c3, c4, c5, c6, c7, c8, c9, c10, c11, c12, c13, c14, c15, c16, c17, c18, c19, c20, c21, c22].drop 17).take (Tryz.prog.cellsOf 31)) = some y := hf 10 _ rfl
    rw [k5] at h10
    simp only [List.drop_succ_cons, List.drop_zero, List.take_succ_cons, List.take_zero] at h10
    obtain ⟨_, h11⟩ : ∃ y, DataW.trod enc Tryz.prog w base sp held m 9 (([c0, c1, c2, c3, c4, c5, c6, c7, c8, c9, c10, c11, c12, c13, c14, c15, c16, c17, c18, c19, c20, c21, c22].drop 19).take (Tryz.prog.cellsOf 9)) = some y := hf 11 _ rfl
    rw [k4] at h11
    simp only [List.drop_succ_cons, List.drop_zero, List.take_succ_cons, List.take_zero] at h11
    obtain ⟨_, h12⟩ : ∃ y, DataW.trod enc Tryz.prog w base sp held m 4 (([c0, c1, c2, c3, c4, c5, c6, c7, c8, c9, c10, c11, c12, c13, c14, c15, c16, c17, c18, c19, c20, c21, c22].drop 20).take (Tryz.prog.cellsOf 4)) = some y := hf 12 _ rfl
    rw [k2] at h12
    simp only [List.drop_succ_cons, List.drop_zero, List.take_succ_cons, List.take_zero] at h12
    obtain ⟨_, h13⟩ : ∃ y, DataW.trod enc Tryz.prog w base sp held m 3 (([c0, c1, c2, c3, c4, c5, c6, c7, c8, c9, c10, c11, c12, c13, c14, c15, c16, c17, c18, c19, c20, c21, c22].drop 21).take (Tryz.prog.cellsOf 3)) = some y := hf 13 _ rfl
    rw [k1] at h13
    simp only [List.drop_succ_cons, List.drop_zero, List.take_succ_cons, List.take_zero] at h13
    obtain ⟨_, h14⟩ : ∃ y, DataW.trod enc Tryz.prog w base sp held m 4 (([c0, c1, c2, c3, c4, c5, c6, c7, c8, c9, c10, c11, c12, c13, c14, c15, c16, c17, c18, c19, c20, c21, c22].drop 22).take (Tryz.prog.cellsOf 4)) = some y := hf 14 _ rfl
    rw [k2] at h14
    simp only [List.drop_succ_cons, List.drop_zero, List.take_succ_cons, List.take_zero] at h14
    obtain ⟨a0, e0, w0⟩ := decCn _ _ _ _ _ _ _ h0
    obtain ⟨a1, e1, _, w1⟩ := DataW.trod_int Tryz.underlying3 h1
    obtain ⟨a2, e2, _, w2⟩ := DataW.trod_int Tryz.underlying3 h2
    obtain ⟨a3, e3, _⟩ := DataW.trod_bool Tryz.underlying4 h3
    obtain ⟨a4, e4, _⟩ := DataW.trod_bool Tryz.underlying4 h4
    obtain ⟨a5, e5, _⟩ := DataW.trod_bool Tryz.underlying4 h5
    obtain ⟨a6, e6, w6⟩ := decFrame _ _ _ _ _ _ _ h6
    obtain ⟨a7, e7, _⟩ := DataW.trod_bool Tryz.underlying4 h7
    obtain ⟨a8, e8, _, w8⟩ := DataW.trod_string Tryz.underlying9 h8
    obtain ⟨a9, e9, _, w9⟩ := DataW.trod_int Tryz.underlying3 h9
    obtain ⟨a10, e10, w10⟩ := decStf _ _ _ _ _ _ _ h10
    obtain ⟨a11, e11, _, w11⟩ := DataW.trod_string Tryz.underlying9 h11
    obtain ⟨a12, e12, _⟩ := DataW.trod_bool Tryz.underlying4 h12
    obtain ⟨a13, e13, _, w13⟩ := DataW.trod_int Tryz.underlying3 h13
    obtain ⟨a14, e14, _⟩ := DataW.trod_bool Tryz.underlying4 h14
    simp only [List.cons.injEq, and_true, cnD, stfL, frc] at e0 e1 e2 e3 e4 e5 e6 e7 e8 e9 e10 e11 e12 e13 e14
    obtain ⟨e0_0, e0_1, e0_2, e0_3⟩ := e0
    obtain ⟨e6_0, e6_1, e6_2, e6_3, e6_4⟩ := e6
    obtain ⟨e10_0, e10_1⟩ := e10
    refine ⟨⟨a0.tc, a0.rc, a0.off, a0.rs, a1, a2, a3, a4, a5, a6, a7, a8, a9, a10.1, a10.2, a11, a12, a13, a14⟩, ?_, ?_⟩
    · subst e0_0 e0_1 e0_2 e0_3 e1 e2 e3 e4 e5 e6_0 e6_1 e6_2 e6_3 e6_4 e7 e8 e9 e10_0 e10_1 e11 e12 e13 e14
      rfl
    · exact ⟨by show a10.1 = ((UInt8.ofNat a10.1.toNat).toNat : Int); rw [UInt8.toNat_ofNat']; have := w10.1; have := w10.2; omega, w6.1, w6.2, w8, w11⟩
end Go.Proofs.YtkfedgjepiljiaaGreatDoor
