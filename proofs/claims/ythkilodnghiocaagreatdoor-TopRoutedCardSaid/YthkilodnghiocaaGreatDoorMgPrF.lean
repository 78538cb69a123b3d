/- Fields of frames: their order by numbers; which are left. -/
import Derived.Test.YthkilodnghiocaaGreatDoorMgBuP
import Derived.Test.YthkilodnghiocaaGreatDoorRows
import Derived.Test.YthkilodnghiocaaGreatDoorMgMem
import Derived.ProofKit
import Derived.OpenShut
import Derived.Deep.Slices
import Derived.Deep.Fields
import Derived.Test.YthkilodnghiocaaGreatDoorOwS
import Derived.Test.YthkilodnghiocaaGreatDoorMgFrR
namespace Go.Proofs.YthkilodnghiocaaGreatDoor
open FP (bit bitsOf Fr bitB numOf)

namespace PP
theorem numOf_inj : ∀ x y : List UInt8, x.length = y.length → (∀ c ∈ x, c = 48 ∨ c = 49) → (∀ c ∈ y, c = 48 ∨ c = 49) → numOf x = numOf y → x = y
  | [], [], _, _, _, _ => rfl
  | [], _ :: _, h, _, _, _ => by simp at h
  | _ :: _, [], h, _, _, _ => by simp at h
  | a :: x, b :: y, h, hx, hy, hn => by
    have hl : x.length = y.length := by simpa using h
    rw [FP.numOf_cons, FP.numOf_cons, hl] at hn
    have h1 := FP.numOf_lt x
    have h2 := FP.numOf_lt y
    rw [hl] at h1
    rcases hx a (by simp) with rfl | rfl <;> rcases hy b (by simp) with rfl | rfl
    · simp at hn
      rw [numOf_inj x y hl (fun c hc => hx c (by simp [hc])) (fun c hc => hy c (by simp [hc])) hn]
    · simp at hn; omega
    · simp at hn; omega
    · simp at hn
      rw [numOf_inj x y hl (fun c hc => hx c (by simp [hc])) (fun c hc => hy c (by simp [hc])) hn]

/-- Rows of bits, of one length, are ordered as their numbers; what stands behind them decides where they are alike. -/
theorem bl_num : ∀ x y u v : List UInt8, x.length = y.length → (∀ c ∈ x, c = 48 ∨ c = 49) → (∀ c ∈ y, c = 48 ∨ c = 49) → bl (x ++ u) (y ++ v) = if numOf x = numOf y then bl u v else decide (numOf x < numOf y)
  | [], [], u, v, _, _, _ => by simp
  | [], _ :: _, _, _, h, _, _ => by simp at h
  | _ :: _, [], _, _, h, _, _ => by simp at h
  | a :: x, b :: y, u, v, h, hx, hy => by
    have hl : x.length = y.length := by simpa using h
    have h1 := FP.numOf_lt x
    have h2 := FP.numOf_lt y
    rw [hl] at h1
    have ih := bl_num x y u v hl (fun c hc => hx c (by simp [hc])) (fun c hc => hy c (by simp [hc]))
    rw [FP.numOf_cons, FP.numOf_cons, hl]
    simp only [List.cons_append, bl, Op.bytesLess]
    simp only [bl] at ih
    rw [ih]
    rcases hx a (by simp) with rfl | rfl <;> rcases hy b (by simp) with rfl | rfl
    · simp
    · simp
      rw [if_neg (by omega)]
      omega
    · simp
      rw [if_neg (by omega)]
      omega
    · simp

theorem bl_bits (a b w : Nat) (ha : a < 2 ^ w) (hb : b < 2 ^ w) (u v : List UInt8) : bl (bitsOf a w ++ u) (bitsOf b w ++ v) = if a = b then bl u v else decide (a < b) := by
  rw [bl_num _ _ u v (by rw [FP.bitsOf_length, FP.bitsOf_length]) (fun c hc => FP.bitsOf_mem hc) (fun c hc => FP.bitsOf_mem hc), FP.numOf_bitsOf, FP.numOf_bitsOf, Nat.mod_eq_of_lt ha, Nat.mod_eq_of_lt hb]

theorem bitB_or (b : Bool) : bitB b = 48 ∨ bitB b = 49 := by cases b <;> simp [bitB]

theorem fld_of (f : Fr) : Fld (fieldF f) := by
  unfold fieldF
  split
  · refine ⟨fun c hc => ?_, .inr ⟨by simp [FP.bitsOf_length], ?_⟩⟩
    · simp only [List.mem_append, List.mem_cons, List.not_mem_nil, or_false] at hc
      rcases hc with ((hc | rfl | rfl) | hc) | rfl
      · exact FP.bitsOf_mem (List.mem_of_mem_take hc)
      · simp
      · simp
      · exact FP.bitsOf_mem (List.mem_of_mem_drop hc)
      · exact bitB_or _
    · rw [List.append_assoc, List.append_assoc, List.getElem?_append_right (by simp [FP.bitsOf_length])]
      simp [FP.bitsOf_length]
  · refine ⟨fun c hc => ?_, .inl ⟨by simp [FP.bitsOf_length], ?_⟩⟩
    · simp only [List.mem_append, List.mem_cons, List.not_mem_nil, or_false] at hc
      rcases hc with (hc | rfl) | rfl
      · exact FP.bitsOf_mem hc
      · exact bitB_or _
      · simp
    · rw [List.append_assoc, List.getElem?_append_right (by simp [FP.bitsOf_length])]
      simp [FP.bitsOf_length]

theorem lessB_bl {f g : Fr} (hf : FP.rightB f = true) (hg : FP.rightB g = true) : lessB f g = bl (fieldF f) (fieldF g) := by simp [lessB, hf, hg]

theorem best_of (F : Nat → List UInt8) (hF : ∀ j, Fld (F j)) : ∀ n, 0 < n → ∃ b, b < n ∧ ∀ j, j < n → bl (F j) (F b) = false
  | 0, h => absurd h (by omega)
  | 1, _ => ⟨0, by omega, fun j hj => by have : j = 0 := by omega
                                         rw [this]; exact bl_irrefl _⟩
  | n + 2, _ => by
    obtain ⟨b, hb, h⟩ := best_of F hF (n + 1) (by omega)
    by_cases hl : bl (F (n + 1)) (F b) = true
    · refine ⟨n + 1, by omega, fun j hj => ?_⟩
      by_cases hj' : j = n + 1
      · rw [hj']; exact bl_irrefl _
      · by_cases hjl : bl (F j) (F (n + 1)) = true
        · have := bl_trans _ _ _ hjl hl
          rw [h j (by omega)] at this
          cases this
        · simpa using hjl
    · refine ⟨b, by omega, fun j hj => ?_⟩
      by_cases hj' : j = n + 1
      · rw [hj']; simpa using hl
      · exact h j (by omega)

def FL (l : List Fr) (j : Nat) : List UInt8 := if h : j < l.length then fieldF l[j] else fieldF ⟨0, false, false, 0, ⟨#[]⟩⟩
theorem FL_lt {l : List Fr} {j : Nat} (h : j < l.length) : FL l j = fieldF l[j] := dif_pos h
theorem FL_fld (l : List Fr) (j : Nat) : Fld (FL l j) := by unfold FL; split <;> exact fld_of _
theorem busN_congr {S S' : Nat → ByteArray} {x y : Nat → Int} (k : Nat) : ∀ p, (∀ i, i < p → S i = S' i ∧ x i = y i) → busN S x k p = busN S' y k p
  | 0, _ => rfl
  | p + 1, h => by
    unfold busN
    rw [busN_congr k p (fun i hi => h i (by omega)), (h p (by omega)).1, (h p (by omega)).2]
theorem lostN_congr {S S' : Nat → ByteArray} {n : Nat} (h : ∀ i, i < n → S i = S' i) : ∀ k j, j < n → lostN S n k j = lostN S' n k j
  | 0, _, _ => rfl
  | k + 1, j, hj => by
    rw [lostN_succ, lostN_succ, lostN_congr h k j hj, h j hj, busN_congr k n (fun i hi => ⟨h i hi, lostN_congr h k i hi⟩)]
theorem lostF_eq (l : List Fr) (j : Nat) (hj : j < l.length) : lostF l j = lostN (strs (FL l)) l.length 32 j :=
  lostN_congr (fun i hi => by rw [SF_lt hi]; simp only [strs, FL_lt hi]; rfl) 32 j hj

/-- b is among the best ones. -/
def Best (l : List Fr) (b : Nat) : Prop := b < l.length ∧ ∀ j, j < l.length → bl (FL l j) (FL l b) = false
theorem best_is (l : List Fr) (h : 0 < l.length) : ∃ b, Best l b := best_of (FL l) (FL_fld l) l.length h
theorem left_iff {l : List Fr} {b : Nat} (hb : Best l b) {j : Nat} (hj : j < l.length) : lostF l j < 0 ↔ FL l j = FL l b := by
  rw [lostF_eq l j hj]
  exact lost_end (fun j _ => FL_fld l j) hb.1 rfl hb.2 j hj
end PP
end Go.Proofs.YthkilodnghiocaaGreatDoor

/- The frame of every law's row: what a walk that only lays new memory owes the statement; slices and structs that came in, opened. Nothing of the program's text. -/
namespace Go.Proofs.YthkilodnghiocaaGreatDoor
open Go.ChangeShapes Go.WideShapes Go.ChangeAt Go.RowKit Go.Deep

theorem ownK : ownKnob Tryz.prog.godebug = none := by kernel_rfl
theorem laidOut : laidOutB Tryz.prog = true := by kernel_rfl

section
variable {H : Type} {enc : TypeId × Value → H} {P : Program}

theorem trodAll_stays (hl : laidOutB P = true) {W W' : World} {sp : Nat → Bool} : ∀ {ts : List TypeId} {vs : List Value} {ds : List (DataW H)} {ps : List MemPlace},
    (ts.all fun t => P.readableRec t && decide (t < P.types.size)) = true → DataW.TrodAll enc P W 0 (fun _ => true) true ts vs ds ps → (∀ x ∈ ps, W.sameAt W' x) → (∀ x ∈ ps, sp x.block = true) → DataW.TrodAll enc P W' 0 sp true ts vs ds ps
  | [], [], [], ps, _, h, _, _ => h
  | t :: ts, v :: vs, d :: ds, ps, hr, h, hs, hp => by
    obtain ⟨p, q, h1, h2, rfl⟩ := h
    simp only [List.all_cons, Bool.and_eq_true, decide_eq_true_eq] at hr
    exact ⟨p, q, WideElems.Trod_stays hl hr.1.1 hr.1.2 h1 (fun x hx => hs x (by simp [hx])) (fun x hx => hp x (by simp [hx])),
      trodAll_stays hl hr.2 h2 (fun x hx => hs x (by simp [hx])) (fun x hx => hp x (by simp [hx])), rfl⟩
  | [], [], _ :: _, _, _, h, _, _ => h.elim
  | [], _ :: _, [], _, _, h, _, _ => h.elim
  | [], _ :: _, _ :: _, _, _, h, _, _ => h.elim
  | _ :: _, [], [], _, _, h, _, _ => h.elim
  | _ :: _, [], _ :: _, _, _, h, _, _ => h.elim
  | _ :: _, _ :: _, [], _, _, h, _, _ => h.elim

/-- What a law's row asks of a call that answers true and has laid new memory alone. -/
theorem law_post {f : Func} {s : ChangeSpec} {W W' : World} {args : Array Value} {ds gs : List (DataW H)} {before : List MemPlace} {tb : TypeId} (hl : laidOutB P = true) (hvs : s.vars = [])
    (hW : DataW.Whole enc P f.params.toList s.vars false W args.toList ds gs before)
    (hts : (f.params.toList.all fun t => P.readableRec t && decide (t < P.types.size)) = true)
    (hres : f.resultTypes = #[tb]) (hub : P.underlying tb = some .bool)
    (hfn : s.fn H (ds ++ gs) = { results := [.lit (.bool true)], args := ds }) (hfv : gs = [])
    (hb : Below W.heap.size W W') :
    s.post enc P f false true false false W args (.bool true) W' := by
  subst hfv
  have hlt : ∀ p ∈ before, p.block < W.heap.size := fun p hp => hW.lt p hp
  have hW0 := hW
  obtain ⟨p, q, hA, hV, rfl, hfz, hnd⟩ := hW
  rw [hvs] at hV
  obtain ⟨_, rfl⟩ := trodVars_none hV
  have hres' : (Value.bool true).resultList f.resultTypes.size = [.bool true] := by rw [hres]; rfl
  have hargs : ∀ sp : Nat → Bool, (∀ x ∈ p ++ [], sp x.block = true) → DataW.TrodAll enc P W' 0 sp true f.params.toList args.toList ds p := fun sp hsp =>
    trodAll_stays hl hts hA (fun x hx => hb.same (hlt x (by simp [hx]))) (fun x hx => hsp x (by simp [hx]))
  have hrs : ∀ (b : Nat) (sp : Nat → Bool) (hd : Bool), DataW.TrodAll enc P W' b sp hd f.resultTypes.toList [.bool true] [.lit (.bool true)] [] := fun b sp hd => by
    rw [hres]; exact trodAll_cons_mk (shut_bool hub _) trodAll_mk0
  refine ⟨ds, [], p ++ [], [], p, [], hW0, ?_, ?_, ?_, World.keptBut_mono (fun x hx => ⟨hx, ?_⟩) (hb.frame (· ∈ p ++ [])), fun h => by cases h⟩
  · rw [hfn, hres']; exact hrs _ _ _
  · rw [hfn]; exact hargs _ (fun x hx => by simpa using hlt x hx)
  · rw [hfn, hvs]; rfl
  · simpa using hx

theorem cell_lt {w : World} {a : Addr} {v : Value} (h : w.cell? a = some v) : a.block < w.heap.size := by
  unfold World.cell? at h
  by_cases hlt : a.block < w.heap.size
  · exact hlt
  · rw [Array.getElem?_eq_none (by omega)] at h; simp at h

theorem list_of {α : Type} {n : Nat} {Q : Nat → α → Prop} (h : ∀ i, i < n → ∃ x, Q i x) : ∃ l : List α, l.length = n ∧ ∀ i (hi : i < l.length), Q i l[i] := by
  induction n with
  | zero => exact ⟨[], rfl, fun i hi => absurd hi (by simp)⟩
  | succ n ih =>
    obtain ⟨l, hl, hq⟩ := ih (fun i hi => h i (by omega))
    obtain ⟨x, hx⟩ := h n (by omega)
    refine ⟨l ++ [x], by simp [hl], fun i hi => ?_⟩
    by_cases e : i < l.length
    · rw [List.getElem_append_left e]; exact hq i e
    · have : i = n := by simp at hi; omega
      subst this
      rw [List.getElem_append_right (by omega)]
      simpa [hl] using hx

/-- Elements of a type e decode: their cells are those of some x. -/
def Dec {α : Type} (enc : TypeId × Value → H) (P : Program) (e : TypeId) (ec : α → List Value) (wf : α → Prop) : Prop :=
  ∀ (w : World) (base : Nat) (sp : Nat → Bool) (held : Bool) (n : Nat) (cs : List Value) (x : DataW H × List MemPlace), DataW.trod enc P w base sp held n e cs = some x → ∃ a : α, cs = ec a ∧ wf a

theorem open_rows {α : Type} {t e : TypeId} {ec : α → List Value} {wf : α → Prop} {sz : Nat} (ht : P.underlying t = some (.slice e)) (hc : P.cellsOf e = sz) (hsz : 0 < sz) (hd : Dec enc P e ec wf) (hlen : ∀ a, (ec a).length = sz)
    {w : World} {base : Nat} {sp : Nat → Bool} {held : Bool} {fuel : Nat} {cs : List Value} {x : DataW H × List MemPlace} (h : DataW.trod enc P w base sp held fuel t cs = some x) :
    ∃ (A : Option Addr) (c : Nat) (l : List α), cs = [.slice A l.length c] ∧ l.length ≤ c ∧ c ≤ maxLen ∧ Rd w w.heap.size A sz (l.map ec) ∧ ∀ a ∈ l, wf a := by
  rcases open_slice ht h with ⟨rfl, _⟩ | ⟨a, len, cap, m, n, D, Pl, rfl, _, hlc, hcm, hm, _, hel⟩
  · exact ⟨none, 0, [], rfl, by simp, by simp, Rd.nil, by simp⟩
  · have hlm : len ≤ m := by rw [hm]; split <;> omega
    rw [hc] at hel
    obtain ⟨l, hl, hq⟩ := list_of (n := len) (Q := fun i (x : α) => wf x ∧ ∀ j v, (ec x)[j]? = some v → w.cell? ((a.add (i * sz)).add j) = some v) (fun i hi => by
      obtain ⟨cs', hcs, htr⟩ := hel i (by omega)
      obtain ⟨_, hcl, hat⟩ := World.cells?_some hcs
      obtain ⟨x, hx, hwf⟩ := hd _ _ _ _ _ _ _ htr
      refine ⟨x, hwf, fun j v hj => ?_⟩
      rw [hx] at hcl hat
      have hjl : j < (ec x).length := (List.getElem?_eq_some_iff.1 hj).1
      rw [hat j (by omega)]; exact hj)
    refine ⟨some a, cap, l, by rw [hl], by omega, hcm, fun hn => ?_, fun x hx => ?_⟩
    · rw [List.length_map] at hn
      have h0 : 0 < (ec l[0]).length := by rw [hlen]; exact hsz
      have hc0 := (hq 0 hn).2 0 (ec l[0])[0] (List.getElem?_eq_getElem h0)
      obtain ⟨b, off, spot⟩ := a
      have hspot : spot = none := by simpa [Addr.add] using World.cell?_spot hc0
      subst hspot
      refine ⟨b, off, rfl, ?_, fun k row j v hk hj => ?_⟩
      · have := cell_lt hc0; simpa [Addr.add] using this
      · rw [List.getElem?_map] at hk
        obtain ⟨y, hy, rfl⟩ := Option.map_eq_some_iff.1 hk
        obtain ⟨hkl, rfl⟩ := List.getElem?_eq_some_iff.1 hy
        have := (hq k hkl).2 j v hj
        rw [Go.WideShapes.add_plain, Go.WideShapes.add_plain] at this
        exact this
    · obtain ⟨i, hi, rfl⟩ := List.mem_iff_getElem.1 hx
      exact (hq i hi).1

/-- A struct that came in by value. -/
theorem open_struct {α : Type} {t : TypeId} {fs : Array Field} {ec : α → List Value} {wf : α → Prop} (ht : P.underlying t = some (.struct fs)) (hd : Dec enc P t ec wf)
    {w W : World} {r : Reach} {b0 base : Nat} {sp : Nat → Bool} {held : Bool} {v : Value} {d : DataW H} {p : List MemPlace} (hv : Value.okWide P W r b0 t v) (h : DataW.Trod enc P w base sp held t v d p) :
    ∃ a : α, v = .agg (ec a).toArray ∧ wf a := by
  obtain ⟨cs, rfl, _⟩ := okWide_struct ht hv
  obtain ⟨fuel, hf⟩ := h
  obtain ⟨a, ha, hw⟩ := hd _ _ _ _ _ _ _ hf
  refine ⟨a, ?_, hw⟩
  simp only [Value.cells] at ha
  rw [← ha]

/-- A slice that came in. -/
theorem open_slices {α : Type} {t e : TypeId} {ec : α → List Value} {wf : α → Prop} {sz : Nat} (ht : P.underlying t = some (.slice e)) (hc : P.cellsOf e = sz) (hsz : 0 < sz) (hd : Dec enc P e ec wf) (hlen : ∀ a, (ec a).length = sz)
    {w W : World} {r : Reach} {b0 base : Nat} {sp : Nat → Bool} {held : Bool} {v : Value} {d : DataW H} {p : List MemPlace} (hv : Value.okWide P W r b0 t v) (h : DataW.Trod enc P w base sp held t v d p) :
    ∃ (A : Option Addr) (c : Nat) (l : List α), v = .slice A l.length c ∧ l.length ≤ c ∧ c ≤ maxLen ∧ Rd w w.heap.size A sz (l.map ec) ∧ ∀ a ∈ l, wf a := by
  obtain ⟨a0, len, cap, rfl⟩ := okWide_slice ht hv
  obtain ⟨fuel, hf⟩ := h
  obtain ⟨A, c, l, hcs, h1, h2, h3, h4⟩ := open_rows ht hc hsz hd hlen hf
  simp only [Value.cells, List.cons.injEq, and_true] at hcs
  exact ⟨A, c, l, hcs, h1, h2, h3, h4⟩

/-- A struct's fields, each of one cell. -/
theorem trod_fields {t : TypeId} {fs : Array Field} (ht : P.underlying t = some (.struct fs)) (hone : oneCellFields P fs = true) (hC : P.cellsOf t = fs.size) {w : World} {base : Nat} {sp : Nat → Bool} {held : Bool} {fuel : Nat} {cs : List Value} {x : DataW H × List MemPlace}
    (h : DataW.trod enc P w base sp held fuel t cs = some x) : ∃ m, cs.length = fs.size ∧ ∀ (i : Nat) (f : Field) (c : Value), fs[i]? = some f → cs[i]? = some c → ∃ y, DataW.trod enc P w base sp held m f.type [c] = some y := by
  obtain ⟨xs, m, _, _, hlen, hxl, hg⟩ := DataW.trod_struct ht h
  refine ⟨m, hlen.trans hC, fun i f c hf hc => ?_⟩
  obtain ⟨ho, hk⟩ := hone_of hone i f hf
  have h1 := hg i f hf
  rw [ho, hk] at h1
  have hi : i < fs.size := (Array.getElem?_eq_some_iff.1 hf).1
  have hil : i < cs.length := by omega
  have hd : (cs.drop i).take 1 = [c] := by
    rw [List.drop_eq_getElem_cons hil]
    have : cs[i] = c := by rw [List.getElem?_eq_getElem hil] at hc; exact Option.some.inj hc
    rw [this]; rfl
  rw [hd] at h1
  exact ⟨xs[i]'(by omega), by rw [h1, List.getElem?_eq_getElem (by omega)]⟩
end
end Go.Proofs.YthkilodnghiocaaGreatDoor

/- PrioKinds. -/
namespace Go.Proofs.YthkilodnghiocaaGreatDoor
open Go.ChangeShapes Go.WideShapes Go.ChangeAt Go.RowKit
open FP (bit bitsOf Fr bitB)

def al05 : List Fr := [⟨5, false, false, 0, ⟨#[]⟩⟩, ⟨3, false, false, 0, ⟨#[]⟩⟩, ⟨4, false, false, 0, ⟨#[]⟩⟩]
theorem al05_best : PP.Best al05 1 := ⟨by decide, by decide +kernel⟩
theorem al05_left : leftIdx (lostF al05) al05.length = [1] := by
  have h0 : ¬ lostF al05 0 < 0 := fun h => absurd ((PP.left_iff al05_best (j := 0) (by decide)).1 h) (by decide +kernel)
  have h1 : lostF al05 1 < 0 := (PP.left_iff al05_best (j := 1) (by decide)).2 rfl
  have h2 : ¬ lostF al05 2 < 0 := fun h => absurd ((PP.left_iff al05_best (j := 2) (by decide)).1 h) (by decide +kernel)
  show leftIdx (lostF al05) 3 = [1]
  rw [leftIdx_out h2, leftIdx_in h1, leftIdx_out h0]
  rfl

theorem rd_cell {w : World} {B : Nat} {A : Option Addr} {v : Value} (h : Rd w B A 1 [[v]]) : ∃ b off, A = some ⟨b, off, none⟩ ∧ w.cell? ⟨b, off, none⟩ = some v := by
  obtain ⟨b, off, e, _, hc⟩ := h (by simp)
  exact ⟨b, off, e, by simpa using hc 0 [v] 0 v rfl rfl⟩

def sh (a : Nat) (r : Bool) : Fr := ⟨a, false, r, 0, ⟨#[]⟩⟩
def lo (N : Nat) : Fr := ⟨N, true, false, 0, ⟨#[]⟩⟩
theorem sh_right {a : Nat} (ha : a < 2048) (r : Bool) : FP.rightB (sh a r) = true := by cases r <;> simp [FP.rightB, sh, ha] <;> rfl
theorem lo_right {a c : Nat} (ha : a < 2048) (hc : c < 262144) : FP.rightB (lo (a * 262144 + c)) = true := by
  have h : a * 262144 + c < 536870912 := by omega
  simp [FP.rightB, lo, h]; rfl
theorem sh_field (a : Nat) (r : Bool) : fieldF (sh a r) = bitsOf a 11 ++ [bitB r, 48] := by simp [fieldF, sh]
theorem lo_field {a c : Nat} (hc : c < 262144) : ∃ t, fieldF (lo (a * 262144 + c)) = bitsOf a 11 ++ ([49, 49] ++ t) := by
  have h := FP.bitsOf_append (a * 262144 + c) 11 18
  have hd : (a * 262144 + c) / 2 ^ 18 = a := by omega
  rw [hd] at h
  refine ⟨(bitsOf (a * 262144 + c) 29).drop 11 ++ [48], ?_⟩
  have ht : (bitsOf (a * 262144 + c) 29).take 11 = bitsOf a 11 := by
    rw [h, List.take_left' (FP.bitsOf_length _ _)]
  simp [fieldF, lo, ht, bitB]
theorem ls_ss {a b : Nat} (ha : a < 2048) (hb : b < 2048) (r s : Bool) : lessB (sh a r) (sh b s) = if a = b then (!r && s) else decide (a < b) := by
  rw [PP.lessB_bl (sh_right ha r) (sh_right hb s), sh_field, sh_field, PP.bl_bits a b 11 (by omega) (by omega)]
  cases r <;> cases s <;> simp [PP.bl, Op.bytesLess, bitB]
theorem ls_sl {a b c : Nat} (ha : a < 2048) (hb : b < 2048) (hc : c < 262144) (r : Bool) : lessB (sh a r) (lo (b * 262144 + c)) = decide (a ≤ b) := by
  obtain ⟨t, ht⟩ := lo_field (a := b) hc
  rw [PP.lessB_bl (sh_right ha r) (lo_right hb hc), sh_field, ht, PP.bl_bits a b 11 (by omega) (by omega)]
  by_cases h : a = b
  · subst h; cases r <;> simp [PP.bl, Op.bytesLess, bitB]
  · rw [if_neg h, decide_eq_decide]; omega
theorem ls_ls {a b c : Nat} (ha : a < 2048) (hb : b < 2048) (hc : c < 262144) (r : Bool) : lessB (lo (a * 262144 + c)) (sh b r) = decide (a < b) := by
  obtain ⟨t, ht⟩ := lo_field (a := a) hc
  rw [PP.lessB_bl (lo_right ha hc) (sh_right hb r), sh_field, ht, PP.bl_bits a b 11 (by omega) (by omega)]
  by_cases h : a = b
  · subst h; cases r <;> simp [PP.bl, Op.bytesLess, bitB]
  · rw [if_neg h]

/-- A frame lies in the block b. -/
def FrB (W : World) (b : Nat) (f : Fr) : Prop := b < W.heap.size ∧ W.cell? ⟨b, 0, none⟩ = some (.int .u32 f.id) ∧ W.cell? ⟨b, 1, none⟩ = some (.bool f.ext) ∧ W.cell? ⟨b, 2, none⟩ = some (.bool f.rem) ∧ W.cell? ⟨b, 3, none⟩ = some (.int .i64 f.dlc) ∧ W.cell? ⟨b, 4, none⟩ = some (.string f.data)
theorem FrB.below {W W' : World} {b : Nat} {f : Fr} (h : FrB W b f) (hb : Below W.heap.size W W') : FrB W' b f :=
  ⟨Nat.lt_of_lt_of_le h.1 hb.size, cellBelow hb h.1 h.2.1, cellBelow hb h.1 h.2.2.1, cellBelow hb h.1 h.2.2.2.1, cellBelow hb h.1 h.2.2.2.2.1, cellBelow hb h.1 h.2.2.2.2.2⟩

theorem orK_low (a c : Nat) (ha : a < 2048) (hc : c < 262144) : bits BinOp.or IntKind.u32 ((a : Int) * 262144) (c : Int) = ((a * 262144 + c : Nat) : Int) := by
  have h : bits BinOp.or IntKind.u32 ((a * 262144 : Nat) : Int) (c : Int) = ((a * 262144 ||| c : Nat) : Int) := Go.u32_or_nat _ _ (by omega) (by omega)
  have e := Nat.two_pow_add_eq_or_of_lt (i := 18) (b := c) (by omega) a
  rw [show ((a : Int) * 262144) = ((a * 262144 : Nat) : Int) by simp, h, show a * 262144 = 2 ^ 18 * a by omega, ← e]

end Go.Proofs.YthkilodnghiocaaGreatDoor

/- The reference's Head, Field, First, Less. -/
namespace Go.Proofs.YthkilodnghiocaaGreatDoor
open Go.ChangeShapes Go.WideShapes Go.ChangeAt Go.RowKit
open FP (bit bitsOf Fr bitB idPart dataPart headF)

/-- The head, as far as k bytes. -/
def headK (f : Fr) (k : Nat) : List UInt8 := 48 :: (idPart f ++ (bitB f.rem :: (48 :: 48 :: (bitsOf f.dlc.toNat 4 ++ dataPart (f.data.data.toList.take k)))))
theorem headK_zero (f : Fr) : headK f 0 = 48 :: (idPart f ++ (bitB f.rem :: (48 :: 48 :: bitsOf f.dlc.toNat 4))) := by simp [headK, dataPart]
theorem headK_succ (f : Fr) (k : Nat) (h : k < f.data.size) : headK f (k + 1) = headK f k ++ bitsOf f.data[k].toNat 8 := by
  have hl : f.data.data.toList.length = f.data.size := Array.length_toList
  unfold headK
  rw [List.take_succ_eq_append_getElem (by omega), dataPart_snoc]
  simp
  rfl
theorem headK_len (f : Fr) (k : Nat) : (headK f k).length ≤ 39 + 8 * k := by
  unfold headK idPart
  have : (dataPart (f.data.data.toList.take k)).length ≤ 8 * k := by rw [FP.dataPart_length, List.length_take]; omega
  split <;> simp [FP.bitsOf_length] <;> omega
theorem headK_full (f : Fr) : headK f f.data.size = headF f := by
  have hl : f.data.data.toList.length = f.data.size := Array.length_toList
  unfold headK headF
  rw [List.take_of_length_le (by omega)]

end Go.Proofs.YthkilodnghiocaaGreatDoor

/- The reference's Field, First, Less of package 05. -/
namespace Go.Proofs.YthkilodnghiocaaGreatDoor
open Go.ChangeShapes Go.WideShapes Go.ChangeAt Go.RowKit
open FP (bit bitsOf Fr bitB idPart dataPart headF)

namespace PP
/-- The first place at which two rows are unlike; -1: nowhere. -/
def firstF : List UInt8 → List UInt8 → Int
  | a :: x, b :: y => if a = b then (if firstF x y < 0 then -1 else firstF x y + 1) else 0
  | _, _ => -1
theorem firstF_at : ∀ (k : Nat) (x y : List UInt8) (a b : UInt8), x.take k = y.take k → x[k]? = some a → y[k]? = some b → a ≠ b → firstF x y = k
  | 0, [], _, _, _, _, h, _, _ => by simp at h
  | 0, _ :: _, [], _, _, _, _, h, _ => by simp at h
  | 0, c :: x, d :: y, a, b, _, h1, h2, h3 => by
    simp only [List.getElem?_cons_zero, Option.some.injEq] at h1 h2
    subst h1 h2
    simp [firstF, h3]
  | k + 1, [], _, _, _, _, h, _, _ => by simp at h
  | k + 1, _ :: _, [], _, _, _, _, h, _ => by simp at h
  | k + 1, c :: x, d :: y, a, b, ht, h1, h2, h3 => by
    simp only [List.take_succ_cons, List.cons.injEq] at ht
    obtain ⟨rfl, ht⟩ := ht
    simp only [List.getElem?_cons_succ] at h1 h2
    have := firstF_at k x y a b ht h1 h2 h3
    simp only [firstF, if_true]
    rw [this, if_neg (by omega)]
    rfl
theorem firstF_none : ∀ (x y : List UInt8), x.take (min x.length y.length) = y.take (min x.length y.length) → firstF x y = -1
  | [], y, _ => by simp [firstF]
  | _ :: _, [], _ => by simp [firstF]
  | c :: x, d :: y, ht => by
    simp only [List.length_cons, Nat.succ_min_succ, List.take_succ_cons, List.cons.injEq] at ht
    obtain ⟨rfl, ht⟩ := ht
    have := firstF_none x y ht
    simp only [firstF, if_true]
    rw [this, if_pos (by omega)]
theorem firstF_self (x : List UInt8) : firstF x x = -1 := firstF_none x x rfl
theorem firstF_symm : ∀ (x y : List UInt8), firstF x y = firstF y x
  | [], [] => rfl
  | [], _ :: _ => rfl
  | _ :: _, [] => rfl
  | a :: x, b :: y => by
    unfold firstF
    by_cases h : a = b
    · rw [if_pos h, if_pos h.symm, firstF_symm x y]
    · rw [if_neg h, if_neg (Ne.symm h)]
theorem firstF_neg {F G : List UInt8} (hF : Fld F) (hG : Fld G) : firstF F G < 0 ↔ F = G := by
  rcases fld_or hF hG with rfl | ⟨k, a, b, h1, h2, h3, h4⟩
  · simp [firstF_self]
  · rw [firstF_at k F G a b h1 h2 h3 h4]
    refine ⟨fun h => by omega, fun h => ?_⟩
    subst h
    rw [h2] at h3
    exact absurd (Option.some.inj h3) h4
end PP

theorem byte_take (s : ByteArray) (k : Nat) (h : k < s.size) : s.data.toList.take (k + 1) = s.data.toList.take k ++ [s[k]] := by
  rw [List.take_succ_eq_append_getElem (by simpa using h)]; rfl
theorem byte_getR (s : ByteArray) (k : Nat) (h : k < s.size) : s.data.toList[k]? = some s[k] := by
  rw [List.getElem?_eq_getElem (by simpa using h)]; rfl
theorem int_byte {a b : UInt8} : (((a.toNat : Int) == (b.toNat : Int)) = true ↔ a = b) := by
  rw [beq_iff_eq, Int.ofNat_inj]
  exact ⟨fun h => UInt8.toNat_inj.1 h, fun h => by rw [h]⟩

theorem head_field (f : Fr) : headF f = 48 :: (fieldF f ++ (if f.ext then [48, 48] else [48]) ++ (bitsOf f.dlc.toNat 4 ++ dataPart f.data.data.toList)) := by
  unfold headF idPart fieldF
  have l1 := FP.bitsOf_length (f.id / 2 ^ 18) 11
  cases f.ext
  · simp
  · have e := FP.bitsOf_append f.id 11 18
    have e2 := FP.bitsOf_mod f.id 18
    simp only [if_true]
    rw [e, show (262144 : Nat) = 2 ^ 18 by decide, e2]
    simp [l1]

theorem field_len (f : Fr) : (fieldF f).length = if f.ext then 32 else 13 := by
  unfold fieldF
  split <;> simp [FP.bitsOf_length]

theorem refLess_eq {f g : Fr} (hf : FP.rightB f = true) (hg : FP.rightB g = true) :
    (PP.firstF (fieldF f) (fieldF g) < 0 ∧ lessB f g = false) ∨ ∃ (k : Nat) (a : UInt8), PP.firstF (fieldF f) (fieldF g) = k ∧ (fieldF f)[k]? = some a ∧ lessB f g = ((a.toNat : Int) == 48) := by
  rw [PP.lessB_bl hf hg]
  rcases PP.fld_or (PP.fld_of f) (PP.fld_of g) with h | ⟨k, a, b, h1, h2, h3, h4⟩
  · left
    rw [h, PP.firstF_self, PP.bl_irrefl]
    exact ⟨by omega, rfl⟩
  · right
    refine ⟨k, a, PP.firstF_at k _ _ a b h1 h2 h3 h4, h2, ?_⟩
    rw [PP.bl_first k _ _ h1 a b h2 h3 h4]
    rcases (PP.fld_of f).bits a (List.mem_of_getElem? h2) with rfl | rfl <;> rcases (PP.fld_of g).bits b (List.mem_of_getElem? h3) with rfl | rfl
    · exact absurd rfl h4
    · rfl
    · rfl
    · exact absurd rfl h4

end Go.Proofs.YthkilodnghiocaaGreatDoor
