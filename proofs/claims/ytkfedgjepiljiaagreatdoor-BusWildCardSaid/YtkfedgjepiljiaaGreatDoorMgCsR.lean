/- Plain: a controller that sends a frame, or that one comes to, bit by bit. -/
import Derived.Test.YtkfedgjepiljiaaGreatDoorCsQ
import Derived.Test.YtkfedgjepiljiaaGreatDoorMgCsB
import Derived.Test.YtkfedgjepiljiaaGreatDoorCtF
import Derived.Test.YtkfedgjepiljiaaGreatDoorCsL
namespace Go.Proofs.YtkfedgjepiljiaaGreatDoor
open Go.ChangeShapes Go.WideShapes Go.ChangeAt Go.RowKit
open FP (Fr uN uK doneB sizeE sizeV readV headOf bitsF bodyF headF sumF RS rsStep rs0 rsOf goodB badB)

def midR (c : Cl) (s : Bool) (out : ByteArray) (i : Nat) (r : RS) (e : Bool) (t : Int) : Cl :=
  { c with st := 2, n := 0, was := s, sends := s, out := out, at_ := if s = true then i else 0, last := r.last.toNat, sn := (r.n : Nat), got := ⟨r.got.toArray⟩, en := e, tail := t, good := e }
/-- In a frame, behind i of its bits: one's own, or not. -/
def mid (c : Cl) (s : Bool) (f : Fr) (i : Nat) : Cl :=
  midR c s (if s = true then ⟨(bitsF f).toArray⟩ else ⟨#[]⟩) i (rsOf ((bodyF f).take i)) (decide ((bodyF f).length ≤ i)) ((i - (bodyF f).length : Nat))

theorem midR_L (c : Cl) (s : Bool) (out : ByteArray) (i : Nat) (r : RS) (e : Bool) (t : Int) : (midR c s out i r e t).L = r.last ∧ (midR c s out i r e t).N = r.n ∧ (midR c s out i r e t).g = r.got :=
  ⟨u8_back r.last, Int.toNat_natCast _, rfl⟩
theorem ba_snoc (l : List UInt8) (b : UInt8) : (⟨l.toArray⟩ : ByteArray) ++ ⟨#[b]⟩ = ⟨(l ++ [b]).toArray⟩ := by rw [ByteArray.ext_iff]; simp
theorem midR_tk (c : Cl) (s : Bool) (out : ByteArray) (i : Nat) (r : RS) (e : Bool) (t : Int) (b : UInt8) : (midR c s out i r e t).tk b = midR c s out i (rsStep r b) e t := by
  obtain ⟨h1, h2, h3⟩ := midR_L c s out i r e t
  unfold Cl.tk
  rw [h1, h2]
  unfold midR rsStep
  dsimp only
  congr 1
  split
  · exact ba_snoc _ _
  · rfl
theorem midR_adv (c : Cl) (s : Bool) (out : ByteArray) (i : Nat) (r : RS) (e : Bool) (t : Int) : (midR c s out i r e t).adv = midR c s out (i + 1) r e t := by
  unfold Cl.adv
  cases s
  · rw [if_neg (by show ¬ (false = true); decide)]; rfl
  · rw [if_pos (by rfl)]
    unfold midR
    dsimp only
    congr 1
theorem midR_whole (c : Cl) (s : Bool) (out : ByteArray) (i : Nat) (r : RS) (t : Int) (e : Bool) (he : doneB r.got r.n = e) (hg : e = true → goodB r.got = true) : (midR c s out i r false t).whole = midR c s out i r e t := by
  obtain ⟨h1, h2, h3⟩ := midR_L c s out i r false t
  rw [whole_eq rfl rfl, h2, h3, he]
  unfold midR
  dsimp only
  cases e
  · rfl
  · rw [hg rfl]; rfl

theorem mid_begin1 (c : Cl) : c.begin1 = mid c true c.f 1 := by
  unfold mid
  rw [rs_one]
  obtain ⟨m, h⟩ := FP.body_first c.f
  have h1 : decide ((bodyF c.f).length ≤ 1) = false ∨ FP.rightB c.f = false := by
    cases hr : FP.rightB c.f
    · exact .inr rfl
    · left; have := FP.body_ge hr; exact decide_eq_false (by omega)
  unfold Cl.begin1 midR Cl.to
  dsimp only
  have h2 : decide ((bodyF c.f).length ≤ 1) = false := by
    have h3 := FP.stuff_len (sumF (headF c.f)) (FP.sum_bits (FP.head_bits c.f))
    have h4 : (bodyF c.f).length ≥ (sumF (headF c.f)).length := h3.1
    rw [FP.sum_length] at h4
    exact decide_eq_false (by omega)
  rw [h2, if_pos rfl]
  have h5 : (1 - (bodyF c.f).length : Nat) = 0 := by
    have := of_decide_eq_false h2; omega
  rw [h5]
  rfl
theorem mid_begin0 (c : Cl) (f : Fr) : c.begin0 = mid c false f 1 := by
  unfold mid
  rw [rs_one]
  have h2 : decide ((bodyF f).length ≤ 1) = false := by
    have h3 := FP.stuff_len (sumF (headF f)) (FP.sum_bits (FP.head_bits f))
    have h4 : (bodyF f).length ≥ (sumF (headF f)).length := h3.1
    rw [FP.sum_length] at h4
    exact decide_eq_false (by omega)
  have h5 : (1 - (bodyF f).length : Nat) = 0 := by
    have := of_decide_eq_false h2; omega
  unfold Cl.begin0 midR Cl.to
  dsimp only
  rw [h2, h5]
  rfl

theorem mid_out {c : Cl} {f : Fr} {i : Nat} : (mid c true f i).outAt = (bitsF f)[i]? := by
  unfold Cl.outAt mid midR
  dsimp only
  rw [if_pos rfl, if_pos rfl, Int.toNat_natCast]
theorem fol_form {f : Fr} {i : Nat} {b : UInt8} (F : FP.Fol (sumF (headF f)) (rsOf ((bodyF f).take i)) (bodyF f)[i]?) (hb : (bodyF f)[i]? = some b) : ¬ (uK (rsOf ((bodyF f).take i)).last (rsOf ((bodyF f).take i)).n b = 1 ∧ sizeE (rsStep (rsOf ((bodyF f).take i)) b).got = 12) := by
  rintro ⟨h1, h2⟩
  have h3 := F.form b hb h1
  have h4 : (rsStep (rsOf ((bodyF f).take i)) b).got = (rsOf ((bodyF f).take i)).got ++ [b] := by unfold rsStep; rw [if_pos h1]
  rw [h4] at h2
  unfold badB at h3
  rw [decide_eq_true h2] at h3
  cases h3
theorem take_snoc {l : List UInt8} {i : Nat} {b : UInt8} (h : l[i]? = some b) : l.take (i + 1) = l.take i ++ [b] := by rw [List.take_add_one, h]; rfl

/-- A stuffed bit of the frame itself. -/
theorem mid_take {c : Cl} {s : Bool} {f : Fr} (hr : FP.rightB f = true) {i : Nat} (hi : i < (bodyF f).length) {b : UInt8} (hb : (bodyF f)[i]? = some b) (k : Int) : (mid c s f i).take k b = ⟨mid c s f (i + 1), k, zFr, 0⟩ := by
  have F := FP.fol_body hr (j := i) (by omega)
  have F' := FP.fol_body hr (j := i + 1) (by omega)
  have hf := fol_form F hb
  have he := F.err b hb
  have hst : rsOf ((bodyF f).take (i + 1)) = rsStep (rsOf ((bodyF f).take i)) b := by rw [take_snoc hb, FP.rsOf_snoc]
  rw [hst] at F'
  unfold mid
  rw [hst]
  obtain ⟨h1, h2, h3⟩ := midR_L c s (if s = true then ⟨(bitsF f).toArray⟩ else ⟨#[]⟩) i (rsOf ((bodyF f).take i)) (decide ((bodyF f).length ≤ i)) ((i - (bodyF f).length : Nat))
  unfold Cl.take
  rw [h1, h2, if_neg he, midR_tk]
  obtain ⟨h1', h2', h3'⟩ := midR_L c s (if s = true then ⟨(bitsF f).toArray⟩ else ⟨#[]⟩) i (rsStep (rsOf ((bodyF f).take i)) b) (decide ((bodyF f).length ≤ i)) ((i - (bodyF f).length : Nat))
  rw [h3', if_neg hf, midR_adv]
  have e0 : decide ((bodyF f).length ≤ i) = false := decide_eq_false (by omega)
  have e1 : (i - (bodyF f).length : Nat) = (i + 1 - (bodyF f).length : Nat) := by omega
  rw [e0, e1]
  have hd : doneB (rsStep (rsOf ((bodyF f).take i)) b).got (rsStep (rsOf ((bodyF f).take i)) b).n = decide ((bodyF f).length ≤ i + 1) := by
    by_cases hl : (bodyF f).length ≤ i + 1
    · rw [decide_eq_true hl]
      exact F'.done.2 (List.getElem?_eq_none hl)
    · rw [decide_eq_false hl]
      cases hd : doneB (rsStep (rsOf ((bodyF f).take i)) b).got (rsStep (rsOf ((bodyF f).take i)) b).n
      · rfl
      · have := F'.done.1 hd
        rw [List.getElem?_eq_none_iff] at this
        exact absurd this hl
  rw [midR_whole _ _ _ _ _ _ _ hd (fun e => by
    rw [F'.all (List.getElem?_eq_none (of_decide_eq_true e))]
    exact FP.good_sum hr)]
theorem mid_samp {c : Cl} {s : Bool} {f : Fr} {i : Nat} (b : UInt8) : (mid c s f i).samp b = (mid c s f i).frame b := by
  unfold Cl.samp
  rw [if_neg (by show ¬ (2 : Int) = 0; decide), if_neg (by show ¬ (2 : Int) = 1; decide), if_pos (by rfl)]
theorem mid_body {c : Cl} {s : Bool} {f : Fr} {i : Nat} (hi : i < (bodyF f).length) (b : UInt8) : (mid c s f i).samp b = (mid c s f i).body b := by
  rw [mid_samp]
  unfold Cl.frame
  rw [if_neg]
  show ¬ decide ((bodyF f).length ≤ i) = true
  rw [decide_eq_true_eq]
  omega
theorem mid_behind {c : Cl} {s : Bool} {f : Fr} {i : Nat} (hi : (bodyF f).length ≤ i) (b : UInt8) : (mid c s f i).samp b = (mid c s f i).behind b := by
  rw [mid_samp]
  unfold Cl.frame
  rw [if_pos]
  show decide ((bodyF f).length ≤ i) = true
  exact decide_eq_true hi
theorem mid_step {c : Cl} {s : Bool} {f : Fr} (hr : FP.rightB f = true) {i : Nat} (hi : i < (bodyF f).length) {b : UInt8} (hb : (bodyF f)[i]? = some b) : (mid c s f i).samp b = ev0 (mid c s f (i + 1)) := by
  rw [mid_body hi]
  unfold Cl.body
  rw [if_neg, mid_take hr hi hb]
  · rfl
  · rintro ⟨h1, h2⟩
    have hs : s = true := h1
    subst hs
    rw [mid_out, FP.body_get f i hi] at h2
    exact h2 hb

theorem mid_tail {c : Cl} {s : Bool} {f : Fr} {i : Nat} : (mid c s f i).tail = (i - (bodyF f).length : Nat) := rfl
theorem mid_rs {f : Fr} {i : Nat} (hi : (bodyF f).length ≤ i) : rsOf ((bodyF f).take (i + 1)) = rsOf ((bodyF f).take i) := by
  rw [List.take_of_length_le hi, List.take_of_length_le (by omega)]
theorem mid_on {c : Cl} {s : Bool} {f : Fr} {i : Nat} (hi : (bodyF f).length ≤ i) : (mid c s f i).on = mid c s f (i + 1) := by
  unfold mid
  rw [mid_rs hi, decide_eq_true hi, decide_eq_true (show (bodyF f).length ≤ i + 1 by omega)]
  unfold Cl.on midR
  dsimp only
  have e : ((i - (bodyF f).length : Nat) : Int) + 1 = ((i + 1 - (bodyF f).length : Nat) : Int) := by omega
  rw [e]
  cases s <;> rfl
theorem mid_good {c : Cl} {s : Bool} {f : Fr} {i : Nat} (hi : (bodyF f).length ≤ i) : (mid c s f i).good = true := decide_eq_true hi
/-- A bit behind the stuffed ones, as it should be. -/
theorem mid_next {c : Cl} {s : Bool} {f : Fr} {i : Nat} (hi : (bodyF f).length ≤ i) (h9 : i < (bodyF f).length + 9) (h8 : s = false → i ≠ (bodyF f).length + 8) {b : UInt8} (hb : if i = (bodyF f).length + 1 then (s = true → b = 48) else b ≠ 48) : (mid c s f i).samp b = ev0 (mid c s f (i + 1)) := by
  rw [mid_behind hi]
  unfold Cl.behind
  have ht : (mid c s f i).tail = ((i - (bodyF f).length : Nat) : Int) := rfl
  rw [if_neg, if_neg, if_neg, if_neg, if_neg, mid_on hi]
  · rintro ⟨h1, h2⟩
    rw [ht] at h1
    exact h8 h2 (by omega)
  · rw [ht]; omega
  · rintro ⟨_, _, h3⟩
    rw [mid_good hi] at h3
    cases h3
  · rintro ⟨h1, h2, _⟩
    rw [ht] at h1
    rw [if_neg (by omega)] at hb
    exact hb h2
  · rintro ⟨h1, h2, h3⟩
    rw [ht] at h1
    rw [if_pos (by omega)] at hb
    exact h3 (hb h2)
theorem mid_count (c : Cl) (s : Bool) (f : Fr) (i : Nat) (what : Int) : (mid c s f i).count what = mid (c.count what) s f i := by
  unfold Cl.count mid midR
  dsimp only
  split <;> rfl
/-- The last bit but one, of another one's frame. -/
theorem mid_came {c : Cl} {f : Fr} (hr : FP.rightB f = true) {i : Nat} (hi : i = (bodyF f).length + 8) {b : UInt8} (hb : b ≠ 48) : (mid c false f i).samp b = ⟨mid (c.count 2) false f (i + 1), 2, f, 0⟩ := by
  rw [mid_behind (by omega)]
  unfold Cl.behind
  have ht : (mid c false f i).tail = ((i - (bodyF f).length : Nat) : Int) := rfl
  rw [if_neg, if_neg, if_neg, if_neg, if_pos, mid_count, mid_on (by omega)]
  · congr 1
    have F := FP.fol_body hr (j := (bodyF f).length) (Nat.le_refl _)
    have h1 := F.all (List.getElem?_eq_none (Nat.le_refl _))
    show readV (headOf (rsOf ((bodyF f).take i)).got) = f
    rw [List.take_of_length_le (by omega)]
    rw [List.take_of_length_le (Nat.le_refl _)] at h1
    rw [h1, FP.headOf_sum, (FP.read_yes (FP.read_head hr)).1, FP.raw_head hr]
  · exact ⟨by rw [ht]; omega, rfl⟩
  · rw [ht]; omega
  · rintro ⟨_, _, h3⟩
    rw [mid_good (by omega)] at h3
    cases h3
  · rintro ⟨_, h2, _⟩
    exact hb h2
  · rintro ⟨h1, _⟩
    rw [ht] at h1
    omega
theorem mid_endR {c : Cl} {f : Fr} {i : Nat} (hi : i = (bodyF f).length + 9) {b : UInt8} (hb : b ≠ 48) : (mid c false f i).samp b = ev0 ((mid c false f i).to 6) := by
  rw [mid_behind (by omega)]
  unfold Cl.behind
  have ht : (mid c false f i).tail = ((i - (bodyF f).length : Nat) : Int) := rfl
  rw [if_neg, if_neg, if_neg, if_pos]
  · unfold Cl.ends
    rw [if_neg hb, if_neg (by show ¬ false = true; decide)]
    rfl
  · rw [ht]; omega
  · rintro ⟨h1, _⟩
    rw [ht] at h1
    omega
  · rintro ⟨_, h2, _⟩
    exact hb h2
  · rintro ⟨h1, _⟩
    rw [ht] at h1
    omega
theorem mid_endS {c : Cl} {f : Fr} {i : Nat} (hi : i = (bodyF f).length + 9) {b : UInt8} (hb : b ≠ 48) : (mid c true f i).samp b = ⟨(mid c true f i).sent, 1, c.f, 0⟩ := by
  rw [mid_behind (by omega)]
  unfold Cl.behind
  have ht : (mid c true f i).tail = ((i - (bodyF f).length : Nat) : Int) := rfl
  rw [if_neg, if_neg, if_neg, if_pos]
  · unfold Cl.ends
    rw [if_neg hb, if_pos (by rfl)]
    rfl
  · rw [ht]; omega
  · rintro ⟨h1, _⟩
    rw [ht] at h1
    omega
  · rintro ⟨_, h2, _⟩
    exact hb h2
  · rintro ⟨h1, _⟩
    rw [ht] at h1
    omega
theorem mid_ack {c : Cl} {f : Fr} {i : Nat} (hi : i = (bodyF f).length + 1) {b : UInt8} (hb : b ≠ 48) : (mid c true f i).samp b = ⟨(mid c true f i).fail 14, 3, zFr, 14⟩ := by
  rw [mid_behind (by omega)]
  unfold Cl.behind
  have ht : (mid c true f i).tail = ((i - (bodyF f).length : Nat) : Int) := rfl
  rw [if_pos]
  exact ⟨by rw [ht]; omega, rfl, hb⟩
theorem mid_form {c : Cl} {f : Fr} {i : Nat} (hi : (bodyF f).length ≤ i) (h1 : i ≠ (bodyF f).length + 1) : (mid c true f i).samp 48 = ⟨(mid c true f i).fail 12, 3, zFr, 12⟩ := by
  rw [mid_behind hi]
  unfold Cl.behind
  have ht : (mid c true f i).tail = ((i - (bodyF f).length : Nat) : Int) := rfl
  rw [if_neg, if_pos]
  · exact ⟨by rw [ht]; omega, rfl, .inr rfl⟩
  · rintro ⟨h, _⟩
    rw [ht] at h
    omega
/-- What it drives. -/
theorem mid_drvS {c : Cl} {f : Fr} {i : Nat} {b : UInt8} (hb : (bitsF f)[i]? = some b) : (mid c true f i).drv = b := by
  unfold Cl.drv
  rw [if_neg (by show ¬ (2 : Int) = 1; decide), if_pos (by rfl), if_pos (by rfl), mid_out, hb]
  rfl
theorem mid_drvR {c : Cl} {f : Fr} {i : Nat} : (mid c false f i).drv = if i = (bodyF f).length + 1 then 48 else 49 := by
  unfold Cl.drv
  rw [if_neg (by show ¬ (2 : Int) = 1; decide), if_pos (by rfl), if_neg (by show ¬ false = true; decide)]
  by_cases h : i = (bodyF f).length + 1
  · rw [if_pos h, if_pos]
    refine ⟨decide_eq_true (by omega), ?_, decide_eq_true (by omega)⟩
    show ((i - (bodyF f).length : Nat) : Int) = 1
    omega
  · rw [if_neg h, if_neg]
    rintro ⟨h1, h2, _⟩
    have h2' : ((i - (bodyF f).length : Nat) : Int) = 1 := h2
    omega
end Go.Proofs.YtkfedgjepiljiaaGreatDoor

/- Plain: one's own frame, alone on a bus. -/
namespace Go.Proofs.YtkfedgjepiljiaaGreatDoor
open Go.ChangeShapes Go.WideShapes Go.ChangeAt Go.RowKit
open FP (Fr bitsF bodyF tenF)

theorem bits_tail (f : Fr) {i : Nat} (h1 : (bodyF f).length ≤ i) (h2 : i < (bitsF f).length) : (bitsF f)[i]? = some 49 := by
  have hl := FP.body_len f
  show (bodyF f ++ tenF)[i]? = _
  rw [List.getElem?_append_right h1]
  have : ∀ j : Fin 10, tenF[j.val]? = some 49 := by decide
  exact this ⟨i - (bodyF f).length, by omega⟩
theorem bits_some (f : Fr) {i : Nat} (h : i < (bitsF f).length) : ∃ b, (bitsF f)[i]? = some b ∧ (b = 48 ∨ b = 49) := by
  refine ⟨(bitsF f)[i], List.getElem?_eq_getElem h, FP.bits_bits f _ (List.getElem_mem h)⟩
theorem bits_zero (f : Fr) : (bitsF f)[0]? = some 48 := by
  obtain ⟨m, h⟩ := FP.body_first f
  show (bodyF f ++ tenF)[0]? = _
  rw [h]; rfl

/-- The sender behind i bits. -/
def sndS (g : Cl) (f : Fr) (i : Nat) : Cl := if i = 0 then g else if i ≤ (bodyF f).length + 9 then mid g true f i else (mid g true f ((bodyF f).length + 9)).sent
/-- The bit that the bus has: one is told that it came. -/
def busB (f : Fr) (i : Nat) (b : UInt8) : UInt8 := if i = (bodyF f).length + 1 then 48 else b

theorem snd_step {g : Cl} {f : Fr} (hr : FP.rightB f = true) (h1 : g.st = 1) (hh : g.has = true) (hf : g.f = f) {i : Nat} (hi : i < (bitsF f).length) {b : UInt8} (hb : (bitsF f)[i]? = some b) :
    (sndS g f i).drv = b ∧ (sndS g f i).samp (busB f i b) = ⟨sndS g f (i + 1), if i + 1 = (bitsF f).length then 1 else 0, if i + 1 = (bitsF f).length then f else zFr, 0⟩ := by
  have hl := FP.body_len f
  have hge := FP.body_ge hr
  by_cases h0 : i = 0
  · subst h0
    have hb0 : b = 48 := by rw [bits_zero] at hb; exact (Option.some.inj hb).symm
    subst hb0
    have e0 : sndS g f 0 = g := if_pos rfl
    have e1 : sndS g f 1 = mid g true f 1 := by unfold sndS; rw [if_neg (by decide), if_pos (by omega)]
    have eb : busB f 0 48 = 48 := by unfold busB; split <;> rfl
    rw [e0, eb]
    refine ⟨by unfold Cl.drv; rw [if_pos h1, if_pos hh], ?_⟩
    rw [if_neg (by omega), if_neg (by omega)]
    show _ = (⟨sndS g f 1, 0, zFr, 0⟩ : Mc)
    unfold Cl.samp
    rw [if_neg (by omega), if_pos h1, if_pos rfl, if_pos hh, e1, mid_begin1, hf]
    rfl
  · by_cases h9 : i = (bodyF f).length + 9
    · have hb1 : b = 49 := by rw [bits_tail f (by omega) hi] at hb; exact (Option.some.inj hb).symm
      have eb : busB f i b = 49 := by unfold busB; rw [if_neg (by omega)]; exact hb1
      have e0 : sndS g f i = mid g true f i := by unfold sndS; rw [if_neg h0, if_pos (by omega)]
      have e1 : sndS g f (i + 1) = (mid g true f i).sent := by unfold sndS; rw [if_neg (by omega), if_neg (by omega), h9]
      rw [e0, eb, e1, if_pos (by omega), if_pos (by omega)]
      exact ⟨mid_drvS hb, by rw [mid_endS h9 (by decide), hf]⟩
    · have e0 : sndS g f i = mid g true f i := by unfold sndS; rw [if_neg h0, if_pos (by omega)]
      have e1 : sndS g f (i + 1) = mid g true f (i + 1) := by unfold sndS; rw [if_neg (by omega), if_pos (by omega)]
      rw [e0, e1, if_neg (by omega), if_neg (by omega)]
      refine ⟨mid_drvS hb, ?_⟩
      by_cases hlt : i < (bodyF f).length
      · have eb : busB f i b = b := by unfold busB; rw [if_neg (by omega)]
        rw [eb]
        exact mid_step hr hlt (by rw [← FP.body_get f i hlt]; exact hb)
      · have hb1 : b = 49 := by rw [bits_tail f (by omega) hi] at hb; exact (Option.some.inj hb).symm
        refine mid_next (by omega) (by omega) (fun e => by cases e) ?_
        by_cases h1 : i = (bodyF f).length + 1
        · rw [if_pos h1]; intro _; unfold busB; rw [if_pos h1]
        · rw [if_neg h1]; unfold busB; rw [if_neg h1, hb1]; decide
theorem busB_bit {f : Fr} {i : Nat} {b : UInt8} (hb : b = 48 ∨ b = 49) : busB f i b = 48 ∨ busB f i b = 49 := by unfold busB; split; exact .inl rfl; exact hb
theorem snd_ok {g : Cl} {f : Fr} (hg : g.Ok) (hr : FP.rightB f = true) (h1 : g.st = 1) (hh : g.has = true) (hf : g.f = f) : ∀ i, i ≤ (bitsF f).length → (sndS g f i).Ok
  | 0, _ => by rw [show sndS g f 0 = g from if_pos rfl]; exact hg
  | i + 1, hi => by
    obtain ⟨b, hb, hbit⟩ := bits_some f (i := i) (by omega)
    have h := snd_step hr h1 hh hf (i := i) (by omega) hb
    have := (snd_ok hg hr h1 hh hf i (by omega)).samp (busB f i b) (busB_bit hbit)
    rw [h.2] at this
    exact this
/-- It is sent. -/
theorem snd_end {g : Cl} {f : Fr} (hg : g.Ok) (h1 : g.st = 1) (ht : g.tc = 0) (hrc : g.rc = 0) : (sndS g f (bitsF f).length).has = false ∧ (sndS g f (bitsF f).length).st = 6 ∧ (sndS g f (bitsF f).length).tc = 0 ∧ (sndS g f (bitsF f).length).rc = 0 ∧ (sndS g f (bitsF f).length).off = false ∧ (sndS g f (bitsF f).length).rs = 0 := by
  have hl := FP.body_len f
  have ho := hg.on (by omega)
  have hrs := (cnt_on hg.cnt ho).1
  have e : sndS g f (bitsF f).length = (mid g true f ((bodyF f).length + 9)).sent := by unfold sndS; rw [if_neg (by omega), if_neg (by omega)]
  rw [e]
  have e2 : ((mid g true f ((bodyF f).length + 9)).to 6).count 1 = { (mid g true f ((bodyF f).length + 9)).to 6 with tc := cntTc 1 g.tc, rc := cntRc 1 g.rc } := by
    refine count_low 1 ?_
    show cntTc 1 g.tc ≤ 255
    rw [ht]; decide
  unfold Cl.sent
  rw [e2]
  refine ⟨rfl, rfl, ?_, ?_, ho, hrs⟩
  · show cntTc 1 g.tc = 0
    rw [ht]; decide
  · show cntRc 1 g.rc = 0
    rw [hrc]; decide
end Go.Proofs.YtkfedgjepiljiaaGreatDoor

/- campanilelaw07.feed of recessive bits. -/
namespace Go.Proofs.YtkfedgjepiljiaaGreatDoor
open Go.ChangeShapes Go.WideShapes Go.ChangeAt Go.RowKit
open FP (Fr)

/-- So many recessive bits. -/
def ones (c : Cl) : Nat → Cl
  | 0 => c
  | k + 1 => (ones c k).one
theorem ones_q {c : Cl} (h : c.Q) : ∀ k, (ones c k).Q
  | 0 => h
  | k + 1 => (ones_q h k).one
section
variable {P : Program} {ops : Array Oper} {Q : Exit → Act → World → Prop} {md : Region.Mode} {L : List Nat} {l : List (Nat × (World → Prop))}
theorem wpAnyL_three {i k m : Nat} {fuel : Nat} {listed : Array Bool} {a : Act} {w : World} (hr : Region.ready md ops listed = [i, k, m])
    (h : wpOp P ops Q i (fun a' w' => keepsL md ops L l i w w' ∧ wpAnyL P md ops Q L l fuel (listed.setIfInBounds i true) a' w') a w)
    (h' : wpOp P ops Q k (fun a' w' => keepsL md ops L l k w w' ∧ wpAnyL P md ops Q L l fuel (listed.setIfInBounds k true) a' w') a w)
    (h'' : wpOp P ops Q m (fun a' w' => keepsL md ops L l m w w' ∧ wpAnyL P md ops Q L l fuel (listed.setIfInBounds m true) a' w') a w) : wpAnyL P md ops Q L l (fuel + 1) listed a w :=
  ⟨fun h0 => absurd (hr.symm.trans h0) (by simp), hr ▸ fun j hj => by
    simp only [List.mem_cons, List.not_mem_nil, or_false] at hj
    rcases hj with rfl | rfl | rfl
    · exact h
    · exact h'
    · exact h''⟩
end

end Go.Proofs.YtkfedgjepiljiaaGreatDoor

/- campanilelaw07.feed of any bits; ready. -/
namespace Go.Proofs.YtkfedgjepiljiaaGreatDoor
open Go.ChangeShapes Go.WideShapes Go.ChangeAt Go.RowKit
open FP (Fr)

/-- What bits make of a controller. -/
def Cl.run (c : Cl) (l : List UInt8) : Cl := l.foldl (fun c b => (c.samp b).c) c
theorem run_snoc (c : Cl) (l : List UInt8) (b : UInt8) : c.run (l ++ [b]) = ((c.run l).samp b).c := by simp [Cl.run]
theorem Cl.Ok.run {c : Cl} (h : c.Ok) : ∀ {l : List UInt8}, (∀ b ∈ l, b = 48 ∨ b = 49) → (c.run l).Ok := by
  intro l
  induction l generalizing c with
  | nil => exact fun _ => h
  | cons a l ih => exact fun hl => ih (h.samp a (hl a (by simp))) (fun b hb => hl b (by simp [hb]))
theorem zCl_ok : zCl.Ok := ⟨rfl, rfl, (fun e => by cases e), fun _ => rfl, by decide, by decide, by decide, by decide, (fun e => by cases e), fun _ => ⟨rfl, rfl, rfl, rfl, rfl, rfl, rfl, rfl, rfl⟩, (fun e => by cases e)⟩
/-- One that has joined. -/
def idleC : Cl := { zCl with st := 1 }
theorem run_ready : zCl.run [49, 49, 49, 49, 49, 49, 49, 49, 49, 49, 49] = idleC := by rfl
theorem idle_ok : idleC.Ok := by rw [← run_ready]; exact zCl_ok.run (by decide)

end Go.Proofs.YtkfedgjepiljiaaGreatDoor

/- Plain: another one's frame comes, and is told to have come. -/
namespace Go.Proofs.YtkfedgjepiljiaaGreatDoor
open Go.ChangeShapes Go.WideShapes Go.ChangeAt Go.RowKit
open FP (Fr bitsF bodyF tenF)

/-- The receiver behind i bits. -/
def rcvS (c : Cl) (f : Fr) (i : Nat) : Cl :=
  if i = 0 then c else if i ≤ (bodyF f).length + 8 then mid c false f i else if i = (bodyF f).length + 9 then mid (c.count 2) false f i else (mid (c.count 2) false f ((bodyF f).length + 9)).to 6
theorem rcv_step {c : Cl} {f : Fr} (hr : FP.rightB f = true) (h1 : c.st = 1) (hh : c.has = false) {i : Nat} (hi : i < (bitsF f).length) {b : UInt8} (hb : (bitsF f)[i]? = some b) :
    (rcvS c f i).drv = (if i = (bodyF f).length + 1 then 48 else 49) ∧ (rcvS c f i).samp (busB f i b) = ⟨rcvS c f (i + 1), if i = (bodyF f).length + 8 then 2 else 0, if i = (bodyF f).length + 8 then f else zFr, 0⟩ := by
  have hl := FP.body_len f
  have hge := FP.body_ge hr
  by_cases h0 : i = 0
  · subst h0
    have hb0 : b = 48 := by rw [bits_zero] at hb; exact (Option.some.inj hb).symm
    subst hb0
    have e0 : rcvS c f 0 = c := if_pos rfl
    have e1 : rcvS c f 1 = mid c false f 1 := by unfold rcvS; rw [if_neg (by decide), if_pos (by omega)]
    have eb : busB f 0 48 = 48 := by unfold busB; split <;> rfl
    rw [e0, eb, if_neg (by omega), if_neg (by omega), if_neg (by omega)]
    refine ⟨by unfold Cl.drv; rw [if_pos h1, if_neg (by rw [hh]; decide)], ?_⟩
    show _ = (⟨rcvS c f 1, 0, zFr, 0⟩ : Mc)
    unfold Cl.samp
    rw [if_neg (by omega), if_pos h1, if_pos rfl, if_neg (by rw [hh]; decide), e1, mid_begin0 c f]
    rfl
  · by_cases h9 : i = (bodyF f).length + 9
    · have hb1 : b = 49 := by rw [bits_tail f (by omega) hi] at hb; exact (Option.some.inj hb).symm
      have eb : busB f i b = 49 := by unfold busB; rw [if_neg (by omega)]; exact hb1
      have e0 : rcvS c f i = mid (c.count 2) false f i := by unfold rcvS; rw [if_neg h0, if_neg (by omega), if_pos h9]
      have e1 : rcvS c f (i + 1) = (mid (c.count 2) false f i).to 6 := by unfold rcvS; rw [if_neg (by omega), if_neg (by omega), if_neg (by omega), h9]
      rw [e0, eb, e1, if_neg (by omega), if_neg (by omega), if_neg (by omega)]
      refine ⟨by rw [mid_drvR, if_neg (by omega)], ?_⟩
      rw [mid_endR h9 (by decide)]; rfl
    · have e0 : rcvS c f i = mid c false f i := by unfold rcvS; rw [if_neg h0, if_pos (by omega)]
      rw [e0]
      refine ⟨mid_drvR, ?_⟩
      by_cases h8 : i = (bodyF f).length + 8
      · have hb1 : b = 49 := by rw [bits_tail f (by omega) hi] at hb; exact (Option.some.inj hb).symm
        have eb : busB f i b = 49 := by unfold busB; rw [if_neg (by omega)]; exact hb1
        have e1 : rcvS c f (i + 1) = mid (c.count 2) false f (i + 1) := by unfold rcvS; rw [if_neg (by omega), if_neg (by omega), if_pos (by omega)]
        rw [eb, e1, if_pos h8, if_pos h8]
        exact mid_came hr h8 (by decide)
      · have e1 : rcvS c f (i + 1) = mid c false f (i + 1) := by unfold rcvS; rw [if_neg (by omega), if_pos (by omega)]
        rw [e1, if_neg h8, if_neg h8]
        by_cases hlt : i < (bodyF f).length
        · have eb : busB f i b = b := by unfold busB; rw [if_neg (by omega)]
          rw [eb]
          exact mid_step hr hlt (by rw [← FP.body_get f i hlt]; exact hb)
        · have hb1 : b = 49 := by rw [bits_tail f (by omega) hi] at hb; exact (Option.some.inj hb).symm
          refine mid_next (by omega) (by omega) (fun _ => h8) ?_
          by_cases h1 : i = (bodyF f).length + 1
          · rw [if_pos h1]; intro _; unfold busB; rw [if_pos h1]
          · rw [if_neg h1]; unfold busB; rw [if_neg h1, hb1]; decide
theorem rcv_ok {c : Cl} {f : Fr} (hg : c.Ok) (hr : FP.rightB f = true) (h1 : c.st = 1) (hh : c.has = false) : ∀ i, i ≤ (bitsF f).length → (rcvS c f i).Ok
  | 0, _ => by rw [show rcvS c f 0 = c from if_pos rfl]; exact hg
  | i + 1, hi => by
    obtain ⟨b, hb, hbit⟩ := bits_some f (i := i) (by omega)
    have h := rcv_step hr h1 hh (i := i) (by omega) hb
    have := (rcv_ok hg hr h1 hh i (by omega)).samp (busB f i b) (busB_bit hbit)
    rw [h.2] at this
    exact this
theorem rcv_end (f : Fr) : rcvS idleC f (bitsF f).length = (mid (idleC.count 2) false f ((bodyF f).length + 9)).to 6 := by
  have hl := FP.body_len f
  unfold rcvS; rw [if_neg (by omega), if_neg (by omega), if_neg (by omega)]
theorem rcv_idle (f : Fr) (i : Nat) : ((mid (idleC.count 2) false f i).to 6).run [49, 49, 49] = idleC := by rfl

/-- The bits on the bus, where one is told that they came. -/
def toldF (f : Fr) : List UInt8 := (bitsF f).take ((bitsF f).length - 9) ++ 48 :: (bitsF f).drop ((bitsF f).length - 8)
theorem told_len (f : Fr) : (toldF f).length = (bitsF f).length := by
  have := FP.body_len f
  unfold toldF
  rw [List.length_append, List.length_take, List.length_cons, List.length_drop]
  omega
theorem told_at (f : Fr) {i : Nat} {b : UInt8} (hb : (bitsF f)[i]? = some b) : (toldF f)[i]? = some (busB f i b) := by
  have hl := FP.body_len f
  have hi : i < (bitsF f).length := (List.getElem?_eq_some_iff.1 hb).1
  have ht : ((bitsF f).take ((bitsF f).length - 9)).length = (bodyF f).length + 1 := by rw [List.length_take]; omega
  unfold toldF busB
  by_cases h1 : i < (bodyF f).length + 1
  · rw [List.getElem?_append_left (by omega), if_neg (by omega), List.getElem?_take_of_lt (by omega)]; exact hb
  · rw [List.getElem?_append_right (by omega), ht]
    by_cases h2 : i = (bodyF f).length + 1
    · rw [if_pos h2, h2, Nat.sub_self]; rfl
    · rw [if_neg h2, show i - ((bodyF f).length + 1) = (i - ((bodyF f).length + 2)) + 1 by omega, List.getElem?_cons_succ, List.getElem?_drop, show (bitsF f).length - 8 + (i - ((bodyF f).length + 2)) = i by omega]
      exact hb
end Go.Proofs.YtkfedgjepiljiaaGreatDoor
