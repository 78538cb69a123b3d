/- Plain: a controller that sends a frame, or that one comes to, bit by bit. -/
import Derived.Test.YtpfbobcilphncaaDoorCsQ
namespace Go.Proofs.YtpfbobcilphncaaDoor
open Go.ChangeShapes Go.WideShapes Go.ChangeAt Go.RowKit
open FP (Fr uN uK doneB sizeE sizeV readV headOf bitsF bodyF headF sumF RS rsStep rs0 rsOf goodB badB)

def midR (c : Cl) (s : Bool) (out : ByteArray) (i : Nat) (r : RS) (e : Bool) (t : Int) : Cl :=
  { c with st := 2, n := 0, was := s, sends := s, out := out, at_ := if s = true then i else 0, last := r.last.toNat, sn := (r.n : Nat), got := ⟨r.got.toArray⟩, en := e, tail := t, good := e }
/-- In a frame, behind i of its bits: one's own, or not. -/
def mid (c : Cl) (s : Bool) (f : Fr) (i : Nat) : Cl :=
  midR c s (if s = true then ⟨(bitsF f).toArray⟩ else ⟨#[]⟩) i (rsOf ((bodyF f).take i)) (decide ((bodyF f).length ≤ i)) ((i - (bodyF f).length : Nat))

theorem midR_L (c : Cl) (s : Bool) (out : ByteArray) (i : Nat) (r : RS) (e : Bool) (t : Int) : (midR c s out i r e t).L = r.last ∧ (midR c s out i r e t).N = r.n ∧ (midR c s out i r e t).g = r.got :=
  ⟨u8_back r.last, Int.toNat_natCast _, rfl⟩
theorem ba_snoc (l : List UInt8) (b : UInt8) : (⟨l.toArray⟩ : ByteArray) ++ ⟨#[b]⟩ = ⟨(l ++ [b]).toArray⟩ := by rw [ByteArray.ext_iff]; simp
theorem midR_tk (c : Cl) (s : Bool) (out : ByteArray) (i : Nat) (r : RS) (e : Bool) (t : Int) (b : UInt8) : (midR c s out i r e t).tk b = midR c s out i (rsStep r b) e t := by
  obtain ⟨h1, h2, h3⟩ := midR_L c s out i r e t
  unfold Cl.tk
  rw [h1, h2]
  unfold midR rsStep
  dsimp only
  congr 1
  split
  · exact ba_snoc _ _
  · rfl
theorem midR_adv (c : Cl) (s : Bool) (out : ByteArray) (i : Nat) (r : RS) (e : Bool) (t : Int) : (midR c s out i r e t).adv = midR c s out (i + 1) r e t := by
  unfold Cl.adv
  cases s
  · rw [if_neg (by show ¬ (false = true); decide)]; rfl
  · rw [if_pos (by rfl)]
    unfold midR
    dsimp only
    congr 1
theorem midR_whole (c : Cl) (s : Bool) (out : ByteArray) (i : Nat) (r : RS) (t : Int) (e : Bool) (he : doneB r.got r.n = e) (hg : e = true → goodB r.got = true) : (midR c s out i r false t).whole = midR c s out i r e t := by
  obtain ⟨h1, h2, h3⟩ := midR_L c s out i r false t
  rw [whole_eq rfl rfl, h2, h3, he]
  unfold midR
  dsimp only
  cases e
  · rfl
  · rw [hg rfl]; rfl

theorem mid_begin1 (c : Cl) : c.begin1 = mid c true c.f 1 := by
  unfold mid
  rw [rs_one]
  obtain ⟨m, h⟩ := FP.body_first c.f
  have h1 : decide ((bodyF c.f).length ≤ 1) = false ∨ FP.rightB c.f = false := by
    cases hr : FP.rightB c.f
    · exact .inr rfl
    · left; have := FP.body_ge hr; exact decide_eq_false (by omega)
  unfold Cl.begin1 midR Cl.to
  dsimp only
  have h2 : decide ((bodyF c.f).length ≤ 1) = false := by
    have h3 := FP.stuff_len (sumF (headF c.f)) (FP.sum_bits (FP.head_bits c.f))
    have h4 : (bodyF c.f).length ≥ (sumF (headF c.f)).length := h3.1
    rw [FP.sum_length] at h4
    exact decide_eq_false (by omega)
  rw [h2, if_pos rfl]
  have h5 : (1 - (bodyF c.f).length : Nat) = 0 := by
    have := of_decide_eq_false h2; omega
  rw [h5]
  rfl
theorem mid_begin0 (c : Cl) (f : Fr) : c.begin0 = mid c false f 1 := by
  unfold mid
  rw [rs_one]
  have h2 : decide ((bodyF f).length ≤ 1) = false := by
    have h3 := FP.stuff_len (sumF (headF f)) (FP.sum_bits (FP.head_bits f))
    have h4 : (bodyF f).length ≥ (sumF (headF f)).length := h3.1
    rw [FP.sum_length] at h4
    exact decide_eq_false (by omega)
  have h5 : (1 - (bodyF f).length : Nat) = 0 := by
    have := of_decide_eq_false h2; omega
  unfold Cl.begin0 midR Cl.to
  dsimp only
  rw [h2, h5]
  rfl

theorem mid_out {c : Cl} {f : Fr} {i : Nat} : (mid c true f i).outAt = (bitsF f)[i]? := by
  unfold Cl.outAt mid midR
  dsimp only
  rw [if_pos rfl, if_pos rfl, Int.toNat_natCast]
theorem fol_form {f : Fr} {i : Nat} {b : UInt8} (F : FP.Fol (sumF (headF f)) (rsOf ((bodyF f).take i)) (bodyF f)[i]?) (hb : (bodyF f)[i]? = some b) : ¬ (uK (rsOf ((bodyF f).take i)).last (rsOf ((bodyF f).take i)).n b = 1 ∧ sizeE (rsStep (rsOf ((bodyF f).take i)) b).got = 12) := by
  rintro ⟨h1, h2⟩
  have h3 := F.form b hb h1
  have h4 : (rsStep (rsOf ((bodyF f).take i)) b).got = (rsOf ((bodyF f).take i)).got ++ [b] := by unfold rsStep; rw [if_pos h1]
  rw [h4] at h2
  unfold badB at h3
  rw [decide_eq_true h2] at h3
  cases h3
theorem take_snoc {l : List UInt8} {i : Nat} {b : UInt8} (h : l[i]? = some b) : l.take (i + 1) = l.take i ++ [b] := by rw [List.take_add_one, h]; rfl

/-- A stuffed bit of the frame itself. -/
theorem mid_take {c : Cl} {s : Bool} {f : Fr} (hr : FP.rightB f = true) {i : Nat} (hi : i < (bodyF f).length) {b : UInt8} (hb : (bodyF f)[i]? = some b) (k : Int) : (mid c s f i).take k b = ⟨mid c s f (i + 1), k, zFr, 0⟩ := by
  have F := FP.fol_body hr (j := i) (by omega)
  have F' := FP.fol_body hr (j := i + 1) (by omega)
  have hf := fol_form F hb
  have he := F.err b hb
  have hst : rsOf ((bodyF f).take (i + 1)) = rsStep (rsOf ((bodyF f).take i)) b := by rw [take_snoc hb, FP.rsOf_snoc]
  rw [hst] at F'
  unfold mid
  rw [hst]
  obtain ⟨h1, h2, h3⟩ := midR_L c s (if s = true then ⟨(bitsF f).toArray⟩ else ⟨#[]⟩) i (rsOf ((bodyF f).take i)) (decide ((bodyF f).length ≤ i)) ((i - (bodyF f).length : Nat))
  unfold Cl.take
  rw [h1, h2, if_neg he, midR_tk]
  obtain ⟨h1', h2', h3'⟩ := midR_L c s (if s = true then ⟨(bitsF f).toArray⟩ else ⟨#[]⟩) i (rsStep (rsOf ((bodyF f).take i)) b) (decide ((bodyF f).length ≤ i)) ((i - (bodyF f).length : Nat))
  rw [h3', if_neg hf, midR_adv]
  have e0 : decide ((bodyF f).length ≤ i) = false := decide_eq_false (by omega)
  have e1 : (i - (bodyF f).length : Nat) = (i + 1 - (bodyF f).length : Nat) := by omega
  rw [e0, e1]
  have hd : doneB (rsStep (rsOf ((bodyF f).take i)) b).got (rsStep (rsOf ((bodyF f).take i)) b).n = decide ((bodyF f).length ≤ i + 1) := by
    by_cases hl : (bodyF f).length ≤ i + 1
    · rw [decide_eq_true hl]
      exact F'.done.2 (List.getElem?_eq_none hl)
    · rw [decide_eq_false hl]
      cases hd : doneB (rsStep (rsOf ((bodyF f).take i)) b).got (rsStep (rsOf ((bodyF f).take i)) b).n
      · rfl
      · have := F'.done.1 hd
        rw [List.getElem?_eq_none_iff] at this
        exact absurd this hl
  rw [midR_whole _ _ _ _ _ _ _ hd (fun e => by
    rw [F'.all (List.getElem?_eq_none (of_decide_eq_true e))]
    exact FP.good_sum hr)]
theorem mid_samp {c : Cl} {s : Bool} {f : Fr} {i : Nat} (b : UInt8) : (mid c s f i).samp b = (mid c s f i).frame b := by
  unfold Cl.samp
  rw [if_neg (by show ¬ (2 : Int) = 0; decide), if_neg (by show ¬ (2 : Int) = 1; decide), if_pos (by rfl)]
theorem mid_body {c : Cl} {s : Bool} {f : Fr} {i : Nat} (hi : i < (bodyF f).length) (b : UInt8) : (mid c s f i).samp b = (mid c s f i).body b := by
  rw [mid_samp]
  unfold Cl.frame
  rw [if_neg]
  show ¬ decide ((bodyF f).length ≤ i) = true
  rw [decide_eq_true_eq]
  omega
theorem mid_behind {c : Cl} {s : Bool} {f : Fr} {i : Nat} (hi : (bodyF f).length ≤ i) (b : UInt8) : (mid c s f i).samp b = (mid c s f i).behind b := by
  rw [mid_samp]
  unfold Cl.frame
  rw [if_pos]
  show decide ((bodyF f).length ≤ i) = true
  exact decide_eq_true hi
theorem mid_step {c : Cl} {s : Bool} {f : Fr} (hr : FP.rightB f = true) {i : Nat} (hi : i < (bodyF f).length) {b : UInt8} (hb : (bodyF f)[i]? = some b) : (mid c s f i).samp b = ev0 (mid c s f (i + 1)) := by
  rw [mid_body hi]
  unfold Cl.body
  rw [if_neg, mid_take hr hi hb]
  · rfl
  · rintro ⟨h1, h2⟩
    have hs : s = true := h1
    subst hs
    rw [mid_out, FP.body_get f i hi] at h2
    exact h2 hb

theorem mid_tail {c : Cl} {s : Bool} {f : Fr} {i : Nat} : (mid c s f i).tail = (i - (bodyF f).length : Nat) := rfl
theorem mid_rs {f : Fr} {i : Nat} (hi : (bodyF f).length ≤ i) : rsOf ((bodyF f).take (i + 1)) = rsOf ((bodyF f).take i) := by
  rw [List.take_of_length_le hi, List.take_of_length_le (by omega)]
theorem mid_on {c : Cl} {s : Bool} {f : Fr} {i : Nat} (hi : (bodyF f).length ≤ i) : (mid c s f i).on = mid c s f (i + 1) := by
  unfold mid
  rw [mid_rs hi, decide_eq_true hi, decide_eq_true (show (bodyF f).length ≤ i + 1 by omega)]
  unfold Cl.on midR
  dsimp only
  have e : ((i - (bodyF f).length : Nat) : Int) + 1 = ((i + 1 - (bodyF f).length : Nat) : Int) := by omega
  rw [e]
  cases s <;> rfl
theorem mid_good {c : Cl} {s : Bool} {f : Fr} {i : Nat} (hi : (bodyF f).length ≤ i) : (mid c s f i).good = true := decide_eq_true hi
/-- A bit behind the stuffed ones, as it should be. -/
theorem mid_next {c : Cl} {s : Bool} {f : Fr} {i : Nat} (hi : (bodyF f).length ≤ i) (h9 : i < (bodyF f).length + 9) (h8 : s = false → i ≠ (bodyF f).length + 8) {b : UInt8} (hb : if i = (bodyF f).length + 1 then (s = true → b = 48) else b ≠ 48) : (mid c s f i).samp b = ev0 (mid c s f (i + 1)) := by
  rw [mid_behind hi]
  unfold Cl.behind
  have ht : (mid c s f i).tail = ((i - (bodyF f).length : Nat) : Int) := rfl
  rw [if_neg, if_neg, if_neg, if_neg, if_neg, mid_on hi]
  · rintro ⟨h1, h2⟩
    rw [ht] at h1
    exact h8 h2 (by omega)
  · rw [ht]; omega
  · rintro ⟨_, _, h3⟩
    rw [mid_good hi] at h3
    cases h3
  · rintro ⟨h1, h2, _⟩
    rw [ht] at h1
    rw [if_neg (by omega)] at hb
    exact hb h2
  · rintro ⟨h1, h2, h3⟩
    rw [ht] at h1
    rw [if_pos (by omega)] at hb
    exact h3 (hb h2)
theorem mid_count (c : Cl) (s : Bool) (f : Fr) (i : Nat) (what : Int) : (mid c s f i).count what = mid (c.count what) s f i := by
  unfold Cl.count mid midR
  dsimp only
  split <;> rfl
/-- The last bit but one, of another one's frame. -/
theorem mid_came {c : Cl} {f : Fr} (hr : FP.rightB f = true) {i : Nat} (hi : i = (bodyF f).length + 8) {b : UInt8} (hb : b ≠ 48) : (mid c false f i).samp b = ⟨mid (c.count 2) false f (i + 1), 2, f, 0⟩ := by
  rw [mid_behind (by omega)]
  unfold Cl.behind
  have ht : (mid c false f i).tail = ((i - (bodyF f).length : Nat) : Int) := rfl
  rw [if_neg, if_neg, if_neg, if_neg, if_pos, mid_count, mid_on (by omega)]
  · congr 1
    have F := FP.fol_body hr (j := (bodyF f).length) (Nat.le_refl _)
    have h1 := F.all (List.getElem?_eq_none (Nat.le_refl _))
    show readV (headOf (rsOf ((bodyF f).take i)).got) = f
    rw [List.take_of_length_le (by omega)]
    rw [List.take_of_length_le (Nat.le_refl _)] at h1
    rw [h1, FP.headOf_sum, (FP.read_yes (FP.read_head hr)).1, FP.raw_head hr]
  · exact ⟨by rw [ht]; omega, rfl⟩
  · rw [ht]; omega
  · rintro ⟨_, _, h3⟩
    rw [mid_good (by omega)] at h3
    cases h3
  · rintro ⟨_, h2, _⟩
    exact hb h2
  · rintro ⟨h1, _⟩
    rw [ht] at h1
    omega
theorem mid_endR {c : Cl} {f : Fr} {i : Nat} (hi : i = (bodyF f).length + 9) {b : UInt8} (hb : b ≠ 48) : (mid c false f i).samp b = ev0 ((mid c false f i).to 6) := by
  rw [mid_behind (by omega)]
  unfold Cl.behind
  have ht : (mid c false f i).tail = ((i - (bodyF f).length : Nat) : Int) := rfl
  rw [if_neg, if_neg, if_neg, if_pos]
  · unfold Cl.ends
    rw [if_neg hb, if_neg (by show ¬ false = true; decide)]
    rfl
  · rw [ht]; omega
  · rintro ⟨h1, _⟩
    rw [ht] at h1
    omega
  · rintro ⟨_, h2, _⟩
    exact hb h2
  · rintro ⟨h1, _⟩
    rw [ht] at h1
    omega
theorem mid_endS {c : Cl} {f : Fr} {i : Nat} (hi : i = (bodyF f).length + 9) {b : UInt8} (hb : b ≠ 48) : (mid c true f i).samp b = ⟨(mid c true f i).sent, 1, c.f, 0⟩ := by
  rw [mid_behind (by omega)]
  unfold Cl.behind
  have ht : (mid c true f i).tail = ((i - (bodyF f).length : Nat) : Int) := rfl
  rw [if_neg, if_neg, if_neg, if_pos]
  · unfold Cl.ends
    rw [if_neg hb, if_pos (by rfl)]
    rfl
  · rw [ht]; omega
  · rintro ⟨h1, _⟩
    rw [ht] at h1
    omega
  · rintro ⟨_, h2, _⟩
    exact hb h2
  · rintro ⟨h1, _⟩
    rw [ht] at h1
    omega
theorem mid_ack {c : Cl} {f : Fr} {i : Nat} (hi : i = (bodyF f).length + 1) {b : UInt8} (hb : b ≠ 48) : (mid c true f i).samp b = ⟨(mid c true f i).fail 14, 3, zFr, 14⟩ := by
  rw [mid_behind (by omega)]
  unfold Cl.behind
  have ht : (mid c true f i).tail = ((i - (bodyF f).length : Nat) : Int) := rfl
  rw [if_pos]
  exact ⟨by rw [ht]; omega, rfl, hb⟩
theorem mid_form {c : Cl} {f : Fr} {i : Nat} (hi : (bodyF f).length ≤ i) (h1 : i ≠ (bodyF f).length + 1) : (mid c true f i).samp 48 = ⟨(mid c true f i).fail 12, 3, zFr, 12⟩ := by
  rw [mid_behind hi]
  unfold Cl.behind
  have ht : (mid c true f i).tail = ((i - (bodyF f).length : Nat) : Int) := rfl
  rw [if_neg, if_pos]
  · exact ⟨by rw [ht]; omega, rfl, .inr rfl⟩
  · rintro ⟨h, _⟩
    rw [ht] at h
    omega
/-- What it drives. -/
theorem mid_drvS {c : Cl} {f : Fr} {i : Nat} {b : UInt8} (hb : (bitsF f)[i]? = some b) : (mid c true f i).drv = b := by
  unfold Cl.drv
  rw [if_neg (by show ¬ (2 : Int) = 1; decide), if_pos (by rfl), if_pos (by rfl), mid_out, hb]
  rfl
theorem mid_drvR {c : Cl} {f : Fr} {i : Nat} : (mid c false f i).drv = if i = (bodyF f).length + 1 then 48 else 49 := by
  unfold Cl.drv
  rw [if_neg (by show ¬ (2 : Int) = 1; decide), if_pos (by rfl), if_neg (by show ¬ false = true; decide)]
  by_cases h : i = (bodyF f).length + 1
  · rw [if_pos h, if_pos]
    refine ⟨decide_eq_true (by omega), ?_, decide_eq_true (by omega)⟩
    show ((i - (bodyF f).length : Nat) : Int) = 1
    omega
  · rw [if_neg h, if_neg]
    rintro ⟨h1, h2, _⟩
    have h2' : ((i - (bodyF f).length : Nat) : Int) = 1 := h2
    omega
end Go.Proofs.YtpfbobcilphncaaDoor
