/- Plain: a controller that sends a frame, or that one comes to, bit by bit. -/
import Derived.Test.YthkilodnghiocaaGreatDoorCsQ
import Derived.Test.YthkilodnghiocaaGreatDoorRdQ
namespace Go.Proofs.YthkilodnghiocaaGreatDoor
open Go.ChangeShapes Go.WideShapes Go.ChangeAt Go.RowKit
open FP (Fr uN uK doneB sizeE sizeV readV headOf bitsF bodyF headF sumF RS rsStep rs0 rsOf goodB badB)

def midR (c : Cl) (s : Bool) (out : ByteArray) (i : Nat) (r : RS) (e : Bool) (t : Int) : Cl :=
  { c with st := 2, n := 0, was := s, sends := s, out := out, at_ := if s = true then i else 0, last := r.last.toNat, sn := (r.n : Nat), got := ⟨r.got.toArray⟩, en := e, tail := t, good := e }
/-- In a frame, behind i of its bits: one's own, or not. -/
def mid (c : Cl) (s : Bool) (f : Fr) (i : Nat) : Cl :=
  midR c s (if s = true then ⟨(bitsF f).toArray⟩ else ⟨#[]⟩) i (rsOf ((bodyF f).take i)) (decide ((bodyF f).length ≤ i)) ((i - (bodyF f).length : Nat))

theorem midR_L (c : Cl) (s : Bool) (out : ByteArray) (i : Nat) (r : RS) (e : Bool) (t : Int) : (midR c s out i r e t).L = r.last ∧ (midR c s out i r e t).N = r.n ∧ (midR c s out i r e t).g = r.got :=
  ⟨u8_back r.last, Int.toNat_natCast _, rfl⟩
theorem ba_snoc (l : List UInt8) (b : UInt8) : (⟨l.toArray⟩ : ByteArray) ++ ⟨#[b]⟩ = ⟨(l ++ [b]).toArray⟩ := by rw [ByteArray.ext_iff]; simp
theorem midR_tk (c : Cl) (s : Bool) (out : ByteArray) (i : Nat) (r : RS) (e : Bool) (t : Int) (b : UInt8) : (midR c s out i r e t).tk b = midR c s out i (rsStep r b) e t := by
  obtain ⟨h1, h2, h3⟩ := midR_L c s out i r e t
  unfold Cl.tk
  rw [h1, h2]
  unfold midR rsStep
  dsimp only
  congr 1
  split
  · exact ba_snoc _ _
  · rfl
theorem midR_adv (c : Cl) (s : Bool) (out : ByteArray) (i : Nat) (r : RS) (e : Bool) (t : Int) : (midR c s out i r e t).adv = midR c s out (i + 1) r e t := by
  unfold Cl.adv
  cases s
  · rw [if_neg (by show ¬ (false = true); decide)]; rfl
  · rw [if_pos (by rfl)]
    unfold midR
    dsimp only
    congr 1
theorem midR_whole (c : Cl) (s : Bool) (out : ByteArray) (i : Nat) (r : RS) (t : Int) (e : Bool) (he : doneB r.got r.n = e) (hg : e = true → goodB r.got = true) : (midR c s out i r false t).whole = midR c s out i r e t := by
  obtain ⟨h1, h2, h3⟩ := midR_L c s out i r false t
  rw [whole_eq rfl rfl, h2, h3, he]
  unfold midR
  dsimp only
  cases e
  · rfl
  · rw [hg rfl]; rfl

theorem mid_begin1 (c : Cl) : c.begin1 = mid c true c.f 1 := by
  unfold mid
  rw [rs_one]
  obtain ⟨m, h⟩ := FP.body_first c.f
  have h1 : decide ((bodyF c.f).length ≤ 1) = false ∨ FP.rightB c.f = false := by
    cases hr : FP.rightB c.f
    · exact .inr rfl
    · left; have := FP.body_ge hr; exact decide_eq_false (by omega)
  unfold Cl.begin1 midR Cl.to
  dsimp only
  have h2 : decide ((bodyF c.f).length ≤ 1) = false := by
    have h3 := FP.stuff_len (sumF (headF c.f)) (FP.sum_bits (FP.head_bits c.f))
    have h4 : (bodyF c.f).length ≥ (sumF (headF c.f)).length := h3.1
    rw [FP.sum_length] at h4
    exact decide_eq_false (by omega)
  rw [h2, if_pos rfl]
  have h5 : (1 - (bodyF c.f).length : Nat) = 0 := by
    have := of_decide_eq_false h2; omega
  rw [h5]
  rfl
theorem mid_begin0 (c : Cl) (f : Fr) : c.begin0 = mid c false f 1 := by
  unfold mid
  rw [rs_one]
  have h2 : decide ((bodyF f).length ≤ 1) = false := by
    have h3 := FP.stuff_len (sumF (headF f)) (FP.sum_bits (FP.head_bits f))
    have h4 : (bodyF f).length ≥ (sumF (headF f)).length := h3.1
    rw [FP.sum_length] at h4
    exact decide_eq_false (by omega)
  have h5 : (1 - (bodyF f).length : Nat) = 0 := by
    have := of_decide_eq_false h2; omega
  unfold Cl.begin0 midR Cl.to
  dsimp only
  rw [h2, h5]
  rfl

theorem mid_out {c : Cl} {f : Fr} {i : Nat} : (mid c true f i).outAt = (bitsF f)[i]? := by
  unfold Cl.outAt mid midR
  dsimp only
  rw [if_pos rfl, if_pos rfl, Int.toNat_natCast]
theorem fol_form {f : Fr} {i : Nat} {b : UInt8} (F : FP.Fol (sumF (headF f)) (rsOf ((bodyF f).take i)) (bodyF f)[i]?) (hb : (bodyF f)[i]? = some b) : ¬ (uK (rsOf ((bodyF f).take i)).last (rsOf ((bodyF f).take i)).n b = 1 ∧ sizeE (rsStep (rsOf ((bodyF f).take i)) b).got = 12) := by
  rintro ⟨h1, h2⟩
  have h3 := F.form b hb h1
  have h4 : (rsStep (rsOf ((bodyF f).take i)) b).got = (rsOf ((bodyF f).take i)).got ++ [b] := by unfold rsStep; rw [if_pos h1]
  rw [h4] at h2
  unfold badB at h3
  rw [decide_eq_true h2] at h3
  cases h3
theorem take_snoc {l : List UInt8} {i : Nat} {b : UInt8} (h : l[i]? = some b) : l.take (i + 1) = l.take i ++ [b] := by rw [List.take_add_one, h]; rfl

/-- A stuffed bit of the frame itself. -/
theorem mid_take {c : Cl} {s : Bool} {f : Fr} (hr : FP.rightB f = true) {i : Nat} (hi : i < (bodyF f).length) {b : UInt8} (hb : (bodyF f)[i]? = some b) (k : Int) : (mid c s f i).take k b = ⟨mid c s f (i + 1), k, zFr, 0⟩ := by
  have F := FP.fol_body hr (j := i) (by omega)
  have F' := FP.fol_body hr (j := i + 1) (by omega)
  have hf := fol_form F hb
  have he := F.err b hb
  have hst : rsOf ((bodyF f).take (i + 1)) = rsStep (rsOf ((bodyF f).take i)) b := by rw [take_snoc hb, FP.rsOf_snoc]
  rw [hst] at F'
  unfold mid
  rw [hst]
  obtain ⟨h1, h2, h3⟩ := midR_L c s (if s = true then ⟨(bitsF f).toArray⟩ else ⟨#[]⟩) i (rsOf ((bodyF f).take i)) (decide ((bodyF f).length ≤ i)) ((i - (bodyF f).length : Nat))
  unfold Cl.take
  rw [h1, h2, if_neg he, midR_tk]
  obtain ⟨h1', h2', h3'⟩ := midR_L c s (if s = true then ⟨(bitsF f).toArray⟩ else ⟨#[]⟩) i (rsStep (rsOf ((bodyF f).take i)) b) (decide ((bodyF f).length ≤ i)) ((i - (bodyF f).length : Nat))
  rw [h3', if_neg hf, midR_adv]
  have e0 : decide ((bodyF f).length ≤ i) = false := decide_eq_false (by omega)
  have e1 : (i - (bodyF f).length : Nat) = (i + 1 - (bodyF f).length : Nat) := by omega
  rw [e0, e1]
  have hd : doneB (rsStep (rsOf ((bodyF f).take i)) b).got (rsStep (rsOf ((bodyF f).take i)) b).n = decide ((bodyF f).length ≤ i + 1) := by
    by_cases hl : (bodyF f).length ≤ i + 1
    · rw [decide_eq_true hl]
      exact F'.done.2 (List.getElem?_eq_none hl)
    · rw [decide_eq_false hl]
      cases hd : doneB (rsStep (rsOf ((bodyF f).take i)) b).got (rsStep (rsOf ((bodyF f).take i)) b).n
      · rfl
      · have := F'.done.1 hd
        rw [List.getElem?_eq_none_iff] at this
        exact absurd this hl
  rw [midR_whole _ _ _ _ _ _ _ hd (fun e => by
    rw [F'.all (List.getElem?_eq_none (of_decide_eq_true e))]
    exact FP.good_sum hr)]
theorem mid_samp {c : Cl} {s : Bool} {f : Fr} {i : Nat} (b : UInt8) : (mid c s f i).samp b = (mid c s f i).frame b := by
  unfold Cl.samp
  rw [if_neg (by show ¬ (2 : Int) = 0; decide), if_neg (by show ¬ (2 : Int) = 1; decide), if_pos (by rfl)]
theorem mid_body {c : Cl} {s : Bool} {f : Fr} {i : Nat} (hi : i < (bodyF f).length) (b : UInt8) : (mid c s f i).samp b = (mid c s f i).body b := by
  rw [mid_samp]
  unfold Cl.frame
  rw [if_neg]
  show ¬ decide ((bodyF f).length ≤ i) = true
  rw [decide_eq_true_eq]
  omega
theorem mid_behind {c : Cl} {s : Bool} {f : Fr} {i : Nat} (hi : (bodyF f).length ≤ i) (b : UInt8) : (mid c s f i).samp b = (mid c s f i).behind b := by
  rw [mid_samp]
  unfold Cl.frame
  rw [if_pos]
  show decide ((bodyF f).length ≤ i) = true
  exact decide_eq_true hi
theorem mid_step {c : Cl} {s : Bool} {f : Fr} (hr : FP.rightB f = true) {i : Nat} (hi : i < (bodyF f).length) {b : UInt8} (hb : (bodyF f)[i]? = some b) : (mid c s f i).samp b = ev0 (mid c s f (i + 1)) := by
  rw [mid_body hi]
  unfold Cl.body
  rw [if_neg, mid_take hr hi hb]
  · rfl
  · rintro ⟨h1, h2⟩
    have hs : s = true := h1
    subst hs
    rw [mid_out, FP.body_get f i hi] at h2
    exact h2 hb

theorem mid_tail {c : Cl} {s : Bool} {f : Fr} {i : Nat} : (mid c s f i).tail = (i - (bodyF f).length : Nat) := rfl
theorem mid_rs {f : Fr} {i : Nat} (hi : (bodyF f).length ≤ i) : rsOf ((bodyF f).take (i + 1)) = rsOf ((bodyF f).take i) := by
  rw [List.take_of_length_le hi, List.take_of_length_le (by omega)]
theorem mid_on {c : Cl} {s : Bool} {f : Fr} {i : Nat} (hi : (bodyF f).length ≤ i) : (mid c s f i).on = mid c s f (i + 1) := by
  unfold mid
  rw [mid_rs hi, decide_eq_true hi, decide_eq_true (show (bodyF f).length ≤ i + 1 by omega)]
  unfold Cl.on midR
  dsimp only
  have e : ((i - (bodyF f).length : Nat) : Int) + 1 = ((i + 1 - (bodyF f).length : Nat) : Int) := by omega
  rw [e]
  cases s <;> rfl
theorem mid_good {c : Cl} {s : Bool} {f : Fr} {i : Nat} (hi : (bodyF f).length ≤ i) : (mid c s f i).good = true := decide_eq_true hi
/-- A bit behind the stuffed ones, as it should be. -/
theorem mid_next {c : Cl} {s : Bool} {f : Fr} {i : Nat} (hi : (bodyF f).length ≤ i) (h9 : i < (bodyF f).length + 9) (h8 : s = false → i ≠ (bodyF f).length + 8) {b : UInt8} (hb : if i = (bodyF f).length + 1 then (s = true → b = 48) else b ≠ 48) : (mid c s f i).samp b = ev0 (mid c s f (i + 1)) := by
  rw [mid_behind hi]
  unfold Cl.behind
  have ht : (mid c s f i).tail = ((i - (bodyF f).length : Nat) : Int) := rfl
  rw [if_neg, if_neg, if_neg, if_neg, if_neg, mid_on hi]
  · rintro ⟨h1, h2⟩
    rw [ht] at h1
    exact h8 h2 (by omega)
  · rw [ht]; omega
  · rintro ⟨_, _, h3⟩
    rw [mid_good hi] at h3
    cases h3
  · rintro ⟨h1, h2, _⟩
    rw [ht] at h1
    rw [if_neg (by omega)] at hb
    exact hb h2
  · rintro ⟨h1, h2, h3⟩
    rw [ht] at h1
    rw [if_pos (by omega)] at hb
    exact h3 (hb h2)
theorem mid_count (c : Cl) (s : Bool) (f : Fr) (i : Nat) (what : Int) : (mid c s f i).count what = mid (c.count what) s f i := by
  unfold Cl.count mid midR
  dsimp only
  split <;> rfl
/-- The last bit but one, of another one's frame. -/
theorem mid_came {c : Cl} {f : Fr} (hr : FP.rightB f = true) {i : Nat} (hi : i = (bodyF f).length + 8) {b : UInt8} (hb : b ≠ 48) : (mid c false f i).samp b = ⟨mid (c.count 2) false f (i + 1), 2, f, 0⟩ := by
  rw [mid_behind (by omega)]
  unfold Cl.behind
  have ht : (mid c false f i).tail = ((i - (bodyF f).length : Nat) : Int) := rfl
  rw [if_neg, if_neg, if_neg, if_neg, if_pos, mid_count, mid_on (by omega)]
  · congr 1
    have F := FP.fol_body hr (j := (bodyF f).length) (Nat.le_refl _)
    have h1 := F.all (List.getElem?_eq_none (Nat.le_refl _))
    show readV (headOf (rsOf ((bodyF f).take i)).got) = f
    rw [List.take_of_length_le (by omega)]
    rw [List.take_of_length_le (Nat.le_refl _)] at h1
    rw [h1, FP.headOf_sum, (FP.read_yes (FP.read_head hr)).1, FP.raw_head hr]
  · exact ⟨by rw [ht]; omega, rfl⟩
  · rw [ht]; omega
  · rintro ⟨_, _, h3⟩
    rw [mid_good (by omega)] at h3
    cases h3
  · rintro ⟨_, h2, _⟩
    exact hb h2
  · rintro ⟨h1, _⟩
    rw [ht] at h1
    omega
theorem mid_endR {c : Cl} {f : Fr} {i : Nat} (hi : i = (bodyF f).length + 9) {b : UInt8} (hb : b ≠ 48) : (mid c false f i).samp b = ev0 ((mid c false f i).to 6) := by
  rw [mid_behind (by omega)]
  unfold Cl.behind
  have ht : (mid c false f i).tail = ((i - (bodyF f).length : Nat) : Int) := rfl
  rw [if_neg, if_neg, if_neg, if_pos]
  · unfold Cl.ends
    rw [if_neg hb, if_neg (by show ¬ false = true; decide)]
    rfl
  · rw [ht]; omega
  · rintro ⟨h1, _⟩
    rw [ht] at h1
    omega
  · rintro ⟨_, h2, _⟩
    exact hb h2
  · rintro ⟨h1, _⟩
    rw [ht] at h1
    omega
theorem mid_endS {c : Cl} {f : Fr} {i : Nat} (hi : i = (bodyF f).length + 9) {b : UInt8} (hb : b ≠ 48) : (mid c true f i).samp b = ⟨(mid c true f i).sent, 1, c.f, 0⟩ := by
  rw [mid_behind (by omega)]
  unfold Cl.behind
  have ht : (mid c true f i).tail = ((i - (bodyF f).length : Nat) : Int) := rfl
  rw [if_neg, if_neg, if_neg, if_pos]
  · unfold Cl.ends
    rw [if_neg hb, if_pos (by rfl)]
    rfl
  · rw [ht]; omega
  · rintro ⟨h1, _⟩
    rw [ht] at h1
    omega
  · rintro ⟨_, h2, _⟩
    exact hb h2
  · rintro ⟨h1, _⟩
    rw [ht] at h1
    omega
theorem mid_ack {c : Cl} {f : Fr} {i : Nat} (hi : i = (bodyF f).length + 1) {b : UInt8} (hb : b ≠ 48) : (mid c true f i).samp b = ⟨(mid c true f i).fail 14, 3, zFr, 14⟩ := by
  rw [mid_behind (by omega)]
  unfold Cl.behind
  have ht : (mid c true f i).tail = ((i - (bodyF f).length : Nat) : Int) := rfl
  rw [if_pos]
  exact ⟨by rw [ht]; omega, rfl, hb⟩
theorem mid_form {c : Cl} {f : Fr} {i : Nat} (hi : (bodyF f).length ≤ i) (h1 : i ≠ (bodyF f).length + 1) : (mid c true f i).samp 48 = ⟨(mid c true f i).fail 12, 3, zFr, 12⟩ := by
  rw [mid_behind hi]
  unfold Cl.behind
  have ht : (mid c true f i).tail = ((i - (bodyF f).length : Nat) : Int) := rfl
  rw [if_neg, if_pos]
  · exact ⟨by rw [ht]; omega, rfl, .inr rfl⟩
  · rintro ⟨h, _⟩
    rw [ht] at h
    omega
/-- What it drives. -/
theorem mid_drvS {c : Cl} {f : Fr} {i : Nat} {b : UInt8} (hb : (bitsF f)[i]? = some b) : (mid c true f i).drv = b := by
  unfold Cl.drv
  rw [if_neg (by show ¬ (2 : Int) = 1; decide), if_pos (by rfl), if_pos (by rfl), mid_out, hb]
  rfl
theorem mid_drvR {c : Cl} {f : Fr} {i : Nat} : (mid c false f i).drv = if i = (bodyF f).length + 1 then 48 else 49 := by
  unfold Cl.drv
  rw [if_neg (by show ¬ (2 : Int) = 1; decide), if_pos (by rfl), if_neg (by show ¬ false = true; decide)]
  by_cases h : i = (bodyF f).length + 1
  · rw [if_pos h, if_pos]
    refine ⟨decide_eq_true (by omega), ?_, decide_eq_true (by omega)⟩
    show ((i - (bodyF f).length : Nat) : Int) = 1
    omega
  · rw [if_neg h, if_neg]
    rintro ⟨h1, h2, _⟩
    have h2' : ((i - (bodyF f).length : Nat) : Int) = 1 := h2
    omega
end Go.Proofs.YthkilodnghiocaaGreatDoor

/- Plain laws of frames and their bits: back and forth, broken off, turned. -/
namespace Go.Proofs.YthkilodnghiocaaGreatDoor.FP

/-- A row with a bit turned. -/
def turnF (l : List UInt8) (i : Nat) : List UInt8 := l.take i ++ (if l[i]? = some 48 then 49 else 48) :: l.drop (i + 1)
theorem turn_len {l : List UInt8} {i : Nat} (h : i < l.length) : (turnF l i).length = l.length := by
  unfold turnF; simp; omega
theorem turn_at {l : List UInt8} {i : Nat} (h : i < l.length) : (turnF l i)[i]? = some (if l[i]? = some 48 then 49 else 48) := by
  unfold turnF
  rw [List.getElem?_append_right (by rw [List.length_take]; omega), List.length_take, show i - min i l.length = 0 by omega]
  rfl
theorem turn_app {a : List UInt8} (r : List UInt8) (i : Nat) : turnF (a ++ r) (a.length + i) = a ++ turnF r i := by
  unfold turnF
  rw [List.take_append, List.getElem?_append_right (by omega), List.drop_append, List.take_of_length_le (by omega), show a.length + i - a.length = i by omega,
    List.drop_of_length_le (by omega), show a.length + i + 1 - a.length = i + 1 by omega]
  simp
theorem turn_bits {l : List UInt8} {i : Nat} (hl : ∀ c ∈ l, c = 48 ∨ c = 49) : ∀ c ∈ turnF l i, c = 48 ∨ c = 49 := by
  intro c hc
  unfold turnF at hc
  rw [List.mem_append, List.mem_cons] at hc
  rcases hc with hc | rfl | hc
  · exact hl c (List.mem_of_mem_take hc)
  · split <;> simp
  · exact hl c (List.mem_of_mem_drop hc)

theorem tail_shift (a r : List UInt8) : ∀ j, tailE (a ++ r) a.length j = tailE r 0 j
  | 0 => rfl
  | j + 1 => by
    unfold tailE
    rw [List.length_append, List.getElem?_append_right (by omega), show a.length + (9 - j) - a.length = 9 - j by omega, Nat.zero_add, tail_shift a r j]
    have : (a.length + r.length ≤ a.length + (9 - j)) = (r.length ≤ 9 - j) := by rw [eq_iff_iff]; omega
    simp only [this]

/-- The ten bits behind the stuffed ones; where it is told that the frame came, too. -/
def tenT (came : Bool) : List UInt8 := [49, if came then 48 else 49, 49, 49, 49, 49, 49, 49, 49, 49]
theorem tenT_ok (came : Bool) (b : List UInt8) : tailE (tenT came ++ b) 0 10 = 0 := by
  have h : ∀ i, i < 10 → (tenT came ++ b)[i]? = (tenT came)[i]? := fun i hi => List.getElem?_append_left (by simpa [tenT] using hi)
  have hl : (tenT came ++ b).length = 10 + b.length := by simp [tenT]; omega
  cases came <;> simp [tailE, h, hl, tenT] <;> omega
theorem tenF_T : tenF = tenT false := rfl
theorem ten_cut : ∀ i : Fin 10, tailE (tenF.take i.val) 0 10 = 3 := by decide
theorem ten_turned : ∀ i : Fin 8, tailE (turnF tenF (2 + i.val)) 0 10 = 12 := by decide

theorem bits_split (f : Fr) : bitsF f = stuffF (sumF (headF f)) ++ tenF := rfl
theorem bits_bits (f : Fr) : ∀ c ∈ bitsF f, c = 48 ∨ c = 49 := by
  intro c hc
  rw [bits_split, List.mem_append] at hc
  rcases hc with hc | hc
  · exact (stuff_inv _ (sum_bits (head_bits f))).all c hc
  · revert hc; unfold tenF; intro hc; simp at hc; exact .inr hc

/-- A frame's bits, told to have come or not, whatever stands behind them. -/
theorem parse_back {f : Fr} (hr : rightB f = true) (came : Bool) (b : List UInt8) : parseF (stuffF (sumF (headF f)) ++ (tenT came ++ b)) = ⟨0, f, (bitsF f).length⟩ := by
  rw [parse_stuffed hr, tail_shift, tenT_ok, if_neg (by simp)]
  rw [bits_split, List.length_append]
  rfl
theorem parse_short {f : Fr} (hr : rightB f = true) {cut : Nat} (hc : cut < (bitsF f).length) : parseF ((bitsF f).take cut) = ⟨3, fr0, 0⟩ := by
  rw [bits_split] at hc ⊢
  by_cases h : cut < (stuffF (sumF (headF f))).length
  · rw [List.take_append_of_le_length (by omega)]
    exact parse_cut hr cut h
  · rw [List.length_append] at hc
    have h10 : tenF.length = 10 := rfl
    rw [List.take_append, List.take_of_length_le (by omega), parse_stuffed hr, tail_shift]
    have := ten_cut ⟨cut - (stuffF (sumF (headF f))).length, by omega⟩
    simp only at this
    rw [this]
    simp
theorem parse_form {f : Fr} (hr : rightB f = true) {k : Nat} (hk : k < 8) : parseF (turnF (bitsF f) ((bitsF f).length - 8 + k)) = ⟨12, fr0, 0⟩ := by
  have e : (bitsF f).length - 8 + k = (stuffF (sumF (headF f))).length + (2 + k) := by
    rw [bits_split, List.length_append]
    have h10 : tenF.length = 10 := rfl
    omega
  rw [e, bits_split, turn_app, parse_stuffed hr, tail_shift]
  have := ten_turned ⟨k, hk⟩
  simp only at this
  rw [this]
  simp
theorem parse_turned {f : Fr} (hr : rightB f = true) {i : Nat} (hi : i < (bitsF f).length - 10) (he : (parseF (turnF (bitsF f) i)).e = 0) : (parseF (turnF (bitsF f) i)).f ≠ f := by
  intro hf
  have hb := turn_bits (i := i) (bits_bits f)
  obtain ⟨n, hn⟩ := parse_ok hb he
  rw [hf] at hn
  have hlen : (bitsF f).length = (stuffF (sumF (headF f))).length + 10 := (bits_len hr).2.2
  have h1 : (turnF (bitsF f) i)[i]? = some (if (bitsF f)[i]? = some 48 then 49 else 48) := turn_at (by omega)
  have h2 : (bitsF f)[i]? = (stuffF (sumF (headF f)))[i]? := by rw [bits_split, List.getElem?_append_left (by omega)]
  rw [← hn] at h2
  have hin : i < n := by
    have := congrArg List.length hn
    rw [List.length_take] at this
    omega
  rw [List.getElem?_take_of_lt hin, h1] at h2
  rw [h2] at h1
  by_cases h48 : (if (bitsF f)[i]? = some 48 then (49 : UInt8) else 48) = 48
  · rw [h48] at h2
    rw [h2] at h48
    exact absurd h48 (by decide)
  · have h49 : (bitsF f)[i]? ≠ some 48 := by
      rw [h2]; intro e; exact h48 (Option.some.inj e)
    rw [if_neg h49] at h48
    exact h48 rfl
end Go.Proofs.YthkilodnghiocaaGreatDoor.FP

/- Plain: one's own frame, alone on a bus. -/
namespace Go.Proofs.YthkilodnghiocaaGreatDoor
open Go.ChangeShapes Go.WideShapes Go.ChangeAt Go.RowKit
open FP (Fr bitsF bodyF tenF)

theorem bits_tail (f : Fr) {i : Nat} (h1 : (bodyF f).length ≤ i) (h2 : i < (bitsF f).length) : (bitsF f)[i]? = some 49 := by
  have hl := FP.body_len f
  show (bodyF f ++ tenF)[i]? = _
  rw [List.getElem?_append_right h1]
  have : ∀ j : Fin 10, tenF[j.val]? = some 49 := by decide
  exact this ⟨i - (bodyF f).length, by omega⟩
theorem bits_some (f : Fr) {i : Nat} (h : i < (bitsF f).length) : ∃ b, (bitsF f)[i]? = some b ∧ (b = 48 ∨ b = 49) := by
  refine ⟨(bitsF f)[i], List.getElem?_eq_getElem h, FP.bits_bits f _ (List.getElem_mem h)⟩
theorem bits_zero (f : Fr) : (bitsF f)[0]? = some 48 := by
  obtain ⟨m, h⟩ := FP.body_first f
  show (bodyF f ++ tenF)[0]? = _
  rw [h]; rfl

/-- The sender behind i bits. -/
def sndS (g : Cl) (f : Fr) (i : Nat) : Cl := if i = 0 then g else if i ≤ (bodyF f).length + 9 then mid g true f i else (mid g true f ((bodyF f).length + 9)).sent
/-- The bit that the bus has: one is told that it came. -/
def busB (f : Fr) (i : Nat) (b : UInt8) : UInt8 := if i = (bodyF f).length + 1 then 48 else b

theorem snd_step {g : Cl} {f : Fr} (hr : FP.rightB f = true) (h1 : g.st = 1) (hh : g.has = true) (hf : g.f = f) {i : Nat} (hi : i < (bitsF f).length) {b : UInt8} (hb : (bitsF f)[i]? = some b) :
    (sndS g f i).drv = b ∧ (sndS g f i).samp (busB f i b) = ⟨sndS g f (i + 1), if i + 1 = (bitsF f).length then 1 else 0, if i + 1 = (bitsF f).length then f else zFr, 0⟩ := by
  have hl := FP.body_len f
  have hge := FP.body_ge hr
  by_cases h0 : i = 0
  · subst h0
    have hb0 : b = 48 := by rw [bits_zero] at hb; exact (Option.some.inj hb).symm
    subst hb0
    have e0 : sndS g f 0 = g := if_pos rfl
    have e1 : sndS g f 1 = mid g true f 1 := by unfold sndS; rw [if_neg (by decide), if_pos (by omega)]
    have eb : busB f 0 48 = 48 := by unfold busB; split <;> rfl
    rw [e0, eb]
    refine ⟨by unfold Cl.drv; rw [if_pos h1, if_pos hh], ?_⟩
    rw [if_neg (by omega), if_neg (by omega)]
    show _ = (⟨sndS g f 1, 0, zFr, 0⟩ : Mc)
    unfold Cl.samp
    rw [if_neg (by omega), if_pos h1, if_pos rfl, if_pos hh, e1, mid_begin1, hf]
    rfl
  · by_cases h9 : i = (bodyF f).length + 9
    · have hb1 : b = 49 := by rw [bits_tail f (by omega) hi] at hb; exact (Option.some.inj hb).symm
      have eb : busB f i b = 49 := by unfold busB; rw [if_neg (by omega)]; exact hb1
      have e0 : sndS g f i = mid g true f i := by unfold sndS; rw [if_neg h0, if_pos (by omega)]
      have e1 : sndS g f (i + 1) = (mid g true f i).sent := by unfold sndS; rw [if_neg (by omega), if_neg (by omega), h9]
      rw [e0, eb, e1, if_pos (by omega), if_pos (by omega)]
      exact ⟨mid_drvS hb, by rw [mid_endS h9 (by decide), hf]⟩
    · have e0 : sndS g f i = mid g true f i := by unfold sndS; rw [if_neg h0, if_pos (by omega)]
      have e1 : sndS g f (i + 1) = mid g true f (i + 1) := by unfold sndS; rw [if_neg (by omega), if_pos (by omega)]
      rw [e0, e1, if_neg (by omega), if_neg (by omega)]
      refine ⟨mid_drvS hb, ?_⟩
      by_cases hlt : i < (bodyF f).length
      · have eb : busB f i b = b := by unfold busB; rw [if_neg (by omega)]
        rw [eb]
        exact mid_step hr hlt (by rw [← FP.body_get f i hlt]; exact hb)
      · have hb1 : b = 49 := by rw [bits_tail f (by omega) hi] at hb; exact (Option.some.inj hb).symm
        refine mid_next (by omega) (by omega) (fun e => by cases e) ?_
        by_cases h1 : i = (bodyF f).length + 1
        · rw [if_pos h1]; intro _; unfold busB; rw [if_pos h1]
        · rw [if_neg h1]; unfold busB; rw [if_neg h1, hb1]; decide
theorem busB_bit {f : Fr} {i : Nat} {b : UInt8} (hb : b = 48 ∨ b = 49) : busB f i b = 48 ∨ busB f i b = 49 := by unfold busB; split; exact .inl rfl; exact hb
theorem snd_ok {g : Cl} {f : Fr} (hg : g.Ok) (hr : FP.rightB f = true) (h1 : g.st = 1) (hh : g.has = true) (hf : g.f = f) : ∀ i, i ≤ (bitsF f).length → (sndS g f i).Ok
  | 0, _ => by rw [show sndS g f 0 = g from if_pos rfl]; exact hg
  | i + 1, hi => by
    obtain ⟨b, hb, hbit⟩ := bits_some f (i := i) (by omega)
    have h := snd_step hr h1 hh hf (i := i) (by omega) hb
    have := (snd_ok hg hr h1 hh hf i (by omega)).samp (busB f i b) (busB_bit hbit)
    rw [h.2] at this
    exact this
/-- It is sent. -/
theorem snd_end {g : Cl} {f : Fr} (hg : g.Ok) (h1 : g.st = 1) (ht : g.tc = 0) (hrc : g.rc = 0) : (sndS g f (bitsF f).length).has = false ∧ (sndS g f (bitsF f).length).st = 6 ∧ (sndS g f (bitsF f).length).tc = 0 ∧ (sndS g f (bitsF f).length).rc = 0 ∧ (sndS g f (bitsF f).length).off = false ∧ (sndS g f (bitsF f).length).rs = 0 := by
  have hl := FP.body_len f
  have ho := hg.on (by omega)
  have hrs := (cnt_on hg.cnt ho).1
  have e : sndS g f (bitsF f).length = (mid g true f ((bodyF f).length + 9)).sent := by unfold sndS; rw [if_neg (by omega), if_neg (by omega)]
  rw [e]
  have e2 : ((mid g true f ((bodyF f).length + 9)).to 6).count 1 = { (mid g true f ((bodyF f).length + 9)).to 6 with tc := cntTc 1 g.tc, rc := cntRc 1 g.rc } := by
    refine count_low 1 ?_
    show cntTc 1 g.tc ≤ 255
    rw [ht]; decide
  unfold Cl.sent
  rw [e2]
  refine ⟨rfl, rfl, ?_, ?_, ho, hrs⟩
  · show cntTc 1 g.tc = 0
    rw [ht]; decide
  · show cntRc 1 g.rc = 0
    rw [hrc]; decide
end Go.Proofs.YthkilodnghiocaaGreatDoor
