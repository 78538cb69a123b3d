/- Plain laws of frames and their bits: back and forth, broken off, turned. -/
import Derived.Test.YtpfbobcilphncaaDoorRdQ
import Derived.Test.YtpfbobcilphncaaDoorCsR
namespace Go.Proofs.YtpfbobcilphncaaDoor.FP

/-- A row with a bit turned. -/
def turnF (l : List UInt8) (i : Nat) : List UInt8 := l.take i ++ (if l[i]? = some 48 then 49 else 48) :: l.drop (i + 1)
theorem turn_len {l : List UInt8} {i : Nat} (h : i < l.length) : (turnF l i).length = l.length := by
  unfold turnF; simp; omega
theorem turn_at {l : List UInt8} {i : Nat} (h : i < l.length) : (turnF l i)[i]? = some (if l[i]? = some 48 then 49 else 48) := by
  unfold turnF
  rw [List.getElem?_append_right (by rw [List.length_take]; omega), List.length_take, show i - min i l.length = 0 by omega]
  rfl
theorem turn_app {a : List UInt8} (r : List UInt8) (i : Nat) : turnF (a ++ r) (a.length + i) = a ++ turnF r i := by
  unfold turnF
  rw [List.take_append, List.getElem?_append_right (by omega), List.drop_append, List.take_of_length_le (by omega), show a.length + i - a.length = i by omega,
    List.drop_of_length_le (by omega), show a.length + i + 1 - a.length = i + 1 by omega]
  simp
theorem turn_bits {l : List UInt8} {i : Nat} (hl : ∀ c ∈ l, c = 48 ∨ c = 49) : ∀ c ∈ turnF l i, c = 48 ∨ c = 49 := by
  intro c hc
  unfold turnF at hc
  rw [List.mem_append, List.mem_cons] at hc
  rcases hc with hc | rfl | hc
  · exact hl c (List.mem_of_mem_take hc)
  · split <;> simp
  · exact hl c (List.mem_of_mem_drop hc)

theorem tail_shift (a r : List UInt8) : ∀ j, tailE (a ++ r) a.length j = tailE r 0 j
  | 0 => rfl
  | j + 1 => by
    unfold tailE
    rw [List.length_append, List.getElem?_append_right (by omega), show a.length + (9 - j) - a.length = 9 - j by omega, Nat.zero_add, tail_shift a r j]
    have : (a.length + r.length ≤ a.length + (9 - j)) = (r.length ≤ 9 - j) := by rw [eq_iff_iff]; omega
    simp only [this]

/-- The ten bits behind the stuffed ones; where it is told that the frame came, too. -/
def tenT (came : Bool) : List UInt8 := [49, if came then 48 else 49, 49, 49, 49, 49, 49, 49, 49, 49]
theorem tenT_ok (came : Bool) (b : List UInt8) : tailE (tenT came ++ b) 0 10 = 0 := by
  have h : ∀ i, i < 10 → (tenT came ++ b)[i]? = (tenT came)[i]? := fun i hi => List.getElem?_append_left (by simpa [tenT] using hi)
  have hl : (tenT came ++ b).length = 10 + b.length := by simp [tenT]; omega
  cases came <;> simp [tailE, h, hl, tenT] <;> omega
theorem tenF_T : tenF = tenT false := rfl
theorem ten_cut : ∀ i : Fin 10, tailE (tenF.take i.val) 0 10 = 3 := by decide
theorem ten_turned : ∀ i : Fin 8, tailE (turnF tenF (2 + i.val)) 0 10 = 12 := by decide

theorem bits_split (f : Fr) : bitsF f = stuffF (sumF (headF f)) ++ tenF := rfl
theorem bits_bits (f : Fr) : ∀ c ∈ bitsF f, c = 48 ∨ c = 49 := by
  intro c hc
  rw [bits_split, List.mem_append] at hc
  rcases hc with hc | hc
  · exact (stuff_inv _ (sum_bits (head_bits f))).all c hc
  · revert hc; unfold tenF; intro hc; simp at hc; exact .inr hc

/-- A frame's bits, told to have come or not, whatever stands behind them. -/
theorem parse_back {f : Fr} (hr : rightB f = true) (came : Bool) (b : List UInt8) : parseF (stuffF (sumF (headF f)) ++ (tenT came ++ b)) = ⟨0, f, (bitsF f).length⟩ := by
  rw [parse_stuffed hr, tail_shift, tenT_ok, if_neg (by simp)]
  rw [bits_split, List.length_append]
  rfl
theorem parse_short {f : Fr} (hr : rightB f = true) {cut : Nat} (hc : cut < (bitsF f).length) : parseF ((bitsF f).take cut) = ⟨3, fr0, 0⟩ := by
  rw [bits_split] at hc ⊢
  by_cases h : cut < (stuffF (sumF (headF f))).length
  · rw [List.take_append_of_le_length (by omega)]
    exact parse_cut hr cut h
  · rw [List.length_append] at hc
    have h10 : tenF.length = 10 := rfl
    rw [List.take_append, List.take_of_length_le (by omega), parse_stuffed hr, tail_shift]
    have := ten_cut ⟨cut - (stuffF (sumF (headF f))).length, by omega⟩
    simp only at this
    rw [this]
    simp
theorem parse_form {f : Fr} (hr : rightB f = true) {k : Nat} (hk : k < 8) : parseF (turnF (bitsF f) ((bitsF f).length - 8 + k)) = ⟨12, fr0, 0⟩ := by
  have e : (bitsF f).length - 8 + k = (stuffF (sumF (headF f))).length + (2 + k) := by
    rw [bits_split, List.length_append]
    have h10 : tenF.length = 10 := rfl
    omega
  rw [e, bits_split, turn_app, parse_stuffed hr, tail_shift]
  have := ten_turned ⟨k, hk⟩
  simp only at this
  rw [this]
  simp
theorem parse_turned {f : Fr} (hr : rightB f = true) {i : Nat} (hi : i < (bitsF f).length - 10) (he : (parseF (turnF (bitsF f) i)).e = 0) : (parseF (turnF (bitsF f) i)).f ≠ f := by
  intro hf
  have hb := turn_bits (i := i) (bits_bits f)
  obtain ⟨n, hn⟩ := parse_ok hb he
  rw [hf] at hn
  have hlen : (bitsF f).length = (stuffF (sumF (headF f))).length + 10 := (bits_len hr).2.2
  have h1 : (turnF (bitsF f) i)[i]? = some (if (bitsF f)[i]? = some 48 then 49 else 48) := turn_at (by omega)
  have h2 : (bitsF f)[i]? = (stuffF (sumF (headF f)))[i]? := by rw [bits_split, List.getElem?_append_left (by omega)]
  rw [← hn] at h2
  have hin : i < n := by
    have := congrArg List.length hn
    rw [List.length_take] at this
    omega
  rw [List.getElem?_take_of_lt hin, h1] at h2
  rw [h2] at h1
  by_cases h48 : (if (bitsF f)[i]? = some 48 then (49 : UInt8) else 48) = 48
  · rw [h48] at h2
    rw [h2] at h48
    exact absurd h48 (by decide)
  · have h49 : (bitsF f)[i]? ≠ some 48 := by
      rw [h2]; intro e; exact h48 (Option.some.inj e)
    rw [if_neg h49] at h48
    exact h48 rfl
end Go.Proofs.YtpfbobcilphncaaDoor.FP

/- Plain: one's own frame, alone on a bus. -/
namespace Go.Proofs.YtpfbobcilphncaaDoor
open Go.ChangeShapes Go.WideShapes Go.ChangeAt Go.RowKit
open FP (Fr bitsF bodyF tenF)

theorem bits_tail (f : Fr) {i : Nat} (h1 : (bodyF f).length ≤ i) (h2 : i < (bitsF f).length) : (bitsF f)[i]? = some 49 := by
  have hl := FP.body_len f
  show (bodyF f ++ tenF)[i]? = _
  rw [List.getElem?_append_right h1]
  have : ∀ j : Fin 10, tenF[j.val]? = some 49 := by decide
  exact this ⟨i - (bodyF f).length, by omega⟩
theorem bits_some (f : Fr) {i : Nat} (h : i < (bitsF f).length) : ∃ b, (bitsF f)[i]? = some b ∧ (b = 48 ∨ b = 49) := by
  refine ⟨(bitsF f)[i], List.getElem?_eq_getElem h, FP.bits_bits f _ (List.getElem_mem h)⟩
theorem bits_zero (f : Fr) : (bitsF f)[0]? = some 48 := by
  obtain ⟨m, h⟩ := FP.body_first f
  show (bodyF f ++ tenF)[0]? = _
  rw [h]; rfl

/-- The sender behind i bits. -/
def sndS (g : Cl) (f : Fr) (i : Nat) : Cl := if i = 0 then g else if i ≤ (bodyF f).length + 9 then mid g true f i else (mid g true f ((bodyF f).length + 9)).sent
/-- The bit that the bus has: one is told that it came. -/
def busB (f : Fr) (i : Nat) (b : UInt8) : UInt8 := if i = (bodyF f).length + 1 then 48 else b

theorem snd_step {g : Cl} {f : Fr} (hr : FP.rightB f = true) (h1 : g.st = 1) (hh : g.has = true) (hf : g.f = f) {i : Nat} (hi : i < (bitsF f).length) {b : UInt8} (hb : (bitsF f)[i]? = some b) :
    (sndS g f i).drv = b ∧ (sndS g f i).samp (busB f i b) = ⟨sndS g f (i + 1), if i + 1 = (bitsF f).length then 1 else 0, if i + 1 = (bitsF f).length then f else zFr, 0⟩ := by
  have hl := FP.body_len f
  have hge := FP.body_ge hr
  by_cases h0 : i = 0
  · subst h0
    have hb0 : b = 48 := by rw [bits_zero] at hb; exact (Option.some.inj hb).symm
    subst hb0
    have e0 : sndS g f 0 = g := if_pos rfl
    have e1 : sndS g f 1 = mid g true f 1 := by unfold sndS; rw [if_neg (by decide), if_pos (by omega)]
    have eb : busB f 0 48 = 48 := by unfold busB; split <;> rfl
    rw [e0, eb]
    refine ⟨by unfold Cl.drv; rw [if_pos h1, if_pos hh], ?_⟩
    rw [if_neg (by omega), if_neg (by omega)]
    show _ = (⟨sndS g f 1, 0, zFr, 0⟩ : Mc)
    unfold Cl.samp
    rw [if_neg (by omega), if_pos h1, if_pos rfl, if_pos hh, e1, mid_begin1, hf]
    rfl
  · by_cases h9 : i = (bodyF f).length + 9
    · have hb1 : b = 49 := by rw [bits_tail f (by omega) hi] at hb; exact (Option.some.inj hb).symm
      have eb : busB f i b = 49 := by unfold busB; rw [if_neg (by omega)]; exact hb1
      have e0 : sndS g f i = mid g true f i := by unfold sndS; rw [if_neg h0, if_pos (by omega)]
      have e1 : sndS g f (i + 1) = (mid g true f i).sent := by unfold sndS; rw [if_neg (by omega), if_neg (by omega), h9]
      rw [e0, eb, e1, if_pos (by omega), if_pos (by omega)]
      exact ⟨mid_drvS hb, by rw [mid_endS h9 (by decide), hf]⟩
    · have e0 : sndS g f i = mid g true f i := by unfold sndS; rw [if_neg h0, if_pos (by omega)]
      have e1 : sndS g f (i + 1) = mid g true f (i + 1) := by unfold sndS; rw [if_neg (by omega), if_pos (by omega)]
      rw [e0, e1, if_neg (by omega), if_neg (by omega)]
      refine ⟨mid_drvS hb, ?_⟩
      by_cases hlt : i < (bodyF f).length
      · have eb : busB f i b = b := by unfold busB; rw [if_neg (by omega)]
        rw [eb]
        exact mid_step hr hlt (by rw [← FP.body_get f i hlt]; exact hb)
      · have hb1 : b = 49 := by rw [bits_tail f (by omega) hi] at hb; exact (Option.some.inj hb).symm
        refine mid_next (by omega) (by omega) (fun e => by cases e) ?_
        by_cases h1 : i = (bodyF f).length + 1
        · rw [if_pos h1]; intro _; unfold busB; rw [if_pos h1]
        · rw [if_neg h1]; unfold busB; rw [if_neg h1, hb1]; decide
theorem busB_bit {f : Fr} {i : Nat} {b : UInt8} (hb : b = 48 ∨ b = 49) : busB f i b = 48 ∨ busB f i b = 49 := by unfold busB; split; exact .inl rfl; exact hb
theorem snd_ok {g : Cl} {f : Fr} (hg : g.Ok) (hr : FP.rightB f = true) (h1 : g.st = 1) (hh : g.has = true) (hf : g.f = f) : ∀ i, i ≤ (bitsF f).length → (sndS g f i).Ok
  | 0, _ => by rw [show sndS g f 0 = g from if_pos rfl]; exact hg
  | i + 1, hi => by
    obtain ⟨b, hb, hbit⟩ := bits_some f (i := i) (by omega)
    have h := snd_step hr h1 hh hf (i := i) (by omega) hb
    have := (snd_ok hg hr h1 hh hf i (by omega)).samp (busB f i b) (busB_bit hbit)
    rw [h.2] at this
    exact this
/-- It is sent. -/
theorem snd_end {g : Cl} {f : Fr} (hg : g.Ok) (h1 : g.st = 1) (ht : g.tc = 0) (hrc : g.rc = 0) : (sndS g f (bitsF f).length).has = false ∧ (sndS g f (bitsF f).length).st = 6 ∧ (sndS g f (bitsF f).length).tc = 0 ∧ (sndS g f (bitsF f).length).rc = 0 ∧ (sndS g f (bitsF f).length).off = false ∧ (sndS g f (bitsF f).length).rs = 0 := by
  have hl := FP.body_len f
  have ho := hg.on (by omega)
  have hrs := (cnt_on hg.cnt ho).1
  have e : sndS g f (bitsF f).length = (mid g true f ((bodyF f).length + 9)).sent := by unfold sndS; rw [if_neg (by omega), if_neg (by omega)]
  rw [e]
  have e2 : ((mid g true f ((bodyF f).length + 9)).to 6).count 1 = { (mid g true f ((bodyF f).length + 9)).to 6 with tc := cntTc 1 g.tc, rc := cntRc 1 g.rc } := by
    refine count_low 1 ?_
    show cntTc 1 g.tc ≤ 255
    rw [ht]; decide
  unfold Cl.sent
  rw [e2]
  refine ⟨rfl, rfl, ?_, ?_, ho, hrs⟩
  · show cntTc 1 g.tc = 0
    rw [ht]; decide
  · show cntRc 1 g.rc = 0
    rw [hrc]; decide
end Go.Proofs.YtpfbobcilphncaaDoor
