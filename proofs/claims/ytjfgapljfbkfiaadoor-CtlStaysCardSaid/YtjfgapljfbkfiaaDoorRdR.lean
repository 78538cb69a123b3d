/- Plain laws of frames and their bits: back and forth, broken off, turned. -/
import Derived.Test.YtjfgapljfbkfiaaDoorRdQ
namespace Go.Proofs.YtjfgapljfbkfiaaDoor.FP

/-- A row with a bit turned. -/
def turnF (l : List UInt8) (i : Nat) : List UInt8 := l.take i ++ (if l[i]? = some 48 then 49 else 48) :: l.drop (i + 1)
theorem turn_len {l : List UInt8} {i : Nat} (h : i < l.length) : (turnF l i).length = l.length := by
  unfold turnF; simp; omega
theorem turn_at {l : List UInt8} {i : Nat} (h : i < l.length) : (turnF l i)[i]? = some (if l[i]? = some 48 then 49 else 48) := by
  unfold turnF
  rw [List.getElem?_append_right (by rw [List.length_take]; omega), List.length_take, show i - min i l.length = 0 by omega]
  rfl
theorem turn_app {a : List UInt8} (r : List UInt8) (i : Nat) : turnF (a ++ r) (a.length + i) = a ++ turnF r i := by
  unfold turnF
  rw [List.take_append, List.getElem?_append_right (by omega), List.drop_append, List.take_of_length_le (by omega), show a.length + i - a.length = i by omega,
    List.drop_of_length_le (by omega), show a.length + i + 1 - a.length = i + 1 by omega]
  simp
theorem turn_bits {l : List UInt8} {i : Nat} (hl : ∀ c ∈ l, c = 48 ∨ c = 49) : ∀ c ∈ turnF l i, c = 48 ∨ c = 49 := by
  intro c hc
  unfold turnF at hc
  rw [List.mem_append, List.mem_cons] at hc
  rcases hc with hc | rfl | hc
  · exact hl c (List.mem_of_mem_take hc)
  · split <;> simp
  · exact hl c (List.mem_of_mem_drop hc)

theorem tail_shift (a r : List UInt8) : ∀ j, tailE (a ++ r) a.length j = tailE r 0 j
  | 0 => rfl
  | j + 1 => by
    unfold tailE
    rw [List.length_append, List.getElem?_append_right (by omega), show a.length + (9 - j) - a.length = 9 - j by omega, Nat.zero_add, tail_shift a r j]
    have : (a.length + r.length ≤ a.length + (9 - j)) = (r.length ≤ 9 - j) := by rw [eq_iff_iff]; omega
    simp only [this]

/-- The ten bits behind the stuffed ones; where it is told that the frame came, too. -/
def tenT (came : Bool) : List UInt8 := [49, if came then 48 else 49, 49, 49, 49, 49, 49, 49, 49, 49]
theorem tenT_ok (came : Bool) (b : List UInt8) : tailE (tenT came ++ b) 0 10 = 0 := by
  have h : ∀ i, i < 10 → (tenT came ++ b)[i]? = (tenT came)[i]? := fun i hi => List.getElem?_append_left (by simpa [tenT] using hi)
  have hl : (tenT came ++ b).length = 10 + b.length := by simp [tenT]; omega
  cases came <;> simp [tailE, h, hl, tenT] <;> omega
theorem tenF_T : tenF = tenT false := rfl
theorem ten_cut : ∀ i : Fin 10, tailE (tenF.take i.val) 0 10 = 3 := by decide
theorem ten_turned : ∀ i : Fin 8, tailE (turnF tenF (2 + i.val)) 0 10 = 12 := by decide

theorem bits_split (f : Fr) : bitsF f = stuffF (sumF (headF f)) ++ tenF := rfl
theorem bits_bits (f : Fr) : ∀ c ∈ bitsF f, c = 48 ∨ c = 49 := by
  intro c hc
  rw [bits_split, List.mem_append] at hc
  rcases hc with hc | hc
  · exact (stuff_inv _ (sum_bits (head_bits f))).all c hc
  · revert hc; unfold tenF; intro hc; simp at hc; exact .inr hc

/-- A frame's bits, told to have come or not, whatever stands behind them. -/
theorem parse_back {f : Fr} (hr : rightB f = true) (came : Bool) (b : List UInt8) : parseF (stuffF (sumF (headF f)) ++ (tenT came ++ b)) = ⟨0, f, (bitsF f).length⟩ := by
  rw [parse_stuffed hr, tail_shift, tenT_ok, if_neg (by simp)]
  rw [bits_split, List.length_append]
  rfl
theorem parse_short {f : Fr} (hr : rightB f = true) {cut : Nat} (hc : cut < (bitsF f).length) : parseF ((bitsF f).take cut) = ⟨3, fr0, 0⟩ := by
  rw [bits_split] at hc ⊢
  by_cases h : cut < (stuffF (sumF (headF f))).length
  · rw [List.take_append_of_le_length (by omega)]
    exact parse_cut hr cut h
  · rw [List.length_append] at hc
    have h10 : tenF.length = 10 := rfl
    rw [List.take_append, List.take_of_length_le (by omega), parse_stuffed hr, tail_shift]
    have := ten_cut ⟨cut - (stuffF (sumF (headF f))).length, by omega⟩
    simp only at this
    rw [this]
    simp
theorem parse_form {f : Fr} (hr : rightB f = true) {k : Nat} (hk : k < 8) : parseF (turnF (bitsF f) ((bitsF f).length - 8 + k)) = ⟨12, fr0, 0⟩ := by
  have e : (bitsF f).length - 8 + k = (stuffF (sumF (headF f))).length + (2 + k) := by
    rw [bits_split, List.length_append]
    have h10 : tenF.length = 10 := rfl
    omega
  rw [e, bits_split, turn_app, parse_stuffed hr, tail_shift]
  have := ten_turned ⟨k, hk⟩
  simp only at this
  rw [this]
  simp
theorem parse_turned {f : Fr} (hr : rightB f = true) {i : Nat} (hi : i < (bitsF f).length - 10) (he : (parseF (turnF (bitsF f) i)).e = 0) : (parseF (turnF (bitsF f) i)).f ≠ f := by
  intro hf
  have hb := turn_bits (i := i) (bits_bits f)
  obtain ⟨n, hn⟩ := parse_ok hb he
  rw [hf] at hn
  have hlen : (bitsF f).length = (stuffF (sumF (headF f))).length + 10 := (bits_len hr).2.2
  have h1 : (turnF (bitsF f) i)[i]? = some (if (bitsF f)[i]? = some 48 then 49 else 48) := turn_at (by omega)
  have h2 : (bitsF f)[i]? = (stuffF (sumF (headF f)))[i]? := by rw [bits_split, List.getElem?_append_left (by omega)]
  rw [← hn] at h2
  have hin : i < n := by
    have := congrArg List.length hn
    rw [List.length_take] at this
    omega
  rw [List.getElem?_take_of_lt hin, h1] at h2
  rw [h2] at h1
  by_cases h48 : (if (bitsF f)[i]? = some 48 then (49 : UInt8) else 48) = 48
  · rw [h48] at h2
    rw [h2] at h48
    exact absurd h48 (by decide)
  · have h49 : (bitsF f)[i]? ≠ some 48 := by
      rw [h2]; intro e; exact h48 (Option.some.inj e)
    rw [if_neg h49] at h48
    exact h48 rfl
end Go.Proofs.YtjfgapljfbkfiaaDoor.FP
