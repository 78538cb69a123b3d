/- Plain mathematics of sums of rows: dividing on paper is the register's fold; nothing of the program. -/
import Derived.Test.YtmfgifinmeonjaaDoorFrPlain
namespace Go.Proofs.YtmfgifinmeonjaaDoor.FP

/-- A sum's step by a bit. -/
def crcStep (r : Nat) (c : UInt8) : Nat := (2 * r % 32768) ^^^ (if (r.testBit 14) ^^ (c == 49) then 17817 else 0)
def crcOf (l : List UInt8) : Nat := l.foldl crcStep 0

theorem crcStep_lt (r : Nat) (c : UInt8) : crcStep r c < 32768 := by
  unfold crcStep
  exact Nat.xor_lt_two_pow (n := 15) (by omega) (by split <;> omega)
theorem crcOf_snoc (l : List UInt8) (c : UInt8) : crcOf (l ++ [c]) = crcStep (crcOf l) c := by simp [crcOf]
theorem foldl_crc_lt : ∀ (l : List UInt8) (r : Nat), r < 32768 → l.foldl crcStep r < 32768
  | [], _, h => h
  | c :: l, r, _ => foldl_crc_lt l _ (crcStep_lt r c)
theorem crcOf_lt (l : List UInt8) : crcOf l < 32768 := foldl_crc_lt l 0 (by omega)

theorem crcStep_bit (r : Nat) (c : UInt8) (m : Nat) (hm : m < 15) : (crcStep r c).testBit m = ((decide (1 ≤ m) && r.testBit (m - 1)) ^^ (((r.testBit 14) ^^ (c == 49)) && (17817 : Nat).testBit m)) := by
  unfold crcStep
  rw [Nat.testBit_xor]
  congr 1
  · rw [show (32768 : Nat) = 2 ^ 15 from rfl, Nat.testBit_mod_two_pow, show 2 * r = 2 ^ 1 * r by omega, Nat.testBit_two_pow_mul]
    simp [hm]
  · cases ((r.testBit 14) ^^ (c == 49)) <;> simp

/-- The bit that stands at a place of a row with zeros behind it. -/
def bitAt (l : List UInt8) (j : Nat) : Bool := l[j]? == some 49
def pB (k : Nat) : Bool := (50585 : Nat).testBit (15 - k)
/-- What stands there behind i rounds of the division, and behind k steps of one. -/
def divB (l : List UInt8) : Nat → Nat → Bool
  | 0, j => bitAt l j
  | i + 1, j => divB l i j ^^ (divB l i i && (decide (i ≤ j) && (decide (j < i + 16) && pB (j - i))))
def divK (l : List UInt8) (i k j : Nat) : Bool := divB l i j ^^ (divB l i i && (decide (i ≤ j) && (decide (j < i + k) && pB (j - i))))
theorem divK_zero (l : List UInt8) (i j : Nat) : divK l i 0 j = divB l i j := by
  unfold divK
  by_cases h : i ≤ j
  · have : ¬ j < i := by omega
    simp [this]
  · simp [h]
theorem divK_full (l : List UInt8) (i j : Nat) : divK l i 16 j = divB l (i + 1) j := rfl
theorem divK_here (l : List UInt8) (i k : Nat) (h : divB l i i = true) : divK l i (k + 1) (i + k) = (divK l i k (i + k) ^^ pB k) := by
  unfold divK
  simp [h]
theorem divK_there (l : List UInt8) (i k j : Nat) (hj : j ≠ i + k) : divK l i (k + 1) j = divK l i k j := by
  unfold divK
  have : (decide (j < i + (k + 1))) = decide (j < i + k) := by
    apply decide_eq_decide.2; omega
  rw [this]
theorem divB_no (l : List UInt8) (i j : Nat) (h : divB l i i = false) : divB l (i + 1) j = divB l i j := by
  simp [divB, h]

theorem pB_low : ∀ d : Fin 15, pB (1 + d.val) = (17817 : Nat).testBit (14 - d.val) := by decide
theorem div_inv (l : List UInt8) : ∀ i, i ≤ l.length → ∀ j, i ≤ j → divB l i j = (bitAt l j ^^ (decide (j - i < 15) && (crcOf (l.take i)).testBit (14 - (j - i))))
  | 0, _, j, _ => by simp [divB, crcOf]
  | i + 1, hi, j, hj => by
    have IH := div_inv l i (by omega)
    have hlt : i < l.length := hi
    have h0 := IH i (Nat.le_refl _)
    have hc : bitAt l i = (l[i] == 49) := by
      unfold bitAt
      rw [List.getElem?_eq_getElem hlt]
      simp
    rw [show divB l (i + 1) j = (divB l i j ^^ (divB l i i && (decide (i ≤ j) && (decide (j < i + 16) && pB (j - i))))) from rfl]
    rw [IH j (by omega), h0, hc, List.take_succ_eq_append_getElem hlt, crcOf_snoc]
    have e0 : i - i = 0 := by omega
    rw [e0]
    obtain ⟨d, rfl⟩ : ∃ d, j = i + 1 + d := ⟨j - (i + 1), by omega⟩
    have e1 : i + 1 + d - i = 1 + d := by omega
    have e2 : i + 1 + d - (i + 1) = d := by omega
    have e3 : decide (i ≤ i + 1 + d) = true := by simp; omega
    rw [e1, e2, e3]
    by_cases hd : d < 15
    · have e4 : decide (i + 1 + d < i + 16) = true := by simp; omega
      have e5 : decide (d < 15) = true := by simp [hd]
      rw [e4, e5, crcStep_bit _ _ _ (by omega), pB_low ⟨d, hd⟩]
      simp only [Nat.sub_zero, Bool.true_and, show decide (0 < 15) = true from rfl]
      by_cases h14 : d < 14
      · have e6 : decide (1 + d < 15) = true := by simp; omega
        have e7 : decide (1 ≤ 14 - d) = true := by simp; omega
        have e8 : 14 - (1 + d) = 14 - d - 1 := by omega
        rw [e6, e7, e8]
        simp only [Bool.true_and]
        generalize bitAt l (i + 1 + d) = a
        generalize (crcOf (List.take i l)).testBit (14 - d - 1) = b
        generalize (crcOf (List.take i l)).testBit 14 = x
        generalize (l[i] == 49) = y
        generalize (17817 : Nat).testBit (14 - d) = z
        cases a <;> cases b <;> cases x <;> cases y <;> cases z <;> rfl
      · have e6 : decide (1 + d < 15) = false := by simp; omega
        have e7 : decide (1 ≤ 14 - d) = false := by simp; omega
        rw [e6, e7]
        simp only [Bool.false_and]
        generalize bitAt l (i + 1 + d) = a
        generalize (crcOf (List.take i l)).testBit 14 = x
        generalize (l[i] == 49) = y
        generalize (17817 : Nat).testBit (14 - d) = z
        cases a <;> cases x <;> cases y <;> cases z <;> rfl
    · have e4 : decide (i + 1 + d < i + 16) = false := by simp; omega
      have e5 : decide (d < 15) = false := by simp; omega
      have e6 : decide (1 + d < 15) = false := by simp; omega
      rw [e4, e5, e6]
      simp

theorem bitAt_out (l : List UInt8) (j : Nat) (h : l.length ≤ j) : bitAt l j = false := by
  unfold bitAt
  rw [List.getElem?_eq_none h]
  rfl
/-- What is left, from the highest bit on. -/
theorem div_left (l : List UInt8) (d : Nat) (hd : d < 15) : divB l l.length (l.length + d) = (crcOf l).testBit (14 - d) := by
  rw [div_inv l l.length (Nat.le_refl _) _ (by omega), bitAt_out l _ (by omega), List.take_of_length_le (Nat.le_refl _)]
  have : l.length + d - l.length = d := by omega
  rw [this]
  simp [hd]
theorem num_step (r d : Nat) (hd : d < 15) : r / 2 ^ (15 - (d + 1)) = 2 * (r / 2 ^ (15 - d)) + (r.testBit (14 - d)).toNat := by
  have e : 15 - d = 14 - d + 1 := by omega
  have e2 : 15 - (d + 1) = 14 - d := by omega
  rw [e2, e, Nat.pow_succ, ← Nat.div_div_eq_div_mul, Nat.testBit_eq_decide_div_mod_eq]
  rcases Nat.mod_two_eq_zero_or_one (r / 2 ^ (14 - d)) with h | h
  · rw [h]; simp; omega
  · rw [h]; simp; omega

theorem pB_bits : ∀ k : Fin 16, (bitsOf 50585 16)[k.val]? = some (if pB k.val then 49 else 48) := by decide
end Go.Proofs.YtmfgifinmeonjaaDoor.FP
