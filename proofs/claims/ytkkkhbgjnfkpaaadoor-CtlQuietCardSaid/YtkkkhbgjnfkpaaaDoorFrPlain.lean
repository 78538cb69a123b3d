/- Plain mathematics of bits and frames; nothing of the program. -/
namespace Go.Proofs.YtkkkhbgjnfkpaaaDoor.FP

/-- A bit as a letter. -/
def bit (n : Nat) : UInt8 := if n % 2 = 1 then 49 else 48
/-- n in w bits, the highest one first. -/
def bitsOf (n : Nat) : Nat → List UInt8
  | 0 => []
  | w + 1 => bit (n / 2 ^ w) :: bitsOf n w
def numOf (l : List UInt8) : Nat := l.foldl (fun n c => 2 * n + if c = 49 then 1 else 0) 0

theorem bitsOf_length (n w : Nat) : (bitsOf n w).length = w := by
  induction w with
  | zero => rfl
  | succ w ih => simp [bitsOf, ih]

theorem bitsOf_get (n w i : Nat) (h : i < w) : (bitsOf n w)[i]? = some (bit (n / 2 ^ (w - 1 - i))) := by
  induction w generalizing i with
  | zero => omega
  | succ w ih =>
    cases i with
    | zero => simp [bitsOf]
    | succ i =>
      simp only [bitsOf, List.getElem?_cons_succ]
      rw [ih i (by omega)]
      congr 4
      omega

theorem bitsOf_mem {n w : Nat} {c : UInt8} (h : c ∈ bitsOf n w) : c = 48 ∨ c = 49 := by
  induction w with
  | zero => simp [bitsOf] at h
  | succ w ih =>
    simp only [bitsOf, List.mem_cons] at h
    rcases h with rfl | h
    · unfold bit; split <;> simp
    · exact ih h

theorem numOf_snoc (l : List UInt8) (c : UInt8) : numOf (l ++ [c]) = 2 * numOf l + if c = 49 then 1 else 0 := by
  simp [numOf]

theorem foldl_num (l : List UInt8) : ∀ a : Nat, l.foldl (fun n c => 2 * n + if c = 49 then 1 else 0) a = a * 2 ^ l.length + numOf l := by
  induction l with
  | nil => intro a; simp [numOf]
  | cons c l ih =>
    intro a
    have e : numOf (c :: l) = (2 * 0 + if c = 49 then 1 else 0) * 2 ^ l.length + numOf l := by
      show List.foldl _ _ l = _
      rw [ih]
    rw [e, List.foldl_cons, ih, List.length_cons, Nat.pow_succ]
    generalize (if c = 49 then 1 else 0) = b
    generalize 2 ^ l.length = p
    rw [Nat.add_mul]
    simp only [Nat.mul_zero, Nat.zero_add]
    rw [Nat.mul_comm 2 a, Nat.mul_assoc, Nat.mul_comm 2 p]
    omega

theorem numOf_append (l r : List UInt8) : numOf (l ++ r) = numOf l * 2 ^ r.length + numOf r := by
  show List.foldl _ _ _ = _
  rw [List.foldl_append]
  exact foldl_num r _

theorem numOf_cons (c : UInt8) (l : List UInt8) : numOf (c :: l) = (if c = 49 then 1 else 0) * 2 ^ l.length + numOf l := by
  have := numOf_append [c] l
  simpa [numOf] using this

theorem bit_num (n : Nat) : (if bit n = 49 then 1 else 0) = n % 2 := by
  unfold bit
  split <;> simp <;> omega

theorem numOf_bitsOf (n w : Nat) : numOf (bitsOf n w) = n % 2 ^ w := by
  induction w with
  | zero => simp [bitsOf, numOf, Nat.mod_one]
  | succ w ih =>
    rw [bitsOf, numOf_cons, bit_num, ih, bitsOf_length, Nat.pow_succ, Nat.mod_mul, Nat.mul_comm]
    omega

theorem numOf_lt (l : List UInt8) : numOf l < 2 ^ l.length := by
  induction l with
  | nil => simp [numOf]
  | cons c l ih =>
    rw [numOf_cons, List.length_cons, Nat.pow_succ]
    split <;> omega

/-- The upper bits are those of the number without its lower ones. -/
theorem bitsOf_append (n a b : Nat) : bitsOf n (a + b) = bitsOf (n / 2 ^ b) a ++ bitsOf n b := by
  induction a with
  | zero => simp [bitsOf]
  | succ a ih =>
    rw [show a + 1 + b = (a + b) + 1 by omega, bitsOf, bitsOf, ih, List.cons_append, Nat.div_div_eq_div_mul, ← Nat.pow_add, Nat.add_comm b a]

theorem bitsOf_mod (n w : Nat) : bitsOf (n % 2 ^ w) w = bitsOf n w := by
  apply List.ext_getElem?
  intro i
  by_cases h : i < w
  · rw [bitsOf_get _ _ _ h, bitsOf_get _ _ _ h]
    congr 1
    unfold bit
    have e : n % 2 ^ w / 2 ^ (w - 1 - i) % 2 = n / 2 ^ (w - 1 - i) % 2 := by
      have : 2 ^ w = 2 ^ (w - 1 - i) * 2 ^ (i + 1) := by rw [← Nat.pow_add]; congr 1; omega
      rw [this, Nat.mod_mul_right_div_self, Nat.pow_succ', Nat.mod_mul_right_mod]
    rw [e]
  · rw [List.getElem?_eq_none (by rw [bitsOf_length]; omega), List.getElem?_eq_none (by rw [bitsOf_length]; omega)]

structure Fr where
  id : Nat
  ext : Bool
  rem : Bool
  dlc : Int
  data : ByteArray

def rightB (f : Fr) : Bool := decide (f.id < (if f.ext then 536870912 else 2048)) && decide (0 ≤ f.dlc) && decide (f.dlc ≤ 8) && decide ((f.data.size : Int) = if f.rem then 0 else f.dlc)

def bitB (b : Bool) : UInt8 := if b then 49 else 48
def idPart (f : Fr) : List UInt8 := if f.ext then bitsOf (f.id / 262144) 11 ++ ([49, 49] ++ bitsOf (f.id % 262144) 18) else bitsOf f.id 11
def dataPart (l : List UInt8) : List UInt8 := l.flatMap fun c => bitsOf c.toNat 8
def headF (f : Fr) : List UInt8 := 48 :: (idPart f ++ (bitB f.rem :: (48 :: 48 :: (bitsOf f.dlc.toNat 4 ++ dataPart f.data.data.toList))))

theorem dataPart_length (l : List UInt8) : (dataPart l).length = 8 * l.length := by
  induction l with
  | nil => rfl
  | cons c l ih =>
    simp only [dataPart, List.flatMap_cons, List.length_append, bitsOf_length, List.length_cons] at *
    rw [ih]; omega

theorem head_length (f : Fr) : (headF f).length = (if f.ext then 39 else 19) + 8 * f.data.size := by
  have e : f.data.data.toList.length = f.data.size := Array.length_toList
  unfold headF idPart
  by_cases h : f.ext = true
  · simp only [h, if_true, List.length_cons, List.length_append, bitsOf_length, dataPart_length, List.length_nil]
    rw [e]; omega
  · simp only [h, if_false, List.length_cons, List.length_append, bitsOf_length, dataPart_length, Bool.false_eq_true]
    rw [e]; omega
end Go.Proofs.YtkkkhbgjnfkpaaaDoor.FP
