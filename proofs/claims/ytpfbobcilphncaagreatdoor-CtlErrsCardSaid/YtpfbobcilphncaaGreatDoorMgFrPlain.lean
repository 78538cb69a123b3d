/- Plain mathematics of bits and frames; nothing of the program. -/
namespace Go.Proofs.YtpfbobcilphncaaGreatDoor.FP

/-- A bit as a letter. -/
def bit (n : Nat) : UInt8 := if n % 2 = 1 then 49 else 48
/-- n in w bits, the highest one first. -/
def bitsOf (n : Nat) : Nat → List UInt8
  | 0 => []
  | w + 1 => bit (n / 2 ^ w) :: bitsOf n w
def numOf (l : List UInt8) : Nat := l.foldl (fun n c => 2 * n + if c = 49 then 1 else 0) 0

theorem bitsOf_length (n w : Nat) : (bitsOf n w).length = w := by
  induction w with
  | zero => rfl
  | succ w ih => simp [bitsOf, ih]

theorem bitsOf_get (n w i : Nat) (h : i < w) : (bitsOf n w)[i]? = some (bit (n / 2 ^ (w - 1 - i))) := by
  induction w generalizing i with
  | zero => omega
  | succ w ih =>
    cases i with
    | zero => simp [bitsOf]
    | succ i =>
      simp only [bitsOf, List.getElem?_cons_succ]
      rw [ih i (by omega)]
      congr 4
      omega

theorem bitsOf_mem {n w : Nat} {c : UInt8} (h : c ∈ bitsOf n w) : c = 48 ∨ c = 49 := by
  induction w with
  | zero => simp [bitsOf] at h
  | succ w ih =>
    simp only [bitsOf, List.mem_cons] at h
    rcases h with rfl | h
    · unfold bit; split <;> simp
    · exact ih h

theorem numOf_snoc (l : List UInt8) (c : UInt8) : numOf (l ++ [c]) = 2 * numOf l + if c = 49 then 1 else 0 := by
  simp [numOf]

theorem foldl_num (l : List UInt8) : ∀ a : Nat, l.foldl (fun n c => 2 * n + if c = 49 then 1 else 0) a = a * 2 ^ l.length + numOf l := by
  induction l with
  | nil => intro a; simp [numOf]
  | cons c l ih =>
    intro a
    have e : numOf (c :: l) = (2 * 0 + if c = 49 then 1 else 0) * 2 ^ l.length + numOf l := by
      show List.foldl _ _ l = _
      rw [ih]
    rw [e, List.foldl_cons, ih, List.length_cons, Nat.pow_succ]
    generalize (if c = 49 then 1 else 0) = b
    generalize 2 ^ l.length = p
    rw [Nat.add_mul]
    simp only [Nat.mul_zero, Nat.zero_add]
    rw [Nat.mul_comm 2 a, Nat.mul_assoc, Nat.mul_comm 2 p]
    omega

theorem numOf_append (l r : List UInt8) : numOf (l ++ r) = numOf l * 2 ^ r.length + numOf r := by
  show List.foldl _ _ _ = _
  rw [List.foldl_append]
  exact foldl_num r _

theorem numOf_cons (c : UInt8) (l : List UInt8) : numOf (c :: l) = (if c = 49 then 1 else 0) * 2 ^ l.length + numOf l := by
  have := numOf_append [c] l
  simpa [numOf] using this

theorem bit_num (n : Nat) : (if bit n = 49 then 1 else 0) = n % 2 := by
  unfold bit
  split <;> simp <;> omega

theorem numOf_bitsOf (n w : Nat) : numOf (bitsOf n w) = n % 2 ^ w := by
  induction w with
  | zero => simp [bitsOf, numOf, Nat.mod_one]
  | succ w ih =>
    rw [bitsOf, numOf_cons, bit_num, ih, bitsOf_length, Nat.pow_succ, Nat.mod_mul, Nat.mul_comm]
    omega

theorem numOf_lt (l : List UInt8) : numOf l < 2 ^ l.length := by
  induction l with
  | nil => simp [numOf]
  | cons c l ih =>
    rw [numOf_cons, List.length_cons, Nat.pow_succ]
    split <;> omega

/-- The upper bits are those of the number without its lower ones. -/
theorem bitsOf_append (n a b : Nat) : bitsOf n (a + b) = bitsOf (n / 2 ^ b) a ++ bitsOf n b := by
  induction a with
  | zero => simp [bitsOf]
  | succ a ih =>
    rw [show a + 1 + b = (a + b) + 1 by omega, bitsOf, bitsOf, ih, List.cons_append, Nat.div_div_eq_div_mul, ← Nat.pow_add, Nat.add_comm b a]

theorem bitsOf_mod (n w : Nat) : bitsOf (n % 2 ^ w) w = bitsOf n w := by
  apply List.ext_getElem?
  intro i
  by_cases h : i < w
  · rw [bitsOf_get _ _ _ h, bitsOf_get _ _ _ h]
    congr 1
    unfold bit
    have e : n % 2 ^ w / 2 ^ (w - 1 - i) % 2 = n / 2 ^ (w - 1 - i) % 2 := by
      have : 2 ^ w = 2 ^ (w - 1 - i) * 2 ^ (i + 1) := by rw [← Nat.pow_add]; congr 1; omega
      rw [this, Nat.mod_mul_right_div_self, Nat.pow_succ', Nat.mod_mul_right_mod]
    rw [e]
  · rw [List.getElem?_eq_none (by rw [bitsOf_length]; omega), List.getElem?_eq_none (by rw [bitsOf_length]; omega)]

structure Fr where
  id : Nat
  ext : Bool
  rem : Bool
  dlc : Int
  data : ByteArray

def rightB (f : Fr) : Bool := decide (f.id < (if f.ext then 536870912 else 2048)) && decide (0 ≤ f.dlc) && decide (f.dlc ≤ 8) && decide ((f.data.size : Int) = if f.rem then 0 else f.dlc)

def bitB (b : Bool) : UInt8 := if b then 49 else 48
def idPart (f : Fr) : List UInt8 := if f.ext then bitsOf (f.id / 262144) 11 ++ ([49, 49] ++ bitsOf (f.id % 262144) 18) else bitsOf f.id 11
def dataPart (l : List UInt8) : List UInt8 := l.flatMap fun c => bitsOf c.toNat 8
def headF (f : Fr) : List UInt8 := 48 :: (idPart f ++ (bitB f.rem :: (48 :: 48 :: (bitsOf f.dlc.toNat 4 ++ dataPart f.data.data.toList))))

theorem dataPart_length (l : List UInt8) : (dataPart l).length = 8 * l.length := by
  induction l with
  | nil => rfl
  | cons c l ih =>
    simp only [dataPart, List.flatMap_cons, List.length_append, bitsOf_length, List.length_cons] at *
    rw [ih]; omega

theorem head_length (f : Fr) : (headF f).length = (if f.ext then 39 else 19) + 8 * f.data.size := by
  have e : f.data.data.toList.length = f.data.size := Array.length_toList
  unfold headF idPart
  by_cases h : f.ext = true
  · simp only [h, if_true, List.length_cons, List.length_append, bitsOf_length, dataPart_length, List.length_nil]
    rw [e]; omega
  · simp only [h, if_false, List.length_cons, List.length_append, bitsOf_length, dataPart_length, Bool.false_eq_true]
    rw [e]; omega
end Go.Proofs.YtpfbobcilphncaaGreatDoor.FP

/- Plain mathematics of stuffing; nothing of the program. -/
namespace Go.Proofs.YtpfbobcilphncaaGreatDoor.FP

/-- What is known behind some bits: the last one, how many are equal, what was put out, and from where on they are counted. -/
structure SS where
  last : UInt8
  n : Nat
  out : List UInt8
  fr : Nat
def oth (c : UInt8) : UInt8 := c ^^^ 48 ^^^ 49
/-- How many are equal with one more. -/
def ssN (s : SS) (c : UInt8) : Nat := if c = s.last then s.n + 1 else 1
def ssStep (s : SS) (c : UInt8) : SS :=
  if ssN s c = 5 then ⟨oth c, 1, (s.out ++ [c]) ++ [oth c], s.out.length + 1⟩ else ⟨c, ssN s c, s.out ++ [c], s.fr⟩
def ss0 : SS := ⟨0, 0, [], 0⟩
def stuffS (l : List UInt8) : SS := l.foldl ssStep ss0
def stuffF (l : List UInt8) : List UInt8 := (stuffS l).out
theorem stuffS_snoc (l : List UInt8) (c : UInt8) : stuffS (l ++ [c]) = ssStep (stuffS l) c := by simp [stuffS]

/-- Do the last five stand alike, and were none put in within them? -/
def equalB (s : List UInt8) (fr : Nat) : Bool := decide (5 ≤ s.length - fr) && (List.range 5).all (fun j => s[s.length - 1 - j]? == s[s.length - 1]?)

structure SInv (s : SS) (i : Nat) : Prop where
  n5 : s.n < 5
  fr : s.fr + s.n ≤ s.out.length
  same : ∀ j, j < s.n → s.out[s.out.length - 1 - j]? = some s.last
  end_ : s.fr + s.n < s.out.length → s.out[s.out.length - 1 - s.n]? ≠ some s.last
  bit : s.n = 0 ∧ s.last = 0 ∧ i = 0 ∨ (1 ≤ s.n ∧ (s.last = 48 ∨ s.last = 49) ∧ 1 ≤ i)
  all : ∀ c ∈ s.out, c = 48 ∨ c = 49
  len : 4 * (s.out.length - i) + s.n ≤ i ∧ i ≤ s.out.length

theorem ssStep_five {s : SS} {c : UInt8} (h : ssN s c = 5) : (ssStep s c).last = oth c ∧ (ssStep s c).n = 1 ∧ (ssStep s c).out = (s.out ++ [c]) ++ [oth c] ∧ (ssStep s c).fr = s.out.length + 1 := by
  unfold ssStep; rw [if_pos h]; exact ⟨rfl, rfl, rfl, rfl⟩
theorem ssStep_less {s : SS} {c : UInt8} (h : ssN s c ≠ 5) : (ssStep s c).last = c ∧ (ssStep s c).n = ssN s c ∧ (ssStep s c).out = s.out ++ [c] ∧ (ssStep s c).fr = s.fr := by
  unfold ssStep; rw [if_neg h]; exact ⟨rfl, rfl, rfl, rfl⟩

theorem oth_bit {c : UInt8} (h : c = 48 ∨ c = 49) : oth c = 48 ∧ c = 49 ∨ oth c = 49 ∧ c = 48 := by
  rcases h with rfl | rfl
  · right; decide
  · left; decide
theorem oth_is {c : UInt8} (h : c = 48 ∨ c = 49) : oth c = 48 ∨ oth c = 49 := by
  rcases oth_bit h with h | h
  · exact .inl h.1
  · exact .inr h.1

theorem ss_inv0 : SInv ss0 0 := ⟨by decide, by decide, fun j h => absurd h (by simp [ss0]), fun h => absurd h (by simp [ss0]), .inl ⟨rfl, rfl, rfl⟩, fun c h => absurd h (by simp [ss0]), by simp [ss0]⟩

theorem snoc_last {α : Type} (l : List α) (c : α) : (l ++ [c])[l.length]? = some c := by simp
theorem snoc_lt {α : Type} (l : List α) (c : α) {j : Nat} (h : j < l.length) : (l ++ [c])[j]? = l[j]? := List.getElem?_append_left h

theorem SInv.last {s : SS} {i : Nat} (h : SInv s i) (hn : 1 ≤ s.out.length) : s.out[s.out.length - 1]? = some s.last ∧ 1 ≤ s.n := by
  rcases h.bit with ⟨h0, _, hi⟩ | ⟨h1, _, _⟩
  · have := h.len; omega
  · exact ⟨by have := h.same 0 (by omega); simpa using this, h1⟩

theorem SInv.step {s : SS} {i : Nat} (h : SInv s i) {c : UInt8} (hc : c = 48 ∨ c = 49) : SInv (ssStep s c) (i + 1) := by
  obtain ⟨last, n, out, fr⟩ := s
  have hl := fun hn => h.last hn
  obtain ⟨n5, hfr, same, end_, bit, all, len⟩ := h
  simp only at *
  unfold ssStep
  simp only
  by_cases h5 : ssN ⟨last, n, out, fr⟩ c = 5
  · rw [if_pos h5]
    have e : n + 1 = 5 := by
      unfold ssN at h5
      split at h5
      · exact h5
      · omega
    refine ⟨by simp, by simp, ?_, ?_, ?_, ?_, ?_⟩
    · intro j hj
      have : j = 0 := by simp only at hj; omega
      subst this
      simp
    · intro hj; simp at hj
    · exact .inr ⟨by simp, oth_is hc, by omega⟩
    · intro x hx
      simp only [List.mem_append, List.mem_singleton] at hx
      rcases hx with (hx | rfl) | rfl
      · exact all x hx
      · exact hc
      · exact oth_is hc
    · simp only [List.length_append, List.length_cons, List.length_nil]; omega
  · rw [if_neg h5]
    have hall : ∀ x ∈ out ++ [c], x = 48 ∨ x = 49 := by
      intro x hx
      simp only [List.mem_append, List.mem_singleton] at hx
      rcases hx with hx | rfl
      · exact all x hx
      · exact hc
    by_cases hcl : c = last
    · have e : ssN ⟨last, n, out, fr⟩ c = n + 1 := by unfold ssN; rw [if_pos hcl]
      rw [e] at h5 ⊢
      refine ⟨by simp only; omega, by simp; omega, ?_, ?_, ?_, hall, ?_⟩
      · intro j hj
        simp only [List.length_append, List.length_cons, List.length_nil] at *
        rcases Nat.eq_zero_or_pos j with h0 | h0
        · subst h0; simp
        · rw [show out.length + (0 + 1) - 1 - j = out.length - 1 - (j - 1) by omega, snoc_lt _ _ (by omega), same (j - 1) (by omega), hcl]
      · intro hj
        simp only [List.length_append, List.length_cons, List.length_nil] at *
        rw [show out.length + (0 + 1) - 1 - (n + 1) = out.length - 1 - n by omega, snoc_lt _ _ (by omega), hcl]
        exact end_ (by omega)
      · exact .inr ⟨by simp, hc, by omega⟩
      · simp only [List.length_append, List.length_cons, List.length_nil]; omega
    · have e : ssN ⟨last, n, out, fr⟩ c = 1 := by unfold ssN; rw [if_neg hcl]
      rw [e] at h5 ⊢
      refine ⟨by simp, by simp; omega, ?_, ?_, ?_, hall, ?_⟩
      · intro j hj
        have : j = 0 := by simp only at hj; omega
        subst this
        simp
      · intro hj
        simp only [List.length_append, List.length_cons, List.length_nil] at *
        rw [show out.length + (0 + 1) - 1 - 1 = out.length - 1 by omega, snoc_lt _ _ (by omega), (hl (by omega)).1]
        intro he
        exact hcl (Option.some.inj he).symm
      · exact .inr ⟨by simp, hc, by omega⟩
      · simp only [List.length_append, List.length_cons, List.length_nil]; omega

theorem SInv.equal {s : SS} {i : Nat} (h : SInv s i) (c : UInt8) : equalB (s.out ++ [c]) s.fr = decide (ssN s c = 5) := by
  obtain ⟨last, n, out, fr⟩ := s
  have hl := fun hn => h.last hn
  obtain ⟨n5, hfr, same, end_, bit, all, len⟩ := h
  simp only at *
  have eL : (out ++ [c]).length - 1 = out.length := by simp
  unfold equalB
  by_cases h5 : ssN ⟨last, n, out, fr⟩ c = 5
  · rw [decide_eq_true h5]
    unfold ssN at h5
    split at h5
    · rename_i hcl
      simp only at hcl h5
      rw [Bool.and_eq_true]
      refine ⟨by simp; omega, List.all_eq_true.2 fun j hj => ?_⟩
      rw [List.mem_range] at hj
      rw [eL, snoc_last]
      rcases Nat.eq_zero_or_pos j with h0 | h0
      · subst h0; simp
      · rw [show out.length - j = out.length - 1 - (j - 1) by omega, snoc_lt _ _ (by omega), same (j - 1) (by omega), hcl]
        simp
    · omega
  · rw [decide_eq_false h5]
    rw [Bool.and_eq_false_iff]
    by_cases hL : 5 ≤ (out ++ [c]).length - fr
    · right
      rw [List.all_eq_false]
      simp only [List.length_append, List.length_cons, List.length_nil] at hL
      unfold ssN at h5
      split at h5
      · rename_i hcl
        simp only at hcl h5
        refine ⟨n + 1, by rw [List.mem_range]; omega, ?_⟩
        rw [eL, snoc_last, show out.length - (n + 1) = out.length - 1 - n by omega, snoc_lt _ _ (by omega), hcl]
        have := end_ (by omega)
        simpa using this
      · rename_i hcl
        simp only at hcl h5
        refine ⟨1, by decide, ?_⟩
        rw [eL, snoc_last, snoc_lt _ _ (by omega), (hl (by omega)).1]
        simpa using fun h : last = c => hcl h.symm
    · left; exact decide_eq_false hL

theorem stuff_inv (l : List UInt8) (hl : ∀ c ∈ l, c = 48 ∨ c = 49) : SInv (stuffS l) l.length := by
  have : ∀ i, i ≤ l.length → SInv (stuffS (l.take i)) i := by
    intro i
    induction i with
    | zero => intro _; simpa [stuffS] using ss_inv0
    | succ i ih =>
      intro hi
      rw [List.take_succ_eq_append_getElem hi, stuffS_snoc]
      exact (ih (by omega)).step (hl _ (List.getElem_mem hi))
  have h := this l.length (Nat.le_refl _)
  rwa [List.take_of_length_le (Nat.le_refl _)] at h

theorem stuff_len (l : List UInt8) (hl : ∀ c ∈ l, c = 48 ∨ c = 49) : l.length ≤ (stuffF l).length ∧ (stuffF l).length ≤ l.length + (l.length - 1) / 4 := by
  have h := stuff_inv l hl
  refine ⟨h.len.2, ?_⟩
  have h1 := h.len.1
  have h2 := h.len.2
  unfold stuffF
  rcases h.bit with ⟨h0, _, hi⟩ | ⟨h0, _, hi⟩ <;> omega
end Go.Proofs.YtpfbobcilphncaaGreatDoor.FP
