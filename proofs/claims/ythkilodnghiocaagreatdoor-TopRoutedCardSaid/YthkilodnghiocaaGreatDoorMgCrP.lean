/- Plain mathematics of sums of rows: dividing on paper is the register's fold; nothing of the program. -/
import Derived.Test.YthkilodnghiocaaGreatDoorMgFrPlain
import Derived.Test.YthkilodnghiocaaGreatDoorMgCtP
namespace Go.Proofs.YthkilodnghiocaaGreatDoor.FP

/-- A sum's step by a bit. -/
def crcStep (r : Nat) (c : UInt8) : Nat := (2 * r % 32768) ^^^ (if (r.testBit 14) ^^ (c == 49) then 17817 else 0)
def crcOf (l : List UInt8) : Nat := l.foldl crcStep 0

theorem crcStep_lt (r : Nat) (c : UInt8) : crcStep r c < 32768 := by
  unfold crcStep
  exact Nat.xor_lt_two_pow (n := 15) (by omega) (by split <;> omega)
theorem crcOf_snoc (l : List UInt8) (c : UInt8) : crcOf (l ++ [c]) = crcStep (crcOf l) c := by simp [crcOf]
theorem foldl_crc_lt : ∀ (l : List UInt8) (r : Nat), r < 32768 → l.foldl crcStep r < 32768
  | [], _, h => h
  | c :: l, r, _ => foldl_crc_lt l _ (crcStep_lt r c)
theorem crcOf_lt (l : List UInt8) : crcOf l < 32768 := foldl_crc_lt l 0 (by omega)

theorem crcStep_bit (r : Nat) (c : UInt8) (m : Nat) (hm : m < 15) : (crcStep r c).testBit m = ((decide (1 ≤ m) && r.testBit (m - 1)) ^^ (((r.testBit 14) ^^ (c == 49)) && (17817 : Nat).testBit m)) := by
  unfold crcStep
  rw [Nat.testBit_xor]
  congr 1
  · rw [show (32768 : Nat) = 2 ^ 15 from rfl, Nat.testBit_mod_two_pow, show 2 * r = 2 ^ 1 * r by omega, Nat.testBit_two_pow_mul]
    simp [hm]
  · cases ((r.testBit 14) ^^ (c == 49)) <;> simp

/-- The bit that stands at a place of a row with zeros behind it. -/
def bitAt (l : List UInt8) (j : Nat) : Bool := l[j]? == some 49
def pB (k : Nat) : Bool := (50585 : Nat).testBit (15 - k)
/-- What stands there behind i rounds of the division, and behind k steps of one. -/
def divB (l : List UInt8) : Nat → Nat → Bool
  | 0, j => bitAt l j
  | i + 1, j => divB l i j ^^ (divB l i i && (decide (i ≤ j) && (decide (j < i + 16) && pB (j - i))))
def divK (l : List UInt8) (i k j : Nat) : Bool := divB l i j ^^ (divB l i i && (decide (i ≤ j) && (decide (j < i + k) && pB (j - i))))
theorem divK_zero (l : List UInt8) (i j : Nat) : divK l i 0 j = divB l i j := by
  unfold divK
  by_cases h : i ≤ j
  · have : ¬ j < i := by omega
    simp [this]
  · simp [h]
theorem divK_full (l : List UInt8) (i j : Nat) : divK l i 16 j = divB l (i + 1) j := rfl
theorem divK_here (l : List UInt8) (i k : Nat) (h : divB l i i = true) : divK l i (k + 1) (i + k) = (divK l i k (i + k) ^^ pB k) := by
  unfold divK
  simp [h]
theorem divK_there (l : List UInt8) (i k j : Nat) (hj : j ≠ i + k) : divK l i (k + 1) j = divK l i k j := by
  unfold divK
  have : (decide (j < i + (k + 1))) = decide (j < i + k) := by
    apply decide_eq_decide.2; omega
  rw [this]
theorem divB_no (l : List UInt8) (i j : Nat) (h : divB l i i = false) : divB l (i + 1) j = divB l i j := by
  simp [divB, h]

theorem pB_low : ∀ d : Fin 15, pB (1 + d.val) = (17817 : Nat).testBit (14 - d.val) := by decide
theorem div_inv (l : List UInt8) : ∀ i, i ≤ l.length → ∀ j, i ≤ j → divB l i j = (bitAt l j ^^ (decide (j - i < 15) && (crcOf (l.take i)).testBit (14 - (j - i))))
  | 0, _, j, _ => by simp [divB, crcOf]
  | i + 1, hi, j, hj => by
    have IH := div_inv l i (by omega)
    have hlt : i < l.length := hi
    have h0 := IH i (Nat.le_refl _)
    have hc : bitAt l i = (l[i] == 49) := by
      unfold bitAt
      rw [List.getElem?_eq_getElem hlt]
      simp
    rw [show divB l (i + 1) j = (divB l i j ^^ (divB l i i && (decide (i ≤ j) && (decide (j < i + 16) && pB (j - i))))) from rfl]
    rw [IH j (by omega), h0, hc, List.take_succ_eq_append_getElem hlt, crcOf_snoc]
    have e0 : i - i = 0 := by omega
    rw [e0]
    obtain ⟨d, rfl⟩ : ∃ d, j = i + 1 + d := ⟨j - (i + 1), by omega⟩
    have e1 : i + 1 + d - i = 1 + d := by omega
    have e2 : i + 1 + d - (i + 1) = d := by omega
    have e3 : decide (i ≤ i + 1 + d) = true := by simp; omega
    rw [e1, e2, e3]
    by_cases hd : d < 15
    · have e4 : decide (i + 1 + d < i + 16) = true := by simp; omega
      have e5 : decide (d < 15) = true := by simp [hd]
      rw [e4, e5, crcStep_bit _ _ _ (by omega), pB_low ⟨d, hd⟩]
      simp only [Nat.sub_zero, Bool.true_and, show decide (0 < 15) = true from rfl]
      by_cases h14 : d < 14
      · have e6 : decide (1 + d < 15) = true := by simp; omega
        have e7 : decide (1 ≤ 14 - d) = true := by simp; omega
        have e8 : 14 - (1 + d) = 14 - d - 1 := by omega
        rw [e6, e7, e8]
        simp only [Bool.true_and]
        generalize bitAt l (i + 1 + d) = a
        generalize (crcOf (List.take i l)).testBit (14 - d - 1) = b
        generalize (crcOf (List.take i l)).testBit 14 = x
        generalize (l[i] == 49) = y
        generalize (17817 : Nat).testBit (14 - d) = z
        cases a <;> cases b <;> cases x <;> cases y <;> cases z <;> rfl
      · have e6 : decide (1 + d < 15) = false := by simp; omega
        have e7 : decide (1 ≤ 14 - d) = false := by simp; omega
        rw [e6, e7]
        simp only [Bool.false_and]
        generalize bitAt l (i + 1 + d) = a
        generalize (crcOf (List.take i l)).testBit 14 = x
        generalize (l[i] == 49) = y
        generalize (17817 : Nat).testBit (14 - d) = z
        cases a <;> cases x <;> cases y <;> cases z <;> rfl
    · have e4 : decide (i + 1 + d < i + 16) = false := by simp; omega
      have e5 : decide (d < 15) = false := by simp; omega
      have e6 : decide (1 + d < 15) = false := by simp; omega
      rw [e4, e5, e6]
      simp

theorem bitAt_out (l : List UInt8) (j : Nat) (h : l.length ≤ j) : bitAt l j = false := by
  unfold bitAt
  rw [List.getElem?_eq_none h]
  rfl
/-- What is left, from the highest bit on. -/
theorem div_left (l : List UInt8) (d : Nat) (hd : d < 15) : divB l l.length (l.length + d) = (crcOf l).testBit (14 - d) := by
  rw [div_inv l l.length (Nat.le_refl _) _ (by omega), bitAt_out l _ (by omega), List.take_of_length_le (Nat.le_refl _)]
  have : l.length + d - l.length = d := by omega
  rw [this]
  simp [hd]
theorem num_step (r d : Nat) (hd : d < 15) : r / 2 ^ (15 - (d + 1)) = 2 * (r / 2 ^ (15 - d)) + (r.testBit (14 - d)).toNat := by
  have e : 15 - d = 14 - d + 1 := by omega
  have e2 : 15 - (d + 1) = 14 - d := by omega
  rw [e2, e, Nat.pow_succ, ← Nat.div_div_eq_div_mul, Nat.testBit_eq_decide_div_mod_eq]
  rcases Nat.mod_two_eq_zero_or_one (r / 2 ^ (14 - d)) with h | h
  · rw [h]; simp; omega
  · rw [h]; simp; omega

theorem pB_bits : ∀ k : Fin 16, (bitsOf 50585 16)[k.val]? = some (if pB k.val then 49 else 48) := by decide
end Go.Proofs.YthkilodnghiocaaGreatDoor.FP

/- Plain: a frame's bits. -/
namespace Go.Proofs.YthkilodnghiocaaGreatDoor.FP

/-- A row with its sum; a frame's bits. -/
def sumF (l : List UInt8) : List UInt8 := l ++ bitsOf (crcOf l) 15
def tenF : List UInt8 := [49, 49, 49, 49, 49, 49, 49, 49, 49, 49]
def bitsF (f : Fr) : List UInt8 := stuffF (sumF (headF f)) ++ tenF

theorem bitB_bit (b : Bool) : bitB b = 48 ∨ bitB b = 49 := by cases b <;> decide
theorem head_bits (f : Fr) : ∀ c ∈ headF f, c = 48 ∨ c = 49 := by
  intro c hc
  unfold headF idPart dataPart at hc
  simp only [List.mem_cons, List.mem_append, List.mem_flatMap] at hc
  rcases hc with rfl | hc | rfl | rfl | rfl | hc | ⟨x, _, hc⟩
  · exact .inl rfl
  · split at hc
    · simp only [List.mem_cons, List.mem_append, List.not_mem_nil, or_false] at hc
      rcases hc with hc | (rfl | rfl) | hc
      · exact bitsOf_mem hc
      · exact .inr rfl
      · exact .inr rfl
      · exact bitsOf_mem hc
    · exact bitsOf_mem hc
  · exact bitB_bit _
  · exact .inl rfl
  · exact .inl rfl
  · exact bitsOf_mem hc
  · exact bitsOf_mem hc
theorem right_size {f : Fr} (h : rightB f = true) : f.data.size ≤ 8 ∧ 0 ≤ f.dlc ∧ f.dlc ≤ 8 ∧ f.id < 536870912 := by
  simp only [rightB, Bool.and_eq_true, decide_eq_true_eq] at h
  obtain ⟨⟨⟨h1, h2⟩, h3⟩, h4⟩ := h
  refine ⟨?_, h2, h3, ?_⟩
  · split at h4 <;> omega
  · split at h1 <;> omega
theorem head_le {f : Fr} (h : rightB f = true) : 19 ≤ (headF f).length ∧ (headF f).length ≤ 103 := by
  have := right_size h
  rw [head_length]
  split <;> omega
theorem sum_length (l : List UInt8) : (sumF l).length = l.length + 15 := by simp [sumF, bitsOf_length]
theorem sum_bits {l : List UInt8} (h : ∀ c ∈ l, c = 48 ∨ c = 49) : ∀ c ∈ sumF l, c = 48 ∨ c = 49 := by
  intro c hc
  unfold sumF at hc
  rw [List.mem_append] at hc
  exact hc.elim (h c) bitsOf_mem
theorem bits_len {f : Fr} (h : rightB f = true) : 34 ≤ (stuffF (sumF (headF f))).length ∧ (stuffF (sumF (headF f))).length ≤ (headF f).length + 15 + ((headF f).length + 14) / 4 ∧ (bitsF f).length = (stuffF (sumF (headF f))).length + 10 := by
  have h1 := stuff_len (sumF (headF f)) (sum_bits (head_bits f))
  have h2 := head_le h
  rw [sum_length] at h1
  refine ⟨by omega, by omega, by simp [bitsF, tenF]⟩
end Go.Proofs.YthkilodnghiocaaGreatDoor.FP

/- Plain: what stands where in a frame's head. -/
namespace Go.Proofs.YthkilodnghiocaaGreatDoor.FP

theorem bitB_eq (b : Bool) : bitB b = if b then 49 else 48 := rfl

/-- The head of a short frame, part by part. -/
theorem head_short (f : Fr) (h : f.ext = false) : headF f = 48 :: (bitsOf f.id 11 ++ ([bitB f.rem, 48, 48] ++ (bitsOf f.dlc.toNat 4 ++ dataPart f.data.data.toList))) := by
  simp [headF, idPart, h]
/-- The head of a long frame, part by part. -/
theorem head_long (f : Fr) (h : f.ext = true) : headF f = 48 :: (bitsOf (f.id / 262144) 11 ++ ([49, 49] ++ (bitsOf (f.id % 262144) 18 ++ ([bitB f.rem, 48, 48] ++ (bitsOf f.dlc.toNat 4 ++ dataPart f.data.data.toList))))) := by
  simp [headF, idPart, h]

theorem get_app {α : Type} (a b : List α) (i k : Nat) (hk : a.length = k) : (a ++ b)[k + i]? = b[i]? := by
  subst hk
  rw [List.getElem?_append_right (by omega)]
  congr 1
  omega

theorem short_at (f : Fr) (h : f.ext = false) : (headF f)[0]? = some 48 ∧ (headF f)[12]? = some (bitB f.rem) ∧ (headF f)[13]? = some 48 ∧ (headF f).extract 15 19 = bitsOf f.dlc.toNat 4 ∧ (headF f).extract 1 12 = bitsOf f.id 11 := by
  rw [head_short f h]
  have e : ∀ i, (48 :: (bitsOf f.id 11 ++ ([bitB f.rem, 48, 48] ++ (bitsOf f.dlc.toNat 4 ++ dataPart f.data.data.toList))))[11 + i + 1]? = ([bitB f.rem, 48, 48] ++ (bitsOf f.dlc.toNat 4 ++ dataPart f.data.data.toList))[i]? := fun i => by
    rw [List.getElem?_cons_succ]
    exact get_app _ _ _ _ (bitsOf_length _ _)
  refine ⟨rfl, e 0, e 1, ?_, ?_⟩
  · rw [List.extract_eq_take_drop, show (15 : Nat) = 14 + 1 by rfl, List.drop_succ_cons, show (14 : Nat) = (bitsOf f.id 11).length + 3 by rw [bitsOf_length], List.drop_append, List.drop_of_length_le (by omega)]
    simp [bitsOf_length]
  · rw [List.extract_eq_take_drop, List.drop_succ_cons, List.drop_zero, List.take_append_of_le_length (by rw [bitsOf_length]; omega), List.take_of_length_le (by rw [bitsOf_length]; omega)]

theorem long_at (f : Fr) (h : f.ext = true) : (headF f)[0]? = some 48 ∧ (headF f)[13]? = some 49 ∧ (headF f)[32]? = some (bitB f.rem) ∧ (headF f).extract 35 39 = bitsOf f.dlc.toNat 4 ∧ (headF f).extract 1 12 = bitsOf (f.id / 262144) 11 ∧ (headF f).extract 14 32 = bitsOf (f.id % 262144) 18 := by
  rw [head_long f h]
  have e : ∀ i (t : List UInt8), (48 :: (bitsOf (f.id / 262144) 11 ++ t))[11 + i + 1]? = t[i]? := fun i t => by
    rw [List.getElem?_cons_succ]
    exact get_app _ _ _ _ (bitsOf_length _ _)
  have d : ∀ i (t : List UInt8), (48 :: (bitsOf (f.id / 262144) 11 ++ t)).drop (11 + i + 1) = t.drop i := fun i t => by
    rw [List.drop_succ_cons, List.drop_append, bitsOf_length, List.drop_of_length_le (by rw [bitsOf_length]; omega), Nat.add_sub_cancel_left]; rfl
  have d2 : ∀ i (t : List UInt8), ([49, 49] ++ (bitsOf (f.id % 262144) 18 ++ t)).drop (2 + 18 + i) = t.drop i := fun i t => by
    rw [← List.append_assoc, List.drop_append, List.drop_of_length_le (by simp [bitsOf_length]), List.length_append, bitsOf_length]
    simp
  have e2 : ∀ i (t : List UInt8), ([49, 49] ++ (bitsOf (f.id % 262144) 18 ++ t))[2 + 18 + i]? = t[i]? := fun i t => by
    rw [← List.append_assoc]
    exact get_app _ _ _ _ (by simp [bitsOf_length])
  refine ⟨rfl, (e 1 _).trans rfl, (e 20 _).trans ((e2 0 _).trans rfl), ?_, ?_, ?_⟩
  · rw [List.extract_eq_take_drop, show (35 : Nat) = 11 + 23 + 1 by rfl, d, show (23 : Nat) = 2 + 18 + 3 by rfl, d2]
    simp [bitsOf_length]
  · rw [List.extract_eq_take_drop, List.drop_succ_cons, List.drop_zero, List.take_append_of_le_length (by rw [bitsOf_length]; omega), List.take_of_length_le (by rw [bitsOf_length]; omega)]
  · rw [List.extract_eq_take_drop, show (14 : Nat) = 11 + 2 + 1 by rfl, d]
    show List.take 18 (bitsOf (f.id % 262144) 18 ++ _) = _
    rw [List.take_append_of_le_length (by rw [bitsOf_length]; omega), List.take_of_length_le (by rw [bitsOf_length]; omega)]

theorem id_short (f : Fr) (hr : rightB f = true) (h : f.ext = false) : numOf (bitsOf f.id 11) = f.id := by
  rw [numOf_bitsOf]
  apply Nat.mod_eq_of_lt
  simp [rightB, h] at hr
  omega
theorem id_long (f : Fr) (hr : rightB f = true) (h : f.ext = true) : numOf (bitsOf (f.id / 262144) 11 ++ bitsOf (f.id % 262144) 18) = f.id := by
  rw [numOf_append, numOf_bitsOf, numOf_bitsOf, bitsOf_length]
  have : f.id < 536870912 := by simp [rightB, h] at hr; omega
  omega
end Go.Proofs.YthkilodnghiocaaGreatDoor.FP

/- Plain: reading the bits of a frame: sizes, unstuffing, sums, what is parsed; nothing of the program. -/
namespace Go.Proofs.YthkilodnghiocaaGreatDoor.FP

/-- How many bits a head has ahead of its bytes; whether its size is told (0), too short (3), none (12). -/
def fxN (l : List UInt8) : Nat := if l[13]? = some 49 then 39 else 19
def dlN (l : List UInt8) : Nat := numOf (l.extract (fxN l - 4) (fxN l))
def sizeE (l : List UInt8) : Nat := if l.length < 14 then 3 else if l.length < fxN l then 3 else if 8 < dlN l then 12 else 0
def sizeV (l : List UInt8) : Nat := if sizeE l = 0 then fxN l + 8 * (if l[fxN l - 7]? = some 49 then 0 else dlN l) else 0

theorem fxN_or (l : List UInt8) : fxN l = 19 ∨ fxN l = 39 := by unfold fxN; split <;> simp
theorem fxN_append {l r : List UInt8} (h : 14 ≤ l.length) : fxN (l ++ r) = fxN l := by
  unfold fxN; rw [List.getElem?_append_left (by omega)]
theorem extract_app {l r : List UInt8} {a b : Nat} (h : b ≤ l.length) : (l ++ r).extract a b = l.extract a b := by
  rw [List.extract_eq_take_drop, List.extract_eq_take_drop]
  by_cases hab : a ≤ l.length
  · rw [List.drop_append_of_le_length hab, List.take_append_of_le_length (by rw [List.length_drop]; omega)]
  · rw [show b - a = 0 by omega]; simp
theorem sizeE_long {l : List UInt8} (h : sizeE l = 0 ∨ sizeE l = 12) : fxN l ≤ l.length := by
  unfold sizeE at h
  split at h
  · omega
  · split at h <;> omega
theorem size_append {l : List UInt8} (r : List UInt8) (h : sizeE l = 0 ∨ sizeE l = 12) : sizeE (l ++ r) = sizeE l ∧ sizeV (l ++ r) = sizeV l := by
  have h1 := sizeE_long h
  have h2 := fxN_or l
  have e1 : fxN (l ++ r) = fxN l := fxN_append (by omega)
  have e2 : dlN (l ++ r) = dlN l := by unfold dlN; rw [e1, extract_app h1]
  have e3 : (l ++ r)[fxN l - 7]? = l[fxN l - 7]? := List.getElem?_append_left (by omega)
  have e4 : sizeE (l ++ r) = sizeE l := by
    unfold sizeE
    rw [e1, e2, List.length_append]
    rw [if_neg (show ¬ l.length + r.length < 14 by omega), if_neg (show ¬ l.length + r.length < fxN l by omega), if_neg (show ¬ l.length < 14 by omega), if_neg (show ¬ l.length < fxN l by omega)]
  refine ⟨e4, ?_⟩
  unfold sizeV
  rw [e4, e1, e2, e3]
theorem sizeV_bd (l : List UInt8) : sizeV l ≤ 103 := by
  unfold sizeV
  split
  · rename_i h
    have h2 := fxN_or l
    have : dlN l ≤ 8 := by
      unfold sizeE at h
      split at h
      · omega
      · split at h
        · omega
        · split at h <;> omega
    split <;> omega
  · omega
theorem sizeV_ge {l : List UInt8} (h : sizeE l = 0) : fxN l ≤ sizeV l ∧ (sizeV l - fxN l) % 8 = 0 := by
  unfold sizeV
  rw [if_pos h]
  omega

/-- A row of bytes, read from a place on. -/
def byteAt (l : List UInt8) (k j : Nat) : UInt8 := UInt8.ofNat (numOf (l.extract (k + 8 * j) (k + 8 * j + 8)))
def bytesF (l : List UInt8) (k n : Nat) : List UInt8 := (List.range n).map (byteAt l k)
theorem bytesF_len (l : List UInt8) (k n : Nat) : (bytesF l k n).length = n := by simp [bytesF]
theorem bytesF_succ (l : List UInt8) (k n : Nat) : bytesF l k (n + 1) = bytesF l k n ++ [byteAt l k n] := by simp [bytesF, List.range_succ]
def idF (l : List UInt8) : Nat := if fxN l = 39 then numOf (l.extract 1 12) * 262144 + numOf (l.extract 14 32) else numOf (l.extract 1 12)
/-- The frame whose head a row is, if it is one. -/
def rawF (l : List UInt8) : Fr := ⟨idF l, decide (fxN l = 39), decide (l[fxN l - 7]? = some 49), (dlN l : Int), ⟨(bytesF l (fxN l) ((l.length - fxN l) / 8)).toArray⟩⟩
def sizedB (l : List UInt8) : Bool := decide (sizeE l = 0) && decide (sizeV l = l.length)
def readB (l : List UInt8) : Bool := sizedB l && (rightB (rawF l) && decide (headF (rawF l) = l))
def fr0 : Fr := ⟨0, false, false, 0, ⟨#[]⟩⟩
/-- What is read: the frame, and how. -/
def readV (l : List UInt8) : Fr := if readB l then rawF l else fr0
def readE (l : List UInt8) : Nat := if readB l then 0 else 12
theorem read_yes {l : List UInt8} (h : readB l = true) : readV l = rawF l ∧ readE l = 0 := by unfold readV readE; rw [h]; exact ⟨rfl, rfl⟩
theorem read_not {l : List UInt8} (h : readB l = false) : readV l = fr0 ∧ readE l = 12 := by unfold readV readE; rw [h]; exact ⟨rfl, rfl⟩

/-- How many are equal behind one bit more, and what kind of bit it was. -/
def uN (last : UInt8) (n : Nat) (c : UInt8) : Nat := if n = 5 then (if c = last then 5 else 1) else if c = last then n + 1 else 1
def uK (last : UInt8) (n : Nat) (c : UInt8) : Nat := if n = 5 then (if c = last then 3 else 2) else 1
theorem uN_le {last : UInt8} {n : Nat} (h : n ≤ 5) (c : UInt8) : 1 ≤ uN last n c ∧ uN last n c ≤ 5 := by
  unfold uN; split
  · split <;> omega
  · split <;> omega
theorem uK_or (last : UInt8) (n : Nat) (c : UInt8) : uK last n c = 1 ∨ uK last n c = 2 ∨ uK last n c = 3 := by
  unfold uK; split
  · split <;> simp
  · simp

def doneB (bits : List UInt8) (n : Nat) : Bool := decide (sizeE bits = 0) && (decide (bits.length = sizeV bits + 15) && decide (n < 5))
structure SR where
  e : Nat
  bits : List UInt8
  n : Nat
/-- A step's bits, where it was data: no frame's. -/
def badB (bits : List UInt8) : Bool := decide (sizeE bits = 12) || decide (bits[0]? = some 49)
def stuffedF : List UInt8 → UInt8 → Nat → List UInt8 → Nat → SR
  | [], _, n, bits, k => if doneB bits n then ⟨0, bits, k⟩ else ⟨3, [], 0⟩
  | c :: rest, last, n, bits, k =>
    if doneB bits n then ⟨0, bits, k⟩ else
    if uK last n c = 3 then ⟨10, [], 0⟩ else
    if uK last n c = 2 then stuffedF rest c (uN last n c) bits (k + 1) else
    if badB (bits ++ [c]) then ⟨12, [], 0⟩ else stuffedF rest c (uN last n c) (bits ++ [c]) (k + 1)

theorem stuffed_done {bits : List UInt8} {n : Nat} (h : doneB bits n = true) (rest : List UInt8) (last : UInt8) (k : Nat) : stuffedF rest last n bits k = ⟨0, bits, k⟩ := by
  cases rest <;> (unfold stuffedF; rw [if_pos h])
theorem stuffed_nil {bits : List UInt8} {n : Nat} (h : doneB bits n = false) (last : UInt8) (k : Nat) : stuffedF [] last n bits k = ⟨3, [], 0⟩ := by
  unfold stuffedF; rw [h]; rfl
theorem stuffed_err {bits : List UInt8} {n : Nat} (h : doneB bits n = false) (c : UInt8) (rest : List UInt8) (last : UInt8) (k : Nat) (hk : uK last n c = 3) : stuffedF (c :: rest) last n bits k = ⟨10, [], 0⟩ := by
  conv => lhs; unfold stuffedF
  rw [h, if_neg (by simp), if_pos hk]
theorem stuffed_stuff {bits : List UInt8} {n : Nat} (h : doneB bits n = false) (c : UInt8) (rest : List UInt8) (last : UInt8) (k : Nat) (hk : uK last n c = 2) : stuffedF (c :: rest) last n bits k = stuffedF rest c (uN last n c) bits (k + 1) := by
  conv => lhs; unfold stuffedF
  rw [h, if_neg (by simp), if_neg (by omega), if_pos hk]
theorem stuffed_bad {bits : List UInt8} {n : Nat} (h : doneB bits n = false) (c : UInt8) (rest : List UInt8) (last : UInt8) (k : Nat) (hk : uK last n c = 1) (hb : badB (bits ++ [c]) = true) : stuffedF (c :: rest) last n bits k = ⟨12, [], 0⟩ := by
  conv => lhs; unfold stuffedF
  rw [h, if_neg (by simp), if_neg (by omega), if_neg (by omega), if_pos hb]
theorem stuffed_data {bits : List UInt8} {n : Nat} (h : doneB bits n = false) (c : UInt8) (rest : List UInt8) (last : UInt8) (k : Nat) (hk : uK last n c = 1) (hb : badB (bits ++ [c]) = false) : stuffedF (c :: rest) last n bits k = stuffedF rest c (uN last n c) (bits ++ [c]) (k + 1) := by
  conv => lhs; unfold stuffedF
  rw [h, if_neg (by simp), if_neg (by omega), if_neg (by omega), hb, if_neg (by simp)]

/-- The tail's bits from the i-th on, j of them: all there (0), too short (3), another one (12). -/
def tailE (s : List UInt8) (n : Nat) : Nat → Nat
  | 0 => 0
  | j + 1 => if s.length ≤ n + (9 - j) then 3 else if 9 - j ≠ 1 ∧ s[n + (9 - j)]? ≠ some 49 then 12 else tailE s n j
structure PR where
  e : Nat
  f : Fr
  n : Nat
def headOf (t : List UInt8) : List UInt8 := t.take (t.length - 15)
def parseF (s : List UInt8) : PR :=
  let r := stuffedF s 0 0 [] 0
  if r.e ≠ 0 then ⟨r.e, fr0, 0⟩ else
  if sumF (headOf r.bits) ≠ r.bits then ⟨11, fr0, 0⟩ else
  if tailE s r.n 10 ≠ 0 then ⟨tailE s r.n 10, fr0, 0⟩ else
  if readB (headOf r.bits) then ⟨0, rawF (headOf r.bits), r.n + 10⟩ else ⟨12, fr0, 0⟩
end Go.Proofs.YthkilodnghiocaaGreatDoor.FP
