/- Plain: what stands where in a frame's head. -/
import Derived.Test.YtmfgifinmeonjaaDoorFrPlain
namespace Go.Proofs.YtmfgifinmeonjaaDoor.FP

theorem bitB_eq (b : Bool) : bitB b = if b then 49 else 48 := rfl

/-- The head of a short frame, part by part. -/
theorem head_short (f : Fr) (h : f.ext = false) : headF f = 48 :: (bitsOf f.id 11 ++ ([bitB f.rem, 48, 48] ++ (bitsOf f.dlc.toNat 4 ++ dataPart f.data.data.toList))) := by
  simp [headF, idPart, h]
/-- The head of a long frame, part by part. -/
theorem head_long (f : Fr) (h : f.ext = true) : headF f = 48 :: (bitsOf (f.id / 262144) 11 ++ ([49, 49] ++ (bitsOf (f.id % 262144) 18 ++ ([bitB f.rem, 48, 48] ++ (bitsOf f.dlc.toNat 4 ++ dataPart f.data.data.toList))))) := by
  simp [headF, idPart, h]

theorem get_app {α : Type} (a b : List α) (i k : Nat) (hk : a.length = k) : (a ++ b)[k + i]? = b[i]? := by
  subst hk
  rw [List.getElem?_append_right (by omega)]
  congr 1
  omega

theorem short_at (f : Fr) (h : f.ext = false) : (headF f)[0]? = some 48 ∧ (headF f)[12]? = some (bitB f.rem) ∧ (headF f)[13]? = some 48 ∧ (headF f).extract 15 19 = bitsOf f.dlc.toNat 4 ∧ (headF f).extract 1 12 = bitsOf f.id 11 := by
  rw [head_short f h]
  have e : ∀ i, (48 :: (bitsOf f.id 11 ++ ([bitB f.rem, 48, 48] ++ (bitsOf f.dlc.toNat 4 ++ dataPart f.data.data.toList))))[11 + i + 1]? = ([bitB f.rem, 48, 48] ++ (bitsOf f.dlc.toNat 4 ++ dataPart f.data.data.toList))[i]? := fun i => by
    rw [List.getElem?_cons_succ]
    exact get_app _ _ _ _ (bitsOf_length _ _)
  refine ⟨rfl, e 0, e 1, ?_, ?_⟩
  · rw [List.extract_eq_take_drop, show (15 : Nat) = 14 + 1 by rfl, List.drop_succ_cons, show (14 : Nat) = (bitsOf f.id 11).length + 3 by rw [bitsOf_length], List.drop_append, List.drop_of_length_le (by omega)]
    simp [bitsOf_length]
  · rw [List.extract_eq_take_drop, List.drop_succ_cons, List.drop_zero, List.take_append_of_le_length (by rw [bitsOf_length]; omega), List.take_of_length_le (by rw [bitsOf_length]; omega)]

theorem long_at (f : Fr) (h : f.ext = true) : (headF f)[0]? = some 48 ∧ (headF f)[13]? = some 49 ∧ (headF f)[32]? = some (bitB f.rem) ∧ (headF f).extract 35 39 = bitsOf f.dlc.toNat 4 ∧ (headF f).extract 1 12 = bitsOf (f.id / 262144) 11 ∧ (headF f).extract 14 32 = bitsOf (f.id % 262144) 18 := by
  rw [head_long f h]
  have e : ∀ i (t : List UInt8), (48 :: (bitsOf (f.id / 262144) 11 ++ t))[11 + i + 1]? = t[i]? := fun i t => by
    rw [List.getElem?_cons_succ]
    exact get_app _ _ _ _ (bitsOf_length _ _)
  have d : ∀ i (t : List UInt8), (48 :: (bitsOf (f.id / 262144) 11 ++ t)).drop (11 + i + 1) = t.drop i := fun i t => by
    rw [List.drop_succ_cons, List.drop_append, bitsOf_length, List.drop_of_length_le (by rw [bitsOf_length]; omega), Nat.add_sub_cancel_left]; rfl
  have d2 : ∀ i (t : List UInt8), ([49, 49] ++ (bitsOf (f.id % 262144) 18 ++ t)).drop (2 + 18 + i) = t.drop i := fun i t => by
    rw [← List.append_assoc, List.drop_append, List.drop_of_length_le (by simp [bitsOf_length]), List.length_append, bitsOf_length]
    simp
  have e2 : ∀ i (t : List UInt8), ([49, 49] ++ (bitsOf (f.id % 262144) 18 ++ t))[2 + 18 + i]? = t[i]? := fun i t => by
    rw [← List.append_assoc]
    exact get_app _ _ _ _ (by simp [bitsOf_length])
  refine ⟨rfl, (e 1 _).trans rfl, (e 20 _).trans ((e2 0 _).trans rfl), ?_, ?_, ?_⟩
  · rw [List.extract_eq_take_drop, show (35 : Nat) = 11 + 23 + 1 by rfl, d, show (23 : Nat) = 2 + 18 + 3 by rfl, d2]
    simp [bitsOf_length]
  · rw [List.extract_eq_take_drop, List.drop_succ_cons, List.drop_zero, List.take_append_of_le_length (by rw [bitsOf_length]; omega), List.take_of_length_le (by rw [bitsOf_length]; omega)]
  · rw [List.extract_eq_take_drop, show (14 : Nat) = 11 + 2 + 1 by rfl, d]
    show List.take 18 (bitsOf (f.id % 262144) 18 ++ _) = _
    rw [List.take_append_of_le_length (by rw [bitsOf_length]; omega), List.take_of_length_le (by rw [bitsOf_length]; omega)]

theorem id_short (f : Fr) (hr : rightB f = true) (h : f.ext = false) : numOf (bitsOf f.id 11) = f.id := by
  rw [numOf_bitsOf]
  apply Nat.mod_eq_of_lt
  simp [rightB, h] at hr
  omega
theorem id_long (f : Fr) (hr : rightB f = true) (h : f.ext = true) : numOf (bitsOf (f.id / 262144) 11 ++ bitsOf (f.id % 262144) 18) = f.id := by
  rw [numOf_append, numOf_bitsOf, numOf_bitsOf, bitsOf_length]
  have : f.id < 536870912 := by simp [rightB, h] at hr; omega
  omega
end Go.Proofs.YtmfgifinmeonjaaDoor.FP
