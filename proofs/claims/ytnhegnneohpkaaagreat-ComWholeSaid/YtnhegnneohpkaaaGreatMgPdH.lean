/- Walks of campanilelaw15.few, alive. -/
import Derived.Test.YtnhegnneohpkaaaGreatPdG
import Derived.Test.YtnhegnneohpkaaaGreatMgPdE
import Derived.Test.YtnhegnneohpkaaaGreatMgPdP
namespace Go.Proofs.YtnhegnneohpkaaaGreat
open Go.ChangeShapes Go.WideShapes Go.ChangeAt Go.RowKit
open SG PD

/-- The first twenty. -/
def fewL (L : Ly) : Ly := ⟨L.size, L.sgs.take 20, L.nws.take 20⟩

end Go.Proofs.YtnhegnneohpkaaaGreat

/- The walk of campanilelaw15.alive. -/
namespace Go.Proofs.YtnhegnneohpkaaaGreat
open Go.ChangeShapes Go.WideShapes Go.ChangeAt Go.RowKit
open SG PD

def aliveL : Ly := ⟨1, [⟨0, 4, false, false⟩], [7]⟩
theorem alive_right : rightB aliveL = true := by decide +kernel
theorem alive_pack : packF aliveL [5] [true] 0 = [133] := by decide +kernel
theorem alive_fit : fitAll aliveL [5] := by
  intro k hk
  have : k = 0 := by unfold aliveL at hk; simp at hk; exact hk
  subst this
  decide +kernel

end Go.Proofs.YtnhegnneohpkaaaGreat

/- What is taken out of bytes: a signal's value, a layout's values; what is cleared. Plain: no program in sight. -/
namespace Go.Proofs.YtnhegnneohpkaaaGreat
namespace SG

theorem mod_succ (x : Int) (n : Nat) : x % 2 ^ (n + 1) = x % 2 ^ n + 2 ^ n * (x / 2 ^ n % 2) := by
  have hp : (0 : Int) < 2 ^ n := Int.pow_pos (by omega)
  have e1 := Int.emod_add_mul_ediv x (2 ^ n)
  have e2 := Int.emod_add_mul_ediv (x / 2 ^ n) 2
  have b1 := Int.emod_nonneg x (show (2 : Int) ^ n ≠ 0 by omega)
  have b2 := Int.emod_lt_of_pos x hp
  have b3 := Int.emod_two_eq (x / 2 ^ n)
  have hs : (2 : Int) ^ (n + 1) = 2 ^ n * 2 := by rw [Int.pow_succ]
  rw [hs]
  have hx : x = (x % 2 ^ n + 2 ^ n * (x / 2 ^ n % 2)) + 2 ^ n * 2 * (x / 2 ^ n / 2) := by
    rw [Int.mul_assoc, Int.add_assoc, ← Int.mul_add, e2]; exact e1.symm
  have hr : 0 ≤ x % 2 ^ n + 2 ^ n * (x / 2 ^ n % 2) ∧ x % 2 ^ n + 2 ^ n * (x / 2 ^ n % 2) < 2 ^ n * 2 := by
    rcases b3 with b3 | b3 <;> rw [b3] <;> omega
  generalize x % 2 ^ n + 2 ^ n * (x / 2 ^ n % 2) = r at *
  rw [hx, Int.add_mul_emod_self_left, Int.emod_eq_of_lt hr.1 hr.2]

/-- The number that the first k places hold, the lowest bit's first. -/
def getN (d : List UInt8) (ps : List Nat) : Nat → Nat
  | 0 => 0
  | k + 1 => getN d ps k + if bitL d (ps.getD k 0) then 2 ^ k else 0
theorem getN_lt (d : List UInt8) (ps : List Nat) : ∀ k, getN d ps k < 2 ^ k
  | 0 => by simp [getN]
  | k + 1 => by
    have := getN_lt d ps k
    rw [getN, Nat.pow_succ]
    split <;> omega
theorem getN_or (d : List UInt8) (ps : List Nat) (k : Nat) : getN d ps k ||| (if bitL d (ps.getD k 0) then 2 ^ k else 0) = getN d ps (k + 1) := by
  have h := getN_lt d ps k
  rw [getN]
  split
  · rw [Nat.or_comm, Nat.add_comm]
    have := Nat.two_pow_add_eq_or_of_lt h 1
    simpa using this.symm
  · simp
/-- With the sign, of w bits. -/
def sgnI (n w : Nat) (b : Bool) : Int := if b = true ∧ 2 ^ (w - 1) ≤ n then (n : Int) - 2 ^ w else n
def getF (d : List UInt8) (s : Sg) : Int := sgnI (getN d (plL s) (plL s).length) (plL s).length s.sgn
theorem getN_congr {d d2 : List UInt8} {ps : List Nat} : ∀ k, (∀ i < k, bitL d (ps.getD i 0) = bitL d2 (ps.getD i 0)) → getN d ps k = getN d2 ps k
  | 0, _ => rfl
  | k + 1, h => by rw [getN, getN, getN_congr k (fun i hi => h i (by omega)), h k (by omega)]
theorem getF_congr {d d2 : List UInt8} {s : Sg} (h : ∀ p ∈ plL s, bitL d p = bitL d2 p) : getF d s = getF d2 s := by
  unfold getF
  rw [getN_congr (d2 := d2) _ (fun i hi => by rw [List.getD_eq_getElem?_getD, List.getElem?_eq_getElem hi]; exact h _ (List.getElem_mem hi))]
theorem getN_val {d : List UInt8} {ps : List Nat} (v : Int) : ∀ k, k ≤ ps.length → (∀ i (hi : i < k) (hi2 : i < ps.length), bitL d ps[i] = vbit v i) → (getN d ps k : Int) = v % 2 ^ k
  | 0, _, _ => by simp [getN, Int.emod_one]
  | k + 1, hk, h => by
    have ih := getN_val v k (by omega) (fun i hi hi2 => h i (by omega) hi2)
    have hb := h k (by omega) (by omega)
    have hg : ps.getD k 0 = ps[k] := by rw [List.getD_eq_getElem?_getD, List.getElem?_eq_getElem (by omega)]; rfl
    rw [getN, hg, hb, mod_succ, Int.natCast_add, ih]
    unfold vbit
    have h2 := Int.emod_two_eq (v / 2 ^ k)
    by_cases h1 : v / 2 ^ k % 2 = 1
    · rw [if_pos (by simpa using h1), h1]; simp
    · have h0 : v / 2 ^ k % 2 = 0 := by omega
      rw [if_neg (by simpa using h1), h0]; simp
/-- What was put is taken out. -/
theorem get_val {d : List UInt8} {s : Sg} {v : Int} (hne : plL s ≠ []) (hv : v < 9223372036854775808) (hf : fitsB s v = true) (h : ∀ i (hi : i < (plL s).length), bitL d (plL s)[i] = vbit v i) : getF d s = v := by
  obtain ⟨hl, hw1, hw2⟩ := plL_length hne
  have hm := (may_iff.1 (plL_may hne).1).2.2.2.2
  have hn := getN_val (d := d) (ps := plL s) v _ (Nat.le_refl _) (fun i _ hi2 => h i hi2)
  unfold getF
  generalize hN : getN d (plL s) (plL s).length = N at *
  rw [hl] at hn ⊢
  obtain ⟨w, hw⟩ : ∃ w, s.width.toNat = w + 1 := ⟨s.width.toNat - 1, by omega⟩
  rw [hw] at hn ⊢
  have hp : (0 : Int) < 2 ^ w := Int.pow_pos (by omega)
  have hs : (2 : Int) ^ (w + 1) = 2 ^ w * 2 := Int.pow_succ _ _
  have hc : ((2 ^ w : Nat) : Int) = 2 ^ w := by simp
  unfold fitsB at hf
  unfold sgnI
  rw [hs] at hn ⊢
  simp only [Nat.add_sub_cancel]
  cases hb : s.sgn with
  | true =>
    rw [hb, if_pos rfl, decide_eq_true_eq] at hf
    have : (s.width - 1).toNat = w := by omega
    rw [this] at hf
    have e1 := Int.emod_add_mul_ediv v (2 ^ w)
    have b1 := Int.emod_nonneg v (show (2 : Int) ^ w ≠ 0 by omega)
    have b2 := Int.emod_lt_of_pos v hp
    rcases hf with hf | hf
    · rw [hf] at e1
      have ev : v % (2 ^ w * 2) = v := Int.emod_eq_of_lt (by omega) (by omega)
      rw [ev] at hn
      rw [if_neg (by omega), hn]
    · rw [hf] at e1
      have ev : v % (2 ^ w * 2) = v + 2 ^ w * 2 := by
        have := Int.add_mul_emod_self_left v (2 ^ w * 2) 1
        rw [← this, Int.mul_one]
        exact Int.emod_eq_of_lt (by omega) (by omega)
      rw [ev] at hn
      rw [if_pos ⟨rfl, by omega⟩]
      omega
  | false =>
    rw [hb] at hf
    simp only [Bool.false_eq_true, if_false, decide_eq_true_eq] at hf
    rw [if_neg (by simp), hn]
    refine Int.emod_eq_of_lt hf.1 ?_
    rcases hf.2 with h2 | h2
    · have : ¬ s.width = 64 := fun e => hm ⟨e, hb⟩
      have : w = 62 := by omega
      subst this
      omega
    · rw [hw, hs] at h2
      have e1 := Int.emod_add_mul_ediv v (2 ^ w * 2)
      have b2 := Int.emod_lt_of_pos v (show (0 : Int) < 2 ^ w * 2 by omega)
      rw [h2] at e1
      omega
end SG
namespace PD
open SG

/-- What is unpacked. -/
def unV (L : Ly) (d : List UInt8) : List Int := L.sgs.map (getF d)
def newB (d : List UInt8) (a : Int) : Bool := if 0 ≤ a then bitL d a.toNat else true
def unN (L : Ly) (d : List UInt8) : List Bool := L.nws.map (newB d)
/-- What the first k bits that tell of new ones cleared makes. -/
def clrN (nws : List Int) (d : List UInt8) : Nat → List UInt8
  | 0 => d
  | k + 1 => if 0 ≤ nws.getD k 0 then setB (clrN nws d k) (nws.getD k 0).toNat false else clrN nws d k
def clrF (L : Ly) (d : List UInt8) : List UInt8 := clrN L.nws d L.nws.length
theorem clrN_length (nws : List Int) (d : List UInt8) : ∀ k, (clrN nws d k).length = d.length
  | 0 => rfl
  | k + 1 => by rw [clrN]; split <;> simp [setB_length, clrN_length nws d k]
theorem clrN_bit {nws : List Int} {d : List UInt8} (hb : ∀ a ∈ nws, a < 8 * (d.length : Int)) : ∀ k, k ≤ nws.length →
    (∀ i (hi : i < k) (hi2 : i < nws.length), 0 ≤ nws[i] → bitL (clrN nws d k) nws[i].toNat = false) ∧ ∀ q : Nat, (∀ i (hi : i < k) (hi2 : i < nws.length), nws[i] ≠ (q : Int)) → bitL (clrN nws d k) q = bitL d q
  | 0, _ => ⟨fun i hi => absurd hi (Nat.not_lt_zero _), fun q _ => rfl⟩
  | k + 1, hk => by
    obtain ⟨i1, i2⟩ := clrN_bit hb k (by omega)
    have hg : nws.getD k 0 = nws[k] := by rw [List.getD_eq_getElem?_getD, List.getElem?_eq_getElem (by omega)]; rfl
    have hb2 := hb _ (List.getElem_mem (show k < nws.length by omega))
    rw [clrN, hg]
    by_cases h0 : 0 ≤ nws[k]
    · rw [if_pos h0]
      have hlt : nws[k].toNat < 8 * (clrN nws d k).length := by rw [clrN_length]; omega
      refine ⟨?_, ?_⟩
      · intro i hi hi2 hi0
        rw [setB_bit hlt]
        split
        · rfl
        · rename_i hne
          refine i1 i ?_ hi2 hi0
          rcases Nat.lt_or_eq_of_le (Nat.le_of_lt_succ hi) with h | h
          · exact h
          · subst h; exact absurd rfl hne
      · intro q hq
        rw [setB_bit hlt, if_neg (fun e => hq k (by omega) (by omega) (by omega))]
        exact i2 q (fun i hi hi2 => hq i (by omega) hi2)
    · rw [if_neg h0]
      refine ⟨?_, fun q hq => i2 q (fun i hi hi2 => hq i (by omega) hi2)⟩
      intro i hi hi2 hi0
      refine i1 i ?_ hi2 hi0
      rcases Nat.lt_or_eq_of_le (Nat.le_of_lt_succ hi) with h | h
      · exact h
      · subst h; exact absurd hi0 h0
theorem right_news {L : Ly} {d : List UInt8} (h : rightB L = true) (hd : (d.length : Int) = L.size) : ∀ a ∈ L.nws, a < 8 * (d.length : Int) := fun a ha => by rw [hd]; exact ((right_iff.1 h).2.2.2.2.2.1 a ha).2
theorem clrF_length (L : Ly) (d : List UInt8) : (clrF L d).length = d.length := clrN_length _ _ _

/-- Cleared: values stand, nothing is new that has a bit for that; cleared again: the same. -/
theorem clr_vals {L : Ly} {d : List UInt8} (h : rightB L = true) (hd : (d.length : Int) = L.size) : unV L (clrF L d) = unV L d := by
  unfold unV
  refine List.map_congr_left ?_
  intro s hs
  obtain ⟨i, hi, rfl⟩ := List.mem_iff_getElem.1 hs
  refine getF_congr ?_
  intro p hp
  exact (clrN_bit (right_news h hd) _ (Nat.le_refl _)).2 p (fun k _ hk2 e => apart_new h hi hk2 hp e)
theorem clr_news {L : Ly} {d : List UInt8} (h : rightB L = true) (hd : (d.length : Int) = L.size) : unN L (clrF L d) = L.nws.map (fun a => decide (a < 0)) := by
  unfold unN
  refine List.map_congr_left ?_
  intro a ha
  obtain ⟨i, hi, rfl⟩ := List.mem_iff_getElem.1 ha
  unfold newB
  by_cases h0 : 0 ≤ L.nws[i]
  · rw [if_pos h0]
    have := (clrN_bit (right_news h hd) _ (Nat.le_refl _)).1 i hi hi h0
    unfold clrF
    rw [this]
    exact (decide_eq_false (by omega)).symm
  · rw [if_neg h0]
    exact (decide_eq_true (by omega)).symm
theorem clr_clr {L : Ly} {d : List UInt8} (h : rightB L = true) (hd : (d.length : Int) = L.size) : clrF L (clrF L d) = clrF L d := by
  have hl := clrF_length L d
  have hd2 : ((clrF L d).length : Int) = L.size := by rw [hl]; exact hd
  have c1 := clrN_bit (right_news h hd) _ (Nat.le_refl _)
  have c2 := clrN_bit (right_news h hd2) _ (Nat.le_refl _)
  refine bits_eq (by rw [clrF_length]) ?_
  intro q _
  by_cases hq : ∃ i, ∃ (hi : i < L.nws.length), L.nws[i] = (q : Int)
  · obtain ⟨i, hi, e⟩ := hq
    have a1 := c1.1 i hi hi (by omega)
    have a2 := c2.1 i hi hi (by omega)
    have : L.nws[i].toNat = q := by omega
    rw [this] at a1 a2
    exact a2.trans a1.symm
  · exact c2.2 q (fun i _ hi2 e => hq ⟨i, hi2, e⟩)
/-- What is packed is unpacked. -/
theorem pack_vals {L : Ly} (h : rightB L = true) (vs : List Int) (nb : List Bool) (fill : UInt8) (hvl : vs.length = L.sgs.length) (hv : ∀ v ∈ vs, v < 9223372036854775808) (hf : fitAll L vs) : unV L (packF L vs nb fill) = vs := by
  have hl : (List.replicate L.size.toNat fill).length = L.size.toNat := List.length_replicate
  obtain ⟨a1, _, _⟩ := pack_bits h _ hl vs nb L.sgs.length (Nat.le_refl _)
  apply List.ext_getElem
  · simp [unV, hvl]
  · intro i h1 h2
    have hi : i < L.sgs.length := by omega
    have hg : vs.getD i 0 = vs[i] := by rw [List.getD_eq_getElem?_getD, List.getElem?_eq_getElem h2]; rfl
    have hgs : L.sgs.getD i dflt = L.sgs[i] := by rw [List.getD_eq_getElem?_getD, List.getElem?_eq_getElem hi]; rfl
    have hfi := hf i hi
    rw [hg, hgs] at hfi
    have hrs := rightS_iff.1 ((right_iff.1 h).2.2.2.2.1 _ (List.getElem_mem hi))
    simp only [unV, List.getElem_map]
    refine get_val hrs.1 (hv _ (List.getElem_mem h2)) hfi ?_
    intro j hj
    have := a1 i hi hi j hj
    rw [hg] at this
    exact this
theorem pack_news {L : Ly} (h : rightB L = true) (vs : List Int) (nb : List Bool) (fill : UInt8) {i : Nat} (hi : i < L.nws.length) : newB (packF L vs nb fill) L.nws[i] = (nb.getD i false || decide (L.nws[i] < 0)) := by
  have hl : (List.replicate L.size.toNat fill).length = L.size.toNat := List.length_replicate
  obtain ⟨_, a2, _⟩ := pack_bits h _ hl vs nb L.sgs.length (Nat.le_refl _)
  have hns := (right_iff.1 h).2.2.2.1
  unfold newB
  by_cases h0 : 0 ≤ L.nws[i]
  · have := a2 i (by omega) hi h0
    unfold packF
    rw [if_pos h0, this, decide_eq_false (by omega), Bool.or_false]
  · rw [if_neg h0, decide_eq_true (by omega), Bool.or_true]
/-- A bit that is no signal's, and tells of no new one, is fill's. -/
theorem pack_fill {L : Ly} (h : rightB L = true) (vs : List Int) (nb : List Bool) (fill : UInt8) {q : Nat} (hq : q < 8 * L.size.toNat) (h1 : ∀ s ∈ L.sgs, q ∉ plL s) (h2 : ∀ a ∈ L.nws, a ≠ (q : Int)) : bitL (packF L vs nb fill) q = fill.toNat.testBit (q % 8) := by
  have hl : (List.replicate L.size.toNat fill).length = L.size.toNat := List.length_replicate
  obtain ⟨_, _, a3⟩ := pack_bits h _ hl vs nb L.sgs.length (Nat.le_refl _)
  unfold packF
  rw [a3 q (fun i _ hi2 => h1 _ (List.getElem_mem hi2)) (fun i _ hi2 => h2 _ (List.getElem_mem hi2))]
  unfold bitL
  rw [List.getD_eq_getElem?_getD, List.getElem?_replicate, if_pos (by omega)]
  rfl
/-- Why bytes are none of a layout's. -/
def wellL (L : Ly) (n : Nat) : Int := if rightB L = false then 1 else if (n : Int) ≠ L.size then 23 else 0
theorem wellL_zero {L : Ly} {n : Nat} : wellL L n = 0 ↔ rightB L = true ∧ (n : Int) = L.size := by
  unfold wellL
  cases rightB L with
  | false => simp
  | true =>
    by_cases h : (n : Int) = L.size
    · simp [h]
    · simp [h]
end PD
end Go.Proofs.YtnhegnneohpkaaaGreat
