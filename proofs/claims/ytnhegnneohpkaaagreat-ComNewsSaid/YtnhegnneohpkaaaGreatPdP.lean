/- Layouts, plainly: which may be, what values are packed as. No program in sight. -/
import Derived.Test.YtnhegnneohpkaaaGreatMgFin
namespace Go.Proofs.YtnhegnneohpkaaaGreat
namespace PD
open SG

structure Ly where
  size : Int
  sgs : List Sg
  nws : List Int

def cntL (sgs : List Sg) (nws : List Int) (p : Nat) : Nat := (sgs.flatMap plL).count p + nws.countP (fun a => a == (p : Int))
def rightB (L : Ly) : Bool := decide (0 ≤ L.size ∧ L.size ≤ 8 ∧ L.sgs.length ≤ 16 ∧ L.nws.length = L.sgs.length) && (L.sgs.all (fun s => rightS s L.size) && (L.nws.all (fun a => decide (-1 ≤ a ∧ a < 8 * L.size)) && (List.range 64).all (fun p => decide (cntL L.sgs L.nws p ≤ 1))))
theorem right_iff {L : Ly} : rightB L = true ↔ 0 ≤ L.size ∧ L.size ≤ 8 ∧ L.sgs.length ≤ 16 ∧ L.nws.length = L.sgs.length ∧ (∀ s ∈ L.sgs, rightS s L.size = true) ∧ (∀ a ∈ L.nws, -1 ≤ a ∧ a < 8 * L.size) ∧ ∀ p < 64, cntL L.sgs L.nws p ≤ 1 := by
  unfold rightB
  simp only [Bool.and_eq_true, decide_eq_true_eq, List.all_eq_true, List.mem_range, and_assoc]

/-- Places of two signals, of a signal and a new's bit, of two new's bits are apart. -/
theorem count_flat {L : List Sg} {i : Nat} (hi : i < L.length) (p : Nat) : (plL L[i]).count p ≤ (L.flatMap plL).count p := by
  induction L generalizing i with
  | nil => exact absurd hi (by simp)
  | cons x L ih =>
    rw [List.flatMap_cons, List.count_append]
    cases i with
    | zero => simp
    | succ i => have := ih (i := i) (by simpa using hi); simp only [List.getElem_cons_succ]; omega
theorem count_flat2 {L : List Sg} {i k : Nat} (hik : i < k) (hk : k < L.length) (p : Nat) : (plL (L[i]'(by omega))).count p + (plL L[k]).count p ≤ (L.flatMap plL).count p := by
  induction L generalizing i k with
  | nil => exact absurd hk (by simp)
  | cons x L ih =>
    rw [List.flatMap_cons, List.count_append]
    obtain ⟨k, rfl⟩ : ∃ k', k = k' + 1 := ⟨k - 1, by omega⟩
    have hk' : k < L.length := by simpa using hk
    cases i with
    | zero => have := count_flat hk' p; simp only [List.getElem_cons_zero, List.getElem_cons_succ]; omega
    | succ i => have := ih (i := i) (k := k) (by omega) hk'; simp only [List.getElem_cons_succ]; omega
theorem apart {L : Ly} (h : rightB L = true) {i k : Nat} (hne : i ≠ k) (hi : i < L.sgs.length) (hk : k < L.sgs.length) {p : Nat} (h1 : p ∈ plL L.sgs[i]) (h2 : p ∈ plL L.sgs[k]) : False := by
  have hr := (right_iff.1 h).2.2.2.2.2.2 p (plL_lt h1)
  have c1 := List.count_pos_iff.2 h1
  have c2 := List.count_pos_iff.2 h2
  unfold cntL at hr
  rcases Nat.lt_or_gt_of_ne hne with h | h
  · have := count_flat2 h hk p; omega
  · have := count_flat2 h hi p; omega
theorem countP_pos {l : List Int} {i : Nat} (hi : i < l.length) : 0 < l.countP (fun a => a == l[i]) := List.countP_pos_iff.2 ⟨l[i], List.getElem_mem hi, by simp⟩
theorem apart_new {L : Ly} (h : rightB L = true) {i k : Nat} (hi : i < L.sgs.length) (hk : k < L.nws.length) {p : Nat} (h1 : p ∈ plL L.sgs[i]) (h2 : L.nws[k] = (p : Int)) : False := by
  have hr := (right_iff.1 h).2.2.2.2.2.2 p (plL_lt h1)
  have c1 := List.count_pos_iff.2 h1
  have c2 := countP_pos hk
  have := count_flat hi p
  rw [h2] at c2
  unfold cntL at hr
  omega
theorem countP_two {l : List Int} {i k : Nat} (hik : i < k) (hk : k < l.length) {a : Int} (h1 : l[i]'(by omega) = a) (h2 : l[k] = a) : 2 ≤ l.countP (fun x => x == a) := by
  induction l generalizing i k with
  | nil => exact absurd hk (by simp)
  | cons x l ih =>
    obtain ⟨k, rfl⟩ : ∃ k', k = k' + 1 := ⟨k - 1, by omega⟩
    have hk' : k < l.length := by simpa using hk
    simp only [List.getElem_cons_succ] at h2
    cases i with
    | zero =>
      simp only [List.getElem_cons_zero] at h1
      have := countP_pos hk'
      rw [h2] at this
      rw [List.countP_cons_of_pos (by simp [h1])]
      omega
    | succ i =>
      simp only [List.getElem_cons_succ] at h1
      have := ih (i := i) (k := k) (by omega) hk' h1 h2
      rw [List.countP_cons]
      omega
theorem apart_news {L : Ly} (h : rightB L = true) {i k : Nat} (hne : i ≠ k) (hi : i < L.nws.length) (hk : k < L.nws.length) (h0 : 0 ≤ L.nws[i]) (he : L.nws[i] = L.nws[k]) : False := by
  have hr := right_iff.1 h
  have hb := hr.2.2.2.2.2.1 _ (List.getElem_mem hi)
  obtain ⟨p, hp⟩ := Int.eq_ofNat_of_zero_le h0
  have hc := hr.2.2.2.2.2.2 p (by omega)
  unfold cntL at hc
  rcases Nat.lt_or_gt_of_ne hne with h | h
  · have := countP_two h hk hp (he ▸ hp); omega
  · have := countP_two h hi (he ▸ hp) hp; omega

def dflt : Sg := ⟨0, 0, false, false⟩
/-- What k values are packed as, upon l0. -/
def packN (l0 : List UInt8) (L : Ly) (vs : List Int) (nb : List Bool) : Nat → List UInt8
  | 0 => l0
  | k + 1 => if 0 ≤ L.nws.getD k 0 then setB (putF (packN l0 L vs nb k) (plL (L.sgs.getD k dflt)) (vs.getD k 0)) (L.nws.getD k 0).toNat (nb.getD k false) else putF (packN l0 L vs nb k) (plL (L.sgs.getD k dflt)) (vs.getD k 0)
theorem packN_length (l0 : List UInt8) (L : Ly) (vs : List Int) (nb : List Bool) (k : Nat) : (packN l0 L vs nb k).length = l0.length := by
  induction k with
  | zero => rfl
  | succ k ih => rw [packN]; split <;> simp [setB_length, putF_length, ih]
def packF (L : Ly) (vs : List Int) (nb : List Bool) (fill : UInt8) : List UInt8 := packN (List.replicate L.size.toNat fill) L vs nb L.sgs.length
/-- Do all values fit? -/
def fitAll (L : Ly) (vs : List Int) : Prop := ∀ k, k < L.sgs.length → fitsB (L.sgs.getD k dflt) (vs.getD k 0) = true
theorem packF_length (L : Ly) (vs : List Int) (nb : List Bool) (fill : UInt8) : (packF L vs nb fill).length = L.size.toNat := by rw [packF, packN_length, List.length_replicate]

theorem pack_bits {L : Ly} (h : rightB L = true) (l0 : List UInt8) (hl : l0.length = L.size.toNat) (vs : List Int) (nb : List Bool) : ∀ k, k ≤ L.sgs.length →
    (∀ i (hi : i < k) (hi2 : i < L.sgs.length) j (hj : j < (plL L.sgs[i]).length), bitL (packN l0 L vs nb k) (plL L.sgs[i])[j] = vbit (vs.getD i 0) j) ∧
    (∀ i (hi : i < k) (hi2 : i < L.nws.length), 0 ≤ L.nws[i] → bitL (packN l0 L vs nb k) L.nws[i].toNat = nb.getD i false) ∧
    ∀ q, (∀ i (hi : i < k) (hi2 : i < L.sgs.length), q ∉ plL L.sgs[i]) → (∀ i (hi : i < k) (hi2 : i < L.nws.length), L.nws[i] ≠ (q : Int)) → bitL (packN l0 L vs nb k) q = bitL l0 q := by
  have hr := right_iff.1 h
  intro k
  induction k with
  | zero => intro _; exact ⟨fun i hi => absurd hi (Nat.not_lt_zero _), fun i hi => absurd hi (Nat.not_lt_zero _), fun q _ _ => rfl⟩
  | succ k ih =>
    intro hk
    have hk' : k < L.sgs.length := by omega
    have hkn : k < L.nws.length := by rw [hr.2.2.2.1]; exact hk'
    obtain ⟨i1, i2, i3⟩ := ih (by omega)
    have hs : L.sgs.getD k dflt = L.sgs[k] := by simp [List.getD_eq_getElem?_getD, hk']
    have hn : L.nws.getD k 0 = L.nws[k] := by simp [List.getD_eq_getElem?_getD, hkn]
    have hlen := packN_length l0 L vs nb k
    have hrs := rightS_iff.1 (hr.2.2.2.2.1 _ (List.getElem_mem hk'))
    have hpl : ∀ p ∈ plL L.sgs[k], p < 8 * (packN l0 L vs nb k).length := by intro p hp; have := hrs.2.2.2 p hp; rw [hlen, hl]; omega
    have hnd := plL_nodup L.sgs[k]
    -- the bits behind the value
    have A1 : ∀ i (hi : i < k + 1) (hi2 : i < L.sgs.length) j (hj : j < (plL L.sgs[i]).length), bitL (putF (packN l0 L vs nb k) (plL L.sgs[k]) (vs.getD k 0)) (plL L.sgs[i])[j] = vbit (vs.getD i 0) j := by
      intro i hi hi2 j hj
      by_cases e : i = k
      · subst e; exact putF_in _ hnd hpl hj
      · rw [putF_out _ hnd hpl (fun hm => apart h e hi2 hk' (List.getElem_mem hj) hm)]
        exact i1 i (by omega) hi2 j hj
    have A2 : ∀ i (hi : i < k) (hi2 : i < L.nws.length), 0 ≤ L.nws[i] → bitL (putF (packN l0 L vs nb k) (plL L.sgs[k]) (vs.getD k 0)) L.nws[i].toNat = nb.getD i false := by
      intro i hi hi2 h0
      rw [putF_out _ hnd hpl (fun hm => apart_new h hk' hi2 hm (by omega))]
      exact i2 i hi hi2 h0
    have A3 : ∀ q, (∀ i (hi : i < k + 1) (hi2 : i < L.sgs.length), q ∉ plL L.sgs[i]) → (∀ i (hi : i < k) (hi2 : i < L.nws.length), L.nws[i] ≠ (q : Int)) → bitL (putF (packN l0 L vs nb k) (plL L.sgs[k]) (vs.getD k 0)) q = bitL l0 q := by
      intro q h1 h2
      rw [putF_out _ hnd hpl (h1 k (by omega) hk')]
      exact i3 q (fun i hi hi2 => h1 i (by omega) hi2) h2
    rw [packN, hs, hn]
    by_cases h0 : 0 ≤ L.nws[k]
    · rw [if_pos h0]
      have hb := hr.2.2.2.2.2.1 _ (List.getElem_mem hkn)
      have hlt : L.nws[k].toNat < 8 * (putF (packN l0 L vs nb k) (plL L.sgs[k]) (vs.getD k 0)).length := by rw [putF_length, hlen, hl]; omega
      refine ⟨?_, ?_, ?_⟩
      · intro i hi hi2 j hj
        rw [setB_bit hlt, if_neg (fun e => apart_new h hi2 hkn (List.getElem_mem hj) (by omega))]
        exact A1 i hi hi2 j hj
      · intro i hi hi2 hi0
        rw [setB_bit hlt]
        by_cases e : i = k
        · subst e; rw [if_pos rfl]
        · rw [if_neg (fun e2 => apart_news h e hi2 hkn hi0 (by omega))]
          exact A2 i (by omega) hi2 hi0
      · intro q h1 h2
        rw [setB_bit hlt, if_neg (fun e => h2 k (by omega) hkn (by omega))]
        exact A3 q h1 (fun i hi hi2 => h2 i (by omega) hi2)
    · rw [if_neg h0]
      refine ⟨A1, ?_, fun q h1 h2 => A3 q h1 (fun i hi hi2 => h2 i (by omega) hi2)⟩
      intro i hi hi2 hi0
      have e : i ≠ k := fun e => h0 (by subst e; exact hi0)
      exact A2 i (by omega) hi2 hi0

theorem bits_eq {a b : List UInt8} (hl : a.length = b.length) (h : ∀ q < 8 * a.length, bitL a q = bitL b q) : a = b := by
  apply List.ext_getElem hl
  intro i h1 h2
  apply UInt8.toNat_inj.1
  apply Nat.eq_of_testBit_eq
  intro j
  by_cases hj : j < 8
  · have := h (8 * i + j) (by omega)
    unfold bitL at this
    have e1 : (8 * i + j) / 8 = i := by omega
    have e2 : (8 * i + j) % 8 = j := by omega
    rw [e1, e2] at this
    simpa [List.getD_eq_getElem?_getD, h1, h2] using this
  · have b1 := UInt8.toNat_lt a[i]
    have b2 := UInt8.toNat_lt b[i]
    have hp : (256 : Nat) ≤ 2 ^ j := Nat.le_trans (by decide) (Nat.pow_le_pow_right (by omega) (show 8 ≤ j by omega))
    rw [Nat.testBit_lt_two_pow (by omega), Nat.testBit_lt_two_pow (by omega)]

/-- PduOne. -/
theorem one_out {L : Ly} (h : rightB L = true) (vs : List Int) (nb : List Bool) (fill : UInt8) {at_ : Nat} (v : Int) {x : Nat} (hx : x ∉ plL (L.sgs.getD at_ dflt)) : bitL (packF L vs nb fill) x = bitL (packF L (vs.set at_ v) nb fill) x := by
  have hr := right_iff.1 h
  have hl : (List.replicate L.size.toNat fill).length = L.size.toNat := List.length_replicate
  obtain ⟨a1, a2, a3⟩ := pack_bits h _ hl vs nb L.sgs.length (Nat.le_refl _)
  obtain ⟨b1, b2, b3⟩ := pack_bits h _ hl (vs.set at_ v) nb L.sgs.length (Nat.le_refl _)
  unfold packF
  by_cases h1 : ∃ i, ∃ (hi : i < L.sgs.length), x ∈ plL L.sgs[i]
  · obtain ⟨i, hi, hm⟩ := h1
    obtain ⟨j, hj, rfl⟩ := List.mem_iff_getElem.1 hm
    have hne : i ≠ at_ := by
      intro e; subst e
      apply hx
      rw [List.getD_eq_getElem?_getD, List.getElem?_eq_getElem hi]
      exact hm
    rw [a1 i hi hi j hj, b1 i hi hi j hj, List.getD_eq_getElem?_getD, List.getD_eq_getElem?_getD, List.getElem?_set_ne (fun e => hne e.symm)]
  · by_cases h2 : ∃ i, ∃ (hi : i < L.nws.length), L.nws[i] = (x : Int)
    · obtain ⟨i, hi, hm⟩ := h2
      have e1 := a2 i (by omega) hi (by omega)
      have e2 := b2 i (by omega) hi (by omega)
      have ex : L.nws[i].toNat = x := by omega
      rw [ex] at e1 e2
      rw [e1, e2]
    · rw [a3 x (fun i hi hi2 hm => h1 ⟨i, hi2, hm⟩) (fun i hi hi2 hm => h2 ⟨i, hi2, hm⟩), b3 x (fun i hi hi2 hm => h1 ⟨i, hi2, hm⟩) (fun i hi hi2 hm => h2 ⟨i, hi2, hm⟩)]
theorem one_same {L : Ly} (h : rightB L = true) (vs : List Int) (nb : List Bool) (fill : UInt8) {at_ : Nat} (ha : at_ < L.sgs.length) (hvl : vs.length = L.sgs.length) (v : Int)
    (hv : v < 9223372036854775808) (hu : vs.getD at_ 0 < 9223372036854775808) (h1 : fitAll L vs) (h2 : fitAll L (vs.set at_ v)) : packF L vs nb fill = packF L (vs.set at_ v) nb fill ↔ v = vs.getD at_ 0 := by
  have hr := right_iff.1 h
  have hl : (List.replicate L.size.toNat fill).length = L.size.toNat := List.length_replicate
  have hga : vs.getD at_ 0 = vs[at_]'(by omega) := by simp [List.getD_eq_getElem?_getD, show at_ < vs.length by omega]
  constructor
  · intro he
    have f1 := h1 at_ ha
    have f2 := h2 at_ ha
    have hg : (vs.set at_ v).getD at_ 0 = v := by simp [List.getD_eq_getElem?_getD, show at_ < vs.length by omega]
    rw [hg] at f2
    have hs : L.sgs.getD at_ dflt = L.sgs[at_] := by simp [List.getD_eq_getElem?_getD, ha]
    rw [hs] at f1 f2
    have hrs := rightS_iff.1 (hr.2.2.2.2.1 _ (List.getElem_mem ha))
    have hpl := plL_length hrs.1
    have hm := (may_iff.1 (plL_may hrs.1).1).2.2.2.2
    refine fits_eq hpl.2.1 hpl.2.2 hm hv hu f2 f1 ?_
    intro j hj
    have hj' : j < (plL L.sgs[at_]).length := by rw [hpl.1]; exact hj
    have a1 := (pack_bits h _ hl vs nb L.sgs.length (Nat.le_refl _)).1 at_ ha ha j hj'
    have b1 := (pack_bits h _ hl (vs.set at_ v) nb L.sgs.length (Nat.le_refl _)).1 at_ ha ha j hj'
    unfold packF at he
    rw [he, b1, hg] at a1
    exact a1
  · intro he
    have : vs.set at_ v = vs := by rw [he, hga]; exact List.set_getElem_self _
    rw [this]
end PD
end Go.Proofs.YtnhegnneohpkaaaGreat
