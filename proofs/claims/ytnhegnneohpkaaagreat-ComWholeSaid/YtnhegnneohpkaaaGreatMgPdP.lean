/- Layouts, plainly: which may be, what values are packed as. No program in sight. -/
import Derived.Test.YtnhegnneohpkaaaGreatMgFin
import Derived.Test.YtnhegnneohpkaaaGreatMem
import Derived.OrdersHeld
namespace Go.Proofs.YtnhegnneohpkaaaGreat
namespace PD
open SG

structure Ly where
  size : Int
  sgs : List Sg
  nws : List Int

def cntL (sgs : List Sg) (nws : List Int) (p : Nat) : Nat := (sgs.flatMap plL).count p + nws.countP (fun a => a == (p : Int))
def rightB (L : Ly) : Bool := decide (0 ≤ L.size ∧ L.size ≤ 8 ∧ L.sgs.length ≤ 16 ∧ L.nws.length = L.sgs.length) && (L.sgs.all (fun s => rightS s L.size) && (L.nws.all (fun a => decide (-1 ≤ a ∧ a < 8 * L.size)) && (List.range 64).all (fun p => decide (cntL L.sgs L.nws p ≤ 1))))
theorem right_iff {L : Ly} : rightB L = true ↔ 0 ≤ L.size ∧ L.size ≤ 8 ∧ L.sgs.length ≤ 16 ∧ L.nws.length = L.sgs.length ∧ (∀ s ∈ L.sgs, rightS s L.size = true) ∧ (∀ a ∈ L.nws, -1 ≤ a ∧ a < 8 * L.size) ∧ ∀ p < 64, cntL L.sgs L.nws p ≤ 1 := by
  unfold rightB
  simp only [Bool.and_eq_true, decide_eq_true_eq, List.all_eq_true, List.mem_range, and_assoc]

/-- Places of two signals, of a signal and a new's bit, of two new's bits are apart. -/
theorem count_flat {L : List Sg} {i : Nat} (hi : i < L.length) (p : Nat) : (plL L[i]).count p ≤ (L.flatMap plL).count p := by
  induction L generalizing i with
  | nil => exact absurd hi (by simp)
  | cons x L ih =>
    rw [List.flatMap_cons, List.count_append]
    cases i with
    | zero => simp
    | succ i => have := ih (i := i) (by simpa using hi); simp only [List.getElem_cons_succ]; omega
theorem count_flat2 {L : List Sg} {i k : Nat} (hik : i < k) (hk : k < L.length) (p : Nat) : (plL (L[i]'(by omega))).count p + (plL L[k]).count p ≤ (L.flatMap plL).count p := by
  induction L generalizing i k with
  | nil => exact absurd hk (by simp)
  | cons x L ih =>
    rw [List.flatMap_cons, List.count_append]
    obtain ⟨k, rfl⟩ : ∃ k', k = k' + 1 := ⟨k - 1, by omega⟩
    have hk' : k < L.length := by simpa using hk
    cases i with
    | zero => have := count_flat hk' p; simp only [List.getElem_cons_zero, List.getElem_cons_succ]; omega
    | succ i => have := ih (i := i) (k := k) (by omega) hk'; simp only [List.getElem_cons_succ]; omega
theorem apart {L : Ly} (h : rightB L = true) {i k : Nat} (hne : i ≠ k) (hi : i < L.sgs.length) (hk : k < L.sgs.length) {p : Nat} (h1 : p ∈ plL L.sgs[i]) (h2 : p ∈ plL L.sgs[k]) : False := by
  have hr := (right_iff.1 h).2.2.2.2.2.2 p (plL_lt h1)
  have c1 := List.count_pos_iff.2 h1
  have c2 := List.count_pos_iff.2 h2
  unfold cntL at hr
  rcases Nat.lt_or_gt_of_ne hne with h | h
  · have := count_flat2 h hk p; omega
  · have := count_flat2 h hi p; omega
theorem countP_pos {l : List Int} {i : Nat} (hi : i < l.length) : 0 < l.countP (fun a => a == l[i]) := List.countP_pos_iff.2 ⟨l[i], List.getElem_mem hi, by simp⟩
theorem apart_new {L : Ly} (h : rightB L = true) {i k : Nat} (hi : i < L.sgs.length) (hk : k < L.nws.length) {p : Nat} (h1 : p ∈ plL L.sgs[i]) (h2 : L.nws[k] = (p : Int)) : False := by
  have hr := (right_iff.1 h).2.2.2.2.2.2 p (plL_lt h1)
  have c1 := List.count_pos_iff.2 h1
  have c2 := countP_pos hk
  have := count_flat hi p
  rw [h2] at c2
  unfold cntL at hr
  omega
theorem countP_two {l : List Int} {i k : Nat} (hik : i < k) (hk : k < l.length) {a : Int} (h1 : l[i]'(by omega) = a) (h2 : l[k] = a) : 2 ≤ l.countP (fun x => x == a) := by
  induction l generalizing i k with
  | nil => exact absurd hk (by simp)
  | cons x l ih =>
    obtain ⟨k, rfl⟩ : ∃ k', k = k' + 1 := ⟨k - 1, by omega⟩
    have hk' : k < l.length := by simpa using hk
    simp only [List.getElem_cons_succ] at h2
    cases i with
    | zero =>
      simp only [List.getElem_cons_zero] at h1
      have := countP_pos hk'
      rw [h2] at this
      rw [List.countP_cons_of_pos (by simp [h1])]
      omega
    | succ i =>
      simp only [List.getElem_cons_succ] at h1
      have := ih (i := i) (k := k) (by omega) hk' h1 h2
      rw [List.countP_cons]
      omega
theorem apart_news {L : Ly} (h : rightB L = true) {i k : Nat} (hne : i ≠ k) (hi : i < L.nws.length) (hk : k < L.nws.length) (h0 : 0 ≤ L.nws[i]) (he : L.nws[i] = L.nws[k]) : False := by
  have hr := right_iff.1 h
  have hb := hr.2.2.2.2.2.1 _ (List.getElem_mem hi)
  obtain ⟨p, hp⟩ := Int.eq_ofNat_of_zero_le h0
  have hc := hr.2.2.2.2.2.2 p (by omega)
  unfold cntL at hc
  rcases Nat.lt_or_gt_of_ne hne with h | h
  · have := countP_two h hk hp (he ▸ hp); omega
  · have := countP_two h hi (he ▸ hp) hp; omega

def dflt : Sg := ⟨0, 0, false, false⟩
/-- What k values are packed as, upon l0. -/
def packN (l0 : List UInt8) (L : Ly) (vs : List Int) (nb : List Bool) : Nat → List UInt8
  | 0 => l0
  | k + 1 => if 0 ≤ L.nws.getD k 0 then setB (putF (packN l0 L vs nb k) (plL (L.sgs.getD k dflt)) (vs.getD k 0)) (L.nws.getD k 0).toNat (nb.getD k false) else putF (packN l0 L vs nb k) (plL (L.sgs.getD k dflt)) (vs.getD k 0)
theorem packN_length (l0 : List UInt8) (L : Ly) (vs : List Int) (nb : List Bool) (k : Nat) : (packN l0 L vs nb k).length = l0.length := by
  induction k with
  | zero => rfl
  | succ k ih => rw [packN]; split <;> simp [setB_length, putF_length, ih]
def packF (L : Ly) (vs : List Int) (nb : List Bool) (fill : UInt8) : List UInt8 := packN (List.replicate L.size.toNat fill) L vs nb L.sgs.length
/-- Do all values fit? -/
def fitAll (L : Ly) (vs : List Int) : Prop := ∀ k, k < L.sgs.length → fitsB (L.sgs.getD k dflt) (vs.getD k 0) = true
theorem packF_length (L : Ly) (vs : List Int) (nb : List Bool) (fill : UInt8) : (packF L vs nb fill).length = L.size.toNat := by rw [packF, packN_length, List.length_replicate]

theorem pack_bits {L : Ly} (h : rightB L = true) (l0 : List UInt8) (hl : l0.length = L.size.toNat) (vs : List Int) (nb : List Bool) : ∀ k, k ≤ L.sgs.length →
    (∀ i (hi : i < k) (hi2 : i < L.sgs.length) j (hj : j < (plL L.sgs[i]).length), bitL (packN l0 L vs nb k) (plL L.sgs[i])[j] = vbit (vs.getD i 0) j) ∧
    (∀ i (hi : i < k) (hi2 : i < L.nws.length), 0 ≤ L.nws[i] → bitL (packN l0 L vs nb k) L.nws[i].toNat = nb.getD i false) ∧
    ∀ q, (∀ i (hi : i < k) (hi2 : i < L.sgs.length), q ∉ plL L.sgs[i]) → (∀ i (hi : i < k) (hi2 : i < L.nws.length), L.nws[i] ≠ (q : Int)) → bitL (packN l0 L vs nb k) q = bitL l0 q := by
  have hr := right_iff.1 h
  intro k
  induction k with
  | zero => intro _; exact ⟨fun i hi => absurd hi (Nat.not_lt_zero _), fun i hi => absurd hi (Nat.not_lt_zero _), fun q _ _ => rfl⟩
  | succ k ih =>
    intro hk
    have hk' : k < L.sgs.length := by omega
    have hkn : k < L.nws.length := by rw [hr.2.2.2.1]; exact hk'
    obtain ⟨i1, i2, i3⟩ := ih (by omega)
    have hs : L.sgs.getD k dflt = L.sgs[k] := by simp [List.getD_eq_getElem?_getD, hk']
    have hn : L.nws.getD k 0 = L.nws[k] := by simp [List.getD_eq_getElem?_getD, hkn]
    have hlen := packN_length l0 L vs nb k
    have hrs := rightS_iff.1 (hr.2.2.2.2.1 _ (List.getElem_mem hk'))
    have hpl : ∀ p ∈ plL L.sgs[k], p < 8 * (packN l0 L vs nb k).length := by intro p hp; have := hrs.2.2.2 p hp; rw [hlen, hl]; omega
    have hnd := plL_nodup L.sgs[k]
    -- the bits behind the value
    have A1 : ∀ i (hi : i < k + 1) (hi2 : i < L.sgs.length) j (hj : j < (plL L.sgs[i]).length), bitL (putF (packN l0 L vs nb k) (plL L.sgs[k]) (vs.getD k 0)) (plL L.sgs[i])[j] = vbit (vs.getD i 0) j := by
      intro i hi hi2 j hj
      by_cases e : i = k
      · subst e; exact putF_in _ hnd hpl hj
      · rw [putF_out _ hnd hpl (fun hm => apart h e hi2 hk' (List.getElem_mem hj) hm)]
        exact i1 i (by omega) hi2 j hj
    have A2 : ∀ i (hi : i < k) (hi2 : i < L.nws.length), 0 ≤ L.nws[i] → bitL (putF (packN l0 L vs nb k) (plL L.sgs[k]) (vs.getD k 0)) L.nws[i].toNat = nb.getD i false := by
      intro i hi hi2 h0
      rw [putF_out _ hnd hpl (fun hm => apart_new h hk' hi2 hm (by omega))]
      exact i2 i hi hi2 h0
    have A3 : ∀ q, (∀ i (hi : i < k + 1) (hi2 : i < L.sgs.length), q ∉ plL L.sgs[i]) → (∀ i (hi : i < k) (hi2 : i < L.nws.length), L.nws[i] ≠ (q : Int)) → bitL (putF (packN l0 L vs nb k) (plL L.sgs[k]) (vs.getD k 0)) q = bitL l0 q := by
      intro q h1 h2
      rw [putF_out _ hnd hpl (h1 k (by omega) hk')]
      exact i3 q (fun i hi hi2 => h1 i (by omega) hi2) h2
    rw [packN, hs, hn]
    by_cases h0 : 0 ≤ L.nws[k]
    · rw [if_pos h0]
      have hb := hr.2.2.2.2.2.1 _ (List.getElem_mem hkn)
      have hlt : L.nws[k].toNat < 8 * (putF (packN l0 L vs nb k) (plL L.sgs[k]) (vs.getD k 0)).length := by rw [putF_length, hlen, hl]; omega
      refine ⟨?_, ?_, ?_⟩
      · intro i hi hi2 j hj
        rw [setB_bit hlt, if_neg (fun e => apart_new h hi2 hkn (List.getElem_mem hj) (by omega))]
        exact A1 i hi hi2 j hj
      · intro i hi hi2 hi0
        rw [setB_bit hlt]
        by_cases e : i = k
        · subst e; rw [if_pos rfl]
        · rw [if_neg (fun e2 => apart_news h e hi2 hkn hi0 (by omega))]
          exact A2 i (by omega) hi2 hi0
      · intro q h1 h2
        rw [setB_bit hlt, if_neg (fun e => h2 k (by omega) hkn (by omega))]
        exact A3 q h1 (fun i hi hi2 => h2 i (by omega) hi2)
    · rw [if_neg h0]
      refine ⟨A1, ?_, fun q h1 h2 => A3 q h1 (fun i hi hi2 => h2 i (by omega) hi2)⟩
      intro i hi hi2 hi0
      have e : i ≠ k := fun e => h0 (by subst e; exact hi0)
      exact A2 i (by omega) hi2 hi0

theorem bits_eq {a b : List UInt8} (hl : a.length = b.length) (h : ∀ q < 8 * a.length, bitL a q = bitL b q) : a = b := by
  apply List.ext_getElem hl
  intro i h1 h2
  apply UInt8.toNat_inj.1
  apply Nat.eq_of_testBit_eq
  intro j
  by_cases hj : j < 8
  · have := h (8 * i + j) (by omega)
    unfold bitL at this
    have e1 : (8 * i + j) / 8 = i := by omega
    have e2 : (8 * i + j) % 8 = j := by omega
    rw [e1, e2] at this
    simpa [List.getD_eq_getElem?_getD, h1, h2] using this
  · have b1 := UInt8.toNat_lt a[i]
    have b2 := UInt8.toNat_lt b[i]
    have hp : (256 : Nat) ≤ 2 ^ j := Nat.le_trans (by decide) (Nat.pow_le_pow_right (by omega) (show 8 ≤ j by omega))
    rw [Nat.testBit_lt_two_pow (by omega), Nat.testBit_lt_two_pow (by omega)]

/-- PduOne. -/
theorem one_out {L : Ly} (h : rightB L = true) (vs : List Int) (nb : List Bool) (fill : UInt8) {at_ : Nat} (v : Int) {x : Nat} (hx : x ∉ plL (L.sgs.getD at_ dflt)) : bitL (packF L vs nb fill) x = bitL (packF L (vs.set at_ v) nb fill) x := by
  have hr := right_iff.1 h
  have hl : (List.replicate L.size.toNat fill).length = L.size.toNat := List.length_replicate
  obtain ⟨a1, a2, a3⟩ := pack_bits h _ hl vs nb L.sgs.length (Nat.le_refl _)
  obtain ⟨b1, b2, b3⟩ := pack_bits h _ hl (vs.set at_ v) nb L.sgs.length (Nat.le_refl _)
  unfold packF
  by_cases h1 : ∃ i, ∃ (hi : i < L.sgs.length), x ∈ plL L.sgs[i]
  · obtain ⟨i, hi, hm⟩ := h1
    obtain ⟨j, hj, rfl⟩ := List.mem_iff_getElem.1 hm
    have hne : i ≠ at_ := by
      intro e; subst e
      apply hx
      rw [List.getD_eq_getElem?_getD, List.getElem?_eq_getElem hi]
      exact hm
    rw [a1 i hi hi j hj, b1 i hi hi j hj, List.getD_eq_getElem?_getD, List.getD_eq_getElem?_getD, List.getElem?_set_ne (fun e => hne e.symm)]
  · by_cases h2 : ∃ i, ∃ (hi : i < L.nws.length), L.nws[i] = (x : Int)
    · obtain ⟨i, hi, hm⟩ := h2
      have e1 := a2 i (by omega) hi (by omega)
      have e2 := b2 i (by omega) hi (by omega)
      have ex : L.nws[i].toNat = x := by omega
      rw [ex] at e1 e2
      rw [e1, e2]
    · rw [a3 x (fun i hi hi2 hm => h1 ⟨i, hi2, hm⟩) (fun i hi hi2 hm => h2 ⟨i, hi2, hm⟩), b3 x (fun i hi hi2 hm => h1 ⟨i, hi2, hm⟩) (fun i hi hi2 hm => h2 ⟨i, hi2, hm⟩)]
theorem one_same {L : Ly} (h : rightB L = true) (vs : List Int) (nb : List Bool) (fill : UInt8) {at_ : Nat} (ha : at_ < L.sgs.length) (hvl : vs.length = L.sgs.length) (v : Int)
    (hv : v < 9223372036854775808) (hu : vs.getD at_ 0 < 9223372036854775808) (h1 : fitAll L vs) (h2 : fitAll L (vs.set at_ v)) : packF L vs nb fill = packF L (vs.set at_ v) nb fill ↔ v = vs.getD at_ 0 := by
  have hr := right_iff.1 h
  have hl : (List.replicate L.size.toNat fill).length = L.size.toNat := List.length_replicate
  have hga : vs.getD at_ 0 = vs[at_]'(by omega) := by simp [List.getD_eq_getElem?_getD, show at_ < vs.length by omega]
  constructor
  · intro he
    have f1 := h1 at_ ha
    have f2 := h2 at_ ha
    have hg : (vs.set at_ v).getD at_ 0 = v := by simp [List.getD_eq_getElem?_getD, show at_ < vs.length by omega]
    rw [hg] at f2
    have hs : L.sgs.getD at_ dflt = L.sgs[at_] := by simp [List.getD_eq_getElem?_getD, ha]
    rw [hs] at f1 f2
    have hrs := rightS_iff.1 (hr.2.2.2.2.1 _ (List.getElem_mem ha))
    have hpl := plL_length hrs.1
    have hm := (may_iff.1 (plL_may hrs.1).1).2.2.2.2
    refine fits_eq hpl.2.1 hpl.2.2 hm hv hu f2 f1 ?_
    intro j hj
    have hj' : j < (plL L.sgs[at_]).length := by rw [hpl.1]; exact hj
    have a1 := (pack_bits h _ hl vs nb L.sgs.length (Nat.le_refl _)).1 at_ ha ha j hj'
    have b1 := (pack_bits h _ hl (vs.set at_ v) nb L.sgs.length (Nat.le_refl _)).1 at_ ha ha j hj'
    unfold packF at he
    rw [he, b1, hg] at a1
    exact a1
  · intro he
    have : vs.set at_ v = vs := by rw [he, hga]; exact List.set_getElem_self _
    rw [this]
end PD
end Go.Proofs.YtnhegnneohpkaaaGreat

/- Filters, ways, sendings, watches: which may be. Plain: no program in sight. -/
namespace Go.Proofs.YtnhegnneohpkaaaGreat
namespace CM
open SG PD

structure Flt where
  kind : Int
  mask : Int
  x : Int
  mn : Int
  mx : Int
  every : Int
  frm : Int
  old : Int
  count : Int
def fltB (f : Flt) : Bool := decide (1 ≤ f.kind ∧ f.kind ≤ 8 ∧ f.mn ≤ f.mx ∧ 0 ≤ f.count ∧ f.count ≤ 1099511627776 ∧ (f.kind = 8 → 1 ≤ f.every ∧ f.every ≤ 1000000 ∧ 0 ≤ f.frm ∧ f.frm < f.every))
theorem fltB_iff {f : Flt} : fltB f = true ↔ 1 ≤ f.kind ∧ f.kind ≤ 8 ∧ f.mn ≤ f.mx ∧ 0 ≤ f.count ∧ f.count ≤ 1099511627776 ∧ (f.kind = 8 → 1 ≤ f.every ∧ f.every ≤ 1000000 ∧ 0 ≤ f.frm ∧ f.frm < f.every) := by unfold fltB; rw [decide_eq_true_eq]

/-- Does a value pass? -/
def eqF (f : Flt) (v : Int) : Bool := bits .and .i64 v f.mask == f.x
def inF (f : Flt) (v : Int) : Bool := decide (f.mn ≤ v) && decide (v ≤ f.mx)
def newF (f : Flt) (v : Int) : Bool := bits .and .i64 (bits .xor .i64 v f.old) f.mask != 0
def evF (f : Flt) : Bool := f.count.tmod f.every == f.frm
def fltP (f : Flt) (v : Int) : Bool :=
  if f.kind = 1 then true else if f.kind = 2 then false else if f.kind = 3 then eqF f v else if f.kind = 4 then !eqF f v else if f.kind = 5 then newF f v else if f.kind = 6 then inF f v else if f.kind = 7 then !inF f v else evF f

structure Wy where
  kind : Int
  first : Int
  period : Int
  reps : Int
  gap : Int
def perB (w : Wy) : Bool := decide (w.kind = 2 ∨ w.kind = 3)
def dirB (w : Wy) : Bool := decide (w.kind = 1 ∨ w.kind = 3)
def wayB (w : Wy) : Bool := decide (0 ≤ w.kind ∧ w.kind ≤ 3 ∧ 0 ≤ w.first ∧ w.first ≤ 1000000 ∧ 0 ≤ w.period ∧ w.period ≤ 1000000 ∧ 0 ≤ w.reps ∧ w.reps ≤ 100 ∧ 0 ≤ w.gap ∧ w.gap ≤ 1000000 ∧ ((w.kind = 2 ∨ w.kind = 3) → 0 < w.period) ∧ (w.reps = 0 ∨ 0 < w.gap))
theorem wayB_iff {w : Wy} : wayB w = true ↔ 0 ≤ w.kind ∧ w.kind ≤ 3 ∧ 0 ≤ w.first ∧ w.first ≤ 1000000 ∧ 0 ≤ w.period ∧ w.period ≤ 1000000 ∧ 0 ≤ w.reps ∧ w.reps ≤ 100 ∧ 0 ≤ w.gap ∧ w.gap ≤ 1000000 ∧ ((w.kind = 2 ∨ w.kind = 3) → 0 < w.period) ∧ (w.reps = 0 ∨ 0 < w.gap) := by unfold wayB; rw [decide_eq_true_eq]

structure Snd where
  yes : Wy
  no : Wy
  on : Bool
  delay : Int
  period : Int
  gap : Int
  left : Int
  hold : Int
  asked : Bool
def Snd.way (s : Snd) : Wy := if s.on then s.yes else s.no
def sndB (s : Snd) : Bool := wayB s.yes && (wayB s.no && decide (0 ≤ s.delay ∧ s.delay ≤ 1000000 ∧ 0 ≤ s.hold ∧ s.hold ≤ s.delay ∧
  (if perB s.way then 1 ≤ s.period ∧ s.period ≤ max (max s.way.first s.way.period) 1 else s.period = 0) ∧
  0 ≤ s.left ∧ s.left ≤ (if dirB s.way then s.way.reps else 0) ∧ (if 0 < s.left then 1 ≤ s.gap ∧ s.gap ≤ s.way.gap else s.gap = 0)))
/-- A new one. -/
def sndNew (yes no : Wy) (on : Bool) (delay : Int) : Snd := ⟨yes, no, on, delay, if perB (if on then yes else no) then max (if on then yes else no).first 1 else 0, 0, 0, 0, false⟩
def newSndB (yes no : Wy) (delay : Int) : Bool := wayB yes && (wayB no && decide (0 ≤ delay ∧ delay ≤ 1000000))
theorem sndNew_right {yes no : Wy} {on : Bool} {delay : Int} (h : newSndB yes no delay = true) : sndB (sndNew yes no on delay) = true := by
  unfold newSndB at h
  simp only [Bool.and_eq_true, decide_eq_true_eq] at h
  obtain ⟨h1, h2, h3⟩ := h
  have hw : wayB (if on then yes else no) = true := by cases on <;> simp [h1, h2]
  have hw' := wayB_iff.1 hw
  unfold sndB sndNew
  simp only [Bool.and_eq_true, decide_eq_true_eq]
  refine ⟨h1, h2, h3.1, h3.2, by omega, by omega, ?_⟩
  have e : (Snd.way ⟨yes, no, on, delay, if perB (if on then yes else no) then max (if on then yes else no).first 1 else 0, 0, 0, 0, false⟩) = if on then yes else no := rfl
  rw [e]
  generalize (if on then yes else no) = w at *
  refine ⟨?_, by omega, ?_, by simp⟩
  · split
    · omega
    · rfl
  · split <;> omega

structure Wt where
  first : Int
  each : Int
  left : Int
  on : Bool
  late : Bool
def wtB (w : Wt) : Bool := decide (0 ≤ w.first ∧ w.first ≤ 1000000 ∧ 0 ≤ w.each ∧ w.each ≤ 1000000 ∧ 0 ≤ w.left ∧ w.left ≤ max w.first w.each ∧ (w.on = true ∨ w.left = 0 ∧ w.late = false) ∧ (w.late = false ∨ w.left = 0))
end CM
end Go.Proofs.YtnhegnneohpkaaaGreat

/- A region that draws its order: loads are taken first, each under its own condition on the world, which the operations keep that may come ahead of it (and these alone: a store that waits for the load may turn the cell). Nothing of the program's text. -/
namespace Go.Proofs.YtnhegnneohpkaaaGreat
open Go.ChangeShapes Go.WideShapes Go.ChangeAt Go.RowKit

section
variable {P : Program} {ops : Array Oper} {Q : Exit → Act → World → Prop} {md : Region.Mode}

/-- May j come ahead of i? -/
def mayAhead (md : Region.Mode) (ops : Array Oper) (i j : Nat) : Bool := match ops[j]? with
  | none => false
  | some oj => !(oj.after.any fun e => Region.binds md e && e.on == i)

/-- What is to be shown behind j: a load leaves the world; another operation keeps the conditions of the loads that it may be ahead of. -/
def keeps (md : Region.Mode) (ops : Array Oper) (L : List Nat) (R : Nat → World → Prop) (j : Nat) (w w' : World) : Prop :=
  (j ∈ L → w' = w) ∧ (j ∉ L → ∀ i ∈ L, mayAhead md ops i j = true → R i w')

def wpAnyS (P : Program) (md : Region.Mode) (ops : Array Oper) (Q : Exit → Act → World → Prop) (L : List Nat) (R : Nat → World → Prop) : Nat → Array Bool → Act → World → Prop
  | 0, listed, a, w => Region.ready md ops listed = [] ∧ Q .normal a w
  | fuel + 1, listed, a, w =>
    (Region.ready md ops listed = [] → Q .normal a w) ∧
    ∀ i ∈ Region.ready md ops listed, wpOp P ops Q i (fun a' w' => keeps md ops L R i w w' ∧ wpAnyS P md ops Q L R fuel (listed.setIfInBounds i true) a' w') a w

variable {L : List Nat} {R : Nat → World → Prop}

theorem wpAny_of_S : ∀ (fuel : Nat) (listed : Array Bool) (a : Act) (w : World), wpAnyS P md ops Q L R fuel listed a w → wpAny P md ops Q fuel listed a w
  | 0, _, _, _, h => h
  | fuel + 1, _, _, _, h => ⟨h.1, fun i hi => wpOp_mono (fun a' w' h' => wpAny_of_S fuel _ a' w' h'.2) (h.2 i hi)⟩

theorem keeps_all {j : Nat} {w w' : World} (hj : j ∉ L) (h : ∀ i ∈ L, R i w') : keeps md ops L R j w w' := ⟨fun h => absurd h hj, fun _ i hi _ => h i hi⟩

theorem wpAnyS_first {i : Nat} {oi : Oper} {v : Value} (hi : ops[i]? = some oi) (hL : i ∈ L) (hsel : ∀ (j : Nat) (o : Oper) cs b, ops[j]? = some o → o.op ≠ .select cs b)
    (hQ : ∀ c a w, Q (.panic c) (a.put oi.dst v) w → Q (.panic c) a w) :
    ∀ (fuel : Nat) (listed : Array Bool) (a : Act) (w : World),
      (∀ j oj, ops[j]? = some oj → j ≠ i → listed.getD j true = false → (∀ e ∈ oj.after, Region.binds md e = true → e.on ≠ i) → oi.apart ops oj = true) →
      i ∈ Region.ready md ops listed → YieldsIf P ops (R i) oi v a → R i w →
      wpAnyS P md ops Q L R fuel (listed.setIfInBounds i true) (a.put oi.dst v) w → wpAnyS P md ops Q L R (fuel + 1) listed a w := by
  have hk : ∀ w, keeps md ops L R i w w := fun w => ⟨fun _ => rfl, fun h => absurd hL h⟩
  intro fuel
  induction fuel with
  | zero =>
    intro listed a w _ hr hy hS H
    refine ⟨fun h => (by rw [h] at hr; cases hr), fun j hj => ?_⟩
    by_cases hji : j = i
    · subst hji; exact hy.wpOp hi hS ⟨hk w, H⟩
    · have := ready_mono hj hji
      rw [H.1] at this
      cases this
  | succ fuel ih =>
    intro listed a w hfree hr hy hS H
    refine ⟨fun h => (by rw [h] at hr; cases hr), fun j hj => ?_⟩
    by_cases hji : j = i
    · subst hji; exact hy.wpOp hi hS ⟨hk w, H⟩
    · have h1 := H.2 j (ready_mono hj hji)
      obtain ⟨hjun, oj, hoj, hall⟩ := mem_ready.1 hj
      have hnot : ∀ e ∈ oj.after, Region.binds md e = true → e.on ≠ i := fun e he hb heq => by
        have h1 := hall e he hb
        have h0 := (mem_ready.1 hr).1
        rw [heq] at h1
        rcases Nat.lt_or_ge i listed.size with h' | h'
        · simp [h'] at h0 h1; rw [h0] at h1; cases h1
        · simp [Array.getElem?_eq_none h'] at h1
      have hmay : mayAhead md ops i j = true := by
        unfold mayAhead
        rw [hoj]
        simp only [Bool.not_eq_true', Bool.eq_false_iff]
        intro h
        obtain ⟨e, he, hb⟩ := Array.any_eq_true'.1 h
        simp only [Bool.and_eq_true, beq_iff_eq] at hb
        exact hnot e he hb.1 hb.2
      have h2 := wpOp_putIf hoj (hfree j oj hoj hji hjun hnot) (fun cs b => hsel i oi cs b hi) (fun cs b => hsel j oj cs b hoj) hQ hy h1
      have hfree' : ∀ k ok, ops[k]? = some ok → k ≠ i → (listed.setIfInBounds j true).getD k true = false →
          (∀ e ∈ ok.after, Region.binds md e = true → e.on ≠ i) → oi.apart ops ok = true := fun k ok hk hki hun hno => by
        refine hfree k ok hk hki ?_ hno
        by_cases hjk : j = k
        · subst hjk; exact hjun
        · rw [getD_set_ne true hjk] at hun; exact hun
      refine wpOp_mono (fun a' w' h3 => ⟨h3.2.1, ih (listed.setIfInBounds j true) a' w' hfree' (ready_mono hr (Ne.symm hji)) h3.1 ?_ ?_⟩) h2
      · by_cases hjL : j ∈ L
        · rw [h3.2.1.1 hjL]; exact hS
        · exact h3.2.1.2 hjL i hL hmay
      · rw [Array.setIfInBounds_comm _ _ hji]
        exact h3.2.2

theorem wpAnyS_take {i : Nat} {oi : Oper} {v : Value} {fuel : Nat} {listed : Array Bool} {a : Act} {w : World} (hi : ops[i]? = some oi) (hL : i ∈ L)
    (hs : Region.noSelect ops = true) (hf : Region.free md ops listed i = true) (hr : (Region.ready md ops listed).contains i = true)
    (hQ : ∀ c a w, Q (.panic c) (a.put oi.dst v) w → Q (.panic c) a w) (hg : oi.guard = none) (hy : ∀ w, R i w → (execOp a.eval oi).run P w = .ok (.value v) w) (hS : R i w)
    (h : wpAnyS P md ops Q L R fuel (listed.setIfInBounds i true) (a.put oi.dst v) w) : wpAnyS P md ops Q L R (fuel + 1) listed a w :=
  wpAnyS_first hi hL (Region.noSelect_spec hs) hQ fuel listed a w (Region.free_spec hi hf) (by simpa using hr) (.inl ⟨by simp [Region.wanted, hg], hy⟩) hS h

theorem wpAnyS_one {i : Nat} {fuel : Nat} {listed : Array Bool} {a : Act} {w : World} (hr : Region.ready md ops listed = [i])
    (h : wpOp P ops Q i (fun a' w' => keeps md ops L R i w w' ∧ wpAnyS P md ops Q L R fuel (listed.setIfInBounds i true) a' w') a w) : wpAnyS P md ops Q L R (fuel + 1) listed a w :=
  ⟨fun h0 => absurd (hr.symm.trans h0) (by simp), hr ▸ fun j hj => by rw [List.mem_singleton] at hj; subst hj; exact h⟩

theorem wpAnyS_two {i k : Nat} {fuel : Nat} {listed : Array Bool} {a : Act} {w : World} (hr : Region.ready md ops listed = [i, k])
    (h : wpOp P ops Q i (fun a' w' => keeps md ops L R i w w' ∧ wpAnyS P md ops Q L R fuel (listed.setIfInBounds i true) a' w') a w)
    (h' : wpOp P ops Q k (fun a' w' => keeps md ops L R k w w' ∧ wpAnyS P md ops Q L R fuel (listed.setIfInBounds k true) a' w') a w) : wpAnyS P md ops Q L R (fuel + 1) listed a w :=
  ⟨fun h0 => absurd (hr.symm.trans h0) (by simp), hr ▸ fun j hj => by
    simp only [List.mem_cons, List.not_mem_nil, or_false] at hj
    rcases hj with rfl | rfl
    · exact h
    · exact h'⟩

theorem wpAnyS_done {listed : Array Bool} {a : Act} {w : World} (hr : Region.ready md ops listed = []) (h : Q .normal a w) : ∀ fuel, wpAnyS P md ops Q L R fuel listed a w
  | 0 => ⟨hr, h⟩
  | _ + 1 => ⟨fun _ => h, by rw [hr]; simp⟩

theorem wpOp_at {i : Nat} {o : Oper} {K : Act → World → Prop} {a : Act} {w : World} (hi : ops[i]? = some o) (h : if Region.wanted o (yielded ops a.tmps) = true then Oper.wp P o a w K Q else K (a.put o.dst undef) w) : wpOp P ops Q i K a w := by
  unfold wpOp
  rw [hi]
  dsimp only
  split
  · rename_i hw
    rw [if_pos hw] at h
    exact .inl h
  · rename_i hw
    rw [if_neg hw] at h
    exact h

theorem wp_region_S (L : List Nat) (R : Nat → World → Prop) {id : Nat} {a : Act} {w : World} (hm : P.follows .mixedOrders = true)
    (h : wpAnyS P .any ops Q L R ops.size (Array.replicate ops.size false) a w.drew) : (Code.region id ops true).wp P Q a w :=
  wp_region_any hm (wpAny_of_S _ _ _ _ h)
end
end Go.Proofs.YtnhegnneohpkaaaGreat
