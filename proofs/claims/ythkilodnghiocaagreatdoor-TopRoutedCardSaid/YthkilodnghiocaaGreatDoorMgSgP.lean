/- Where a signal's bits are; bits within bytes; values as bits. Plain: no program in sight. -/
import Derived.Test.YthkilodnghiocaaGreatDoorMgMem
import Derived.Test.YthkilodnghiocaaGreatDoorOwS
import Derived.WalkKit
namespace Go.Proofs.YthkilodnghiocaaGreatDoor
namespace SG

structure Sg where
  start : Int
  width : Int
  big : Bool
  sgn : Bool

def stepD (p : Nat) : Nat := if p % 8 = 0 then p + 15 else p - 1
def dn (s : Nat) : Nat → Nat
  | 0 => s
  | i + 1 => stepD (dn s i)
def mayB (s : Sg) : Bool := decide (0 ≤ s.start ∧ s.start < 64 ∧ 1 ≤ s.width ∧ s.width ≤ 64 ∧ ¬ (s.width = 64 ∧ s.sgn = false))
/-- The i-th place that the program tells. -/
def atN (s : Sg) (i : Nat) : Nat := if s.big then dn s.start.toNat i else s.start.toNat + i
def seqL (s : Sg) (n : Nat) : List Nat := (List.range n).map (atN s)
def rawL (s : Sg) : List Nat := if s.big then (seqL s s.width.toNat).reverse else seqL s s.width.toNat
def plL (s : Sg) : List Nat := if mayB s = true ∧ ∀ p ∈ rawL s, p < 64 then rawL s else []

def lin (p : Nat) : Nat := p / 8 * 8 + (7 - p % 8)
theorem lin_step (p : Nat) : lin (stepD p) = lin p + 1 := by unfold lin stepD; split <;> omega
theorem lin_dn (s i : Nat) : lin (dn s i) = lin s + i := by
  induction i with
  | zero => rfl
  | succ i ih => rw [dn, lin_step, ih]; omega
theorem step_le (p : Nat) : stepD p ≤ p + 15 := by unfold stepD; split <;> omega
theorem dn_le (s i : Nat) : dn s i ≤ s + 15 * i := by
  induction i with
  | zero => simp [dn]
  | succ i ih => rw [dn]; have := step_le (dn s i); omega
theorem atN_le (s : Sg) (i : Nat) : atN s i ≤ s.start.toNat + 15 * i := by
  unfold atN; split
  · exact dn_le _ _
  · omega
theorem atN_inj (s : Sg) {i j : Nat} (h : atN s i = atN s j) : i = j := by
  unfold atN at h
  split at h
  · have h1 := lin_dn s.start.toNat i
    have h2 := lin_dn s.start.toNat j
    rw [h] at h1
    omega
  · omega
theorem seqL_succ (s : Sg) (n : Nat) : seqL s (n + 1) = seqL s n ++ [atN s n] := by unfold seqL; rw [List.range_succ, List.map_append]; rfl
theorem seqL_length (s : Sg) (n : Nat) : (seqL s n).length = n := by simp [seqL]
theorem seqL_nodup (s : Sg) (n : Nat) : (seqL s n).Nodup := by
  unfold seqL
  rw [List.nodup_iff_pairwise_ne, List.pairwise_map]
  refine (List.nodup_range (n := n)).imp ?_
  intro a b hab h
  exact hab (atN_inj s h)
theorem rawL_nodup (s : Sg) : (rawL s).Nodup := by
  unfold rawL
  split
  · rw [List.nodup_iff_pairwise_ne, List.pairwise_reverse]
    exact (seqL_nodup _ _).imp (fun h => Ne.symm h)
  · exact seqL_nodup _ _
theorem rawL_length (s : Sg) : (rawL s).length = s.width.toNat := by
  unfold rawL
  split
  · rw [List.length_reverse, seqL_length]
  · exact seqL_length _ _
theorem plL_nodup (s : Sg) : (plL s).Nodup := by
  unfold plL
  split
  · exact rawL_nodup s
  · exact List.nodup_nil
theorem plL_lt {s : Sg} {p : Nat} (h : p ∈ plL s) : p < 64 := by
  unfold plL at h
  split at h
  · rename_i h2; exact h2.2 p h
  · cases h
theorem plL_may {s : Sg} (h : plL s ≠ []) : mayB s = true ∧ (∀ p ∈ rawL s, p < 64) ∧ plL s = rawL s := by
  unfold plL at h ⊢
  split at h
  · rename_i h2; rw [if_pos h2]; exact ⟨h2.1, h2.2, rfl⟩
  · exact absurd rfl h
theorem may_iff {s : Sg} : mayB s = true ↔ 0 ≤ s.start ∧ s.start < 64 ∧ 1 ≤ s.width ∧ s.width ≤ 64 ∧ ¬ (s.width = 64 ∧ s.sgn = false) := by unfold mayB; rw [decide_eq_true_eq]
theorem plL_length {s : Sg} (h : plL s ≠ []) : (plL s).length = s.width.toNat ∧ 1 ≤ s.width ∧ s.width ≤ 64 := by
  obtain ⟨h1, _, h3⟩ := plL_may h
  rw [h3, rawL_length]
  have := may_iff.1 h1
  exact ⟨rfl, this.2.2.1, this.2.2.2.1⟩
theorem rawL_ne {s : Sg} (h : mayB s = true) : rawL s ≠ [] := by
  intro h0
  have h1 := rawL_length s
  have := may_iff.1 h
  rw [h0, List.length_nil] at h1
  omega
theorem rightRaw {s : Sg} (h : mayB s = true) : plL s ≠ [] ↔ ∀ p ∈ rawL s, p < 64 := by
  constructor
  · intro h2; exact (plL_may h2).2.1
  · intro h2; unfold plL; rw [if_pos ⟨h, h2⟩]; exact rawL_ne h

/-- A bit of bytes; a byte with one so; bytes with one so. -/
def bitL (l : List UInt8) (p : Nat) : Bool := (l.getD (p / 8) 0).toNat.testBit (p % 8)
def setN (x j : Nat) (b : Bool) : Nat := if b then x ||| 2 ^ j else x &&& (255 - 2 ^ j)
def setB (l : List UInt8) (p : Nat) (b : Bool) : List UInt8 := l.set (p / 8) (UInt8.ofNat (setN (l.getD (p / 8) 0).toNat (p % 8) b))
theorem setN_lt : ∀ (x : Fin 256) (j : Fin 8) (b : Bool), setN x j b < 256 := by decide +kernel
theorem setN_bit : ∀ (x : Fin 256) (j k : Fin 8) (b : Bool), (setN x j b).testBit k = if k = j then b else x.val.testBit k := by decide +kernel
theorem setB_length (l : List UInt8) (p : Nat) (b : Bool) : (setB l p b).length = l.length := by simp [setB]
theorem setB_bit {l : List UInt8} {p : Nat} (hp : p < 8 * l.length) (b : Bool) (q : Nat) : bitL (setB l p b) q = if q = p then b else bitL l q := by
  have hk : p / 8 < l.length := by omega
  unfold bitL setB
  by_cases h : q / 8 = p / 8
  · have hx := setN_bit ⟨(l.getD (p / 8) 0).toNat, UInt8.toNat_lt _⟩ ⟨p % 8, by omega⟩ ⟨q % 8, by omega⟩ b
    have hl := setN_lt ⟨(l.getD (p / 8) 0).toNat, UInt8.toNat_lt _⟩ ⟨p % 8, by omega⟩ b
    simp only [Fin.mk.injEq] at hx hl
    rw [h, List.getD_eq_getElem?_getD, List.getElem?_set_self hk, Option.getD_some, UInt8.toNat_ofNat', Nat.mod_eq_of_lt hl, hx]
    by_cases hm : q % 8 = p % 8
    · rw [if_pos hm, if_pos (by omega)]
    · rw [if_neg hm, if_neg (by omega)]
  · rw [if_neg (by intro e; rw [e] at h; exact h rfl), List.getD_eq_getElem?_getD, List.getElem?_set_ne (fun e => h e.symm), ← List.getD_eq_getElem?_getD]

/-- A value's bit. -/
def vbit (v : Int) (i : Nat) : Bool := decide (v / 2 ^ i % 2 = 1)
def putN (l : List UInt8) (ps : List Nat) (v : Int) : Nat → List UInt8
  | 0 => l
  | k + 1 => setB (putN l ps v k) (ps.getD k 0) (vbit v k)
def putF (l : List UInt8) (ps : List Nat) (v : Int) : List UInt8 := putN l ps v ps.length
theorem putN_length (l : List UInt8) (ps : List Nat) (v : Int) (k : Nat) : (putN l ps v k).length = l.length := by
  induction k with
  | zero => rfl
  | succ k ih => rw [putN, setB_length, ih]
theorem putF_length (l : List UInt8) (ps : List Nat) (v : Int) : (putF l ps v).length = l.length := putN_length _ _ _ _
theorem putN_bit {l : List UInt8} {ps : List Nat} (v : Int) (hn : ps.Nodup) (hp : ∀ p ∈ ps, p < 8 * l.length) : ∀ k, k ≤ ps.length → (∀ i (hi : i < k) (hi2 : i < ps.length), bitL (putN l ps v k) ps[i] = vbit v i) ∧ ∀ q, q ∉ ps.take k → bitL (putN l ps v k) q = bitL l q := by
  intro k
  induction k with
  | zero => intro _; exact ⟨fun i hi => absurd hi (Nat.not_lt_zero _), fun q _ => rfl⟩
  | succ k ih =>
    intro hk
    obtain ⟨h1, h2⟩ := ih (by omega)
    have hk2 : k < ps.length := by omega
    have hg : ps.getD k 0 = ps[k] := by simp [List.getD_eq_getElem?_getD, hk2]
    have hlt : ps[k] < 8 * (putN l ps v k).length := by rw [putN_length]; exact hp _ (List.getElem_mem _)
    constructor
    · intro i hi hi2
      rw [putN, hg, setB_bit hlt]
      by_cases e : i = k
      · subst e; rw [if_pos rfl]
      · rw [if_neg (fun e2 => e ((List.getElem_inj hn).1 e2)), h1 i (by omega) hi2]
    · intro q hq
      rw [List.take_succ_eq_append_getElem (by omega), List.mem_append, List.mem_singleton] at hq
      rw [putN, hg, setB_bit hlt, if_neg (fun e => hq (.inr e)), h2 q (fun e => hq (.inl e))]
theorem putF_in {l : List UInt8} {ps : List Nat} (v : Int) (hn : ps.Nodup) (hp : ∀ p ∈ ps, p < 8 * l.length) {i : Nat} (hi : i < ps.length) : bitL (putF l ps v) ps[i] = vbit v i :=
  (putN_bit v hn hp _ (Nat.le_refl _)).1 i hi hi
theorem putF_out {l : List UInt8} {ps : List Nat} (v : Int) (hn : ps.Nodup) (hp : ∀ p ∈ ps, p < 8 * l.length) {q : Nat} (hq : q ∉ ps) : bitL (putF l ps v) q = bitL l q :=
  (putN_bit v hn hp _ (Nat.le_refl _)).2 q (by rw [List.take_of_length_le (Nat.le_refl _)]; exact hq)

theorem low_bits {v u : Int} : ∀ n : Nat, (∀ i < n, vbit v i = vbit u i) → v % 2 ^ n = u % 2 ^ n
  | 0, _ => by simp [Int.emod_one]
  | n + 1, h => by
    have ih := low_bits n (fun i hi => h i (by omega))
    have hb := h n (by omega)
    have h2 : v / 2 ^ n % 2 = u / 2 ^ n % 2 := by
      unfold vbit at hb
      have := Int.emod_two_eq (v / 2 ^ n)
      have := Int.emod_two_eq (u / 2 ^ n)
      have hb' : (v / 2 ^ n % 2 = 1) ↔ (u / 2 ^ n % 2 = 1) := by simpa using hb
      omega
    have key : ∀ x : Int, x % 2 ^ (n + 1) = x % 2 ^ n + 2 ^ n * (x / 2 ^ n % 2) := by
      intro x
      have hp : (0 : Int) < 2 ^ n := Int.pow_pos (by omega)
      have e1 := Int.emod_add_mul_ediv x (2 ^ n)
      have e2 := Int.emod_add_mul_ediv (x / 2 ^ n) 2
      have b1 := Int.emod_nonneg x (show (2 : Int) ^ n ≠ 0 by omega)
      have b2 := Int.emod_lt_of_pos x hp
      have b3 := Int.emod_two_eq (x / 2 ^ n)
      have hs : (2 : Int) ^ (n + 1) = 2 ^ n * 2 := by rw [Int.pow_succ]
      rw [hs]
      have hx : x = (x % 2 ^ n + 2 ^ n * (x / 2 ^ n % 2)) + 2 ^ n * 2 * (x / 2 ^ n / 2) := by
        rw [Int.mul_assoc, Int.add_assoc, ← Int.mul_add, e2]; exact e1.symm
      have hr : 0 ≤ x % 2 ^ n + 2 ^ n * (x / 2 ^ n % 2) ∧ x % 2 ^ n + 2 ^ n * (x / 2 ^ n % 2) < 2 ^ n * 2 := by
        rcases b3 with b3 | b3 <;> rw [b3] <;> omega
      generalize x % 2 ^ n + 2 ^ n * (x / 2 ^ n % 2) = r at *
      rw [hx, Int.add_mul_emod_self_left, Int.emod_eq_of_lt hr.1 hr.2]
    rw [key v, key u, ih, h2]

/-- May a value be one's? -/
def fitsB (s : Sg) (v : Int) : Bool :=
  if s.sgn then decide (v / 2 ^ (s.width - 1).toNat = 0 ∨ v / 2 ^ (s.width - 1).toNat = -1) else decide (0 ≤ v ∧ (63 ≤ s.width ∨ v / 2 ^ s.width.toNat = 0))
theorem fits_eq {s : Sg} (hw : 1 ≤ s.width) (hw2 : s.width ≤ 64) (hm : ¬ (s.width = 64 ∧ s.sgn = false)) {v u : Int} (hv : v < 9223372036854775808) (hu : u < 9223372036854775808)
    (h1 : fitsB s v = true) (h2 : fitsB s u = true) (hb : ∀ i < s.width.toNat, vbit v i = vbit u i) : v = u := by
  unfold fitsB at h1 h2
  cases hs : s.sgn with
  | true =>
    rw [hs, if_pos rfl, decide_eq_true_eq] at h1 h2
    obtain ⟨n, hn⟩ : ∃ n, (s.width - 1).toNat = n := ⟨_, rfl⟩
    rw [hn] at h1 h2
    have hl := low_bits (v := v) (u := u) n (fun i hi => hb i (by omega))
    have ht := hb n (by omega)
    have e1 := Int.emod_add_mul_ediv v (2 ^ n)
    have e2 := Int.emod_add_mul_ediv u (2 ^ n)
    unfold vbit at ht
    have : v / 2 ^ n = u / 2 ^ n := by
      rcases h1 with h1 | h1 <;> rcases h2 with h2 | h2 <;> rw [h1, h2] at ht <;> simp at ht <;> omega
    rw [← e1, ← e2, hl, this]
  | false =>
    rw [hs] at h1 h2
    simp only [Bool.false_eq_true, if_false, decide_eq_true_eq] at h1 h2
    obtain ⟨n, hn⟩ : ∃ n, s.width.toNat = n := ⟨_, rfl⟩
    rw [hn] at h1 h2 hb
    have hl := low_bits (v := v) (u := u) n hb
    have small : ∀ x : Int, x < 9223372036854775808 → (0 ≤ x ∧ (63 ≤ s.width ∨ x / 2 ^ n = 0)) → x % 2 ^ n = x := by
      intro x hx hh
      refine Int.emod_eq_of_lt hh.1 ?_
      rcases hh.2 with h | h
      · have : n = 63 := by
          have : ¬ s.width = 64 := fun e => hm ⟨e, hs⟩
          omega
        rw [this]; omega
      · have hp : (0 : Int) < 2 ^ n := Int.pow_pos (by omega)
        have b2 := Int.emod_lt_of_pos x hp
        have e := Int.emod_add_mul_ediv x (2 ^ n)
        rw [h] at e
        omega
    rw [← small v hv h1, ← small u hu h2, hl]

/-- Within so many bytes. -/
def rightS (s : Sg) (n : Int) : Bool := decide (plL s ≠ [] ∧ 0 ≤ n ∧ n ≤ 8 ∧ ∀ p ∈ plL s, (p : Int) < 8 * n)
theorem rightS_iff {s : Sg} {n : Int} : rightS s n = true ↔ plL s ≠ [] ∧ 0 ≤ n ∧ n ≤ 8 ∧ ∀ p ∈ plL s, (p : Int) < 8 * n := by unfold rightS; rw [decide_eq_true_eq]
end SG
end Go.Proofs.YthkilodnghiocaaGreatDoor

/- Bytes of a string in a block of the call's own ('[]byte(s)'), written in place; a bit of a byte. Nothing of the program's text. -/
namespace Go.Proofs.YthkilodnghiocaaGreatDoor
open Go.ChangeShapes Go.WideShapes Go.ChangeAt Go.RowKit
open SG

theorem and_one_i64 (x : Int) : bits .and .i64 x 1 = x % 2 := by
  have h : ((BitVec.ofInt 64 x) &&& (BitVec.ofInt 64 1)).toNat = (x % 2).toNat := by
    rw [BitVec.toNat_and, BitVec.toNat_ofInt, BitVec.toNat_ofInt]
    have e1 : ((1 : Int) % ((2 ^ 64 : Nat) : Int)).toNat = 1 := by decide
    rw [e1, Nat.and_one_is_mod]
    have : x % ((2 ^ 64 : Nat) : Int) % 2 = x % 2 := Int.emod_emod_of_dvd _ (by decide)
    have h0 := Int.emod_nonneg x (show ((2 ^ 64 : Nat) : Int) ≠ 0 by decide)
    omega
  have h2 := Int.emod_two_eq x
  show IntKind.i64.wrap (((BitVec.ofInt 64 x) &&& (BitVec.ofInt 64 1)).toNat : Int) = x % 2
  rw [h]
  rcases h2 with h2 | h2 <;> rw [h2] <;> decide
theorem byte_set : ∀ (x : Fin 256) (j : Fin 8) (b : Bool), bits .or .u8 (bits .andNot .u8 (x.val : Int) (IntKind.u8.wrap (2 ^ j.val))) (IntKind.u8.wrap ((if b then 1 else 0) * 2 ^ j.val)) = ((setN x.val j.val b : Nat) : Int) := by decide +kernel
theorem byte_get : ∀ (x : Fin 256) (j : Fin 8), (x.val : Int) / 2 ^ j.val % 2 = if x.val.testBit j.val then 1 else 0 := by decide +kernel

/-- The bytes l lie at block g, open to stores. -/
def ByB (W : World) (g : Nat) (l : List UInt8) : Prop := ∃ cs n, W.heap[g]? = some (.cells cs 5 (n, n + 1)) ∧ l.length ≤ n ∧ ∀ j (hj : j < l.length), cs[j]? = some (.int .u8 (l[j].toNat : Int))
theorem ByB.lt {W : World} {g : Nat} {l : List UInt8} (h : ByB W g l) : g < W.heap.size := by obtain ⟨cs, n, h, _⟩ := h; exact heap_lt h
theorem ByB.below {W W' : World} {g : Nat} {l : List UInt8} (h : ByB W g l) (q : Below W.heap.size W W') : ByB W' g l := by obtain ⟨cs, n, h, r⟩ := h; exact ⟨cs, n, heap_below h q, r⟩
theorem ByB.drew {W : World} {g : Nat} {l : List UInt8} (h : ByB W g l) : ByB W.drew g l := h
theorem ByB.cell {W : World} {g : Nat} {l : List UInt8} (h : ByB W g l) {j : Nat} (hj : j < l.length) : W.cell? ⟨g, j, none⟩ = some (.int .u8 (l[j].toNat : Int)) ∧ W.frozen? ⟨g, j, none⟩ = false := by
  obtain ⟨cs, n, h, hn, hc⟩ := h
  refine ⟨?_, ?_⟩
  · simp [World.cell?, h, hc j hj]
  · simp only [World.frozen?, h]
    simp; omega
theorem ByB.set {W : World} {g : Nat} {l : List UInt8} (h : ByB W g l) {j : Nat} (hj : j < l.length) (x : UInt8) : ByB (W.setCell ⟨g, j, none⟩ (.int .u8 (x.toNat : Int))) g (l.set j x) := by
  obtain ⟨cs, n, h, hn, hc⟩ := h
  refine ⟨cs.setIfInBounds j (.int .u8 (x.toNat : Int)), n, ?_, by simpa using hn, fun i hi => ?_⟩
  · simp [World.setCell, Array.getElem?_modify, h]
  · have hi' : i < l.length := by simpa using hi
    have := hc i hi'
    have hz : i < cs.size := (Array.getElem?_eq_some_iff.1 this).1
    rw [Array.getElem?_setIfInBounds, List.getElem_set]
    by_cases e : j = i
    · subst e; rw [if_pos rfl, if_pos hz, if_pos rfl]
    · rw [if_neg e, if_neg e]; exact this
theorem ByB.made (w : World) (s : ByteArray) (c : Nat) (hc : s.size ≤ c) : ByB (w.alloc (.cells (bytesRow s c) 5 ((bytesRow s c).size, (bytesRow s c).size + 1))) w.heap.size s.data.toList := by
  refine ⟨_, _, World.alloc_heap_new w _, ?_, fun j hj => ?_⟩
  · have : s.data.toList.length = s.size := by simp
    rw [this]
    simp [bytesRow]
  · have hz : j < s.data.size := by simpa using hj
    have hz2 : j < s.size := hz
    have hg : s.data[j]? = some s.data[j] := Array.getElem?_eq_getElem hz
    simp [bytesRow, Array.getElem?_append, hz2, hg]
end Go.Proofs.YthkilodnghiocaaGreatDoor
