import Derived.Test.YtkmddjbialpppaaGreatDoorMem
import Derived.OrdersHeld
import Derived.Deep.MidRow
import Derived.RangeFuncBox
import Derived.RangeFuncWrites
namespace Go.Proofs.YtkmddjbialpppaaGreatDoor
theorem cA {r : Bool} {p : Prop} (h : r = true ↔ p) (hp : p) : true = r := (h.2 hp).symm
theorem bI {r : Bool} {p : Prop} (h : r = true ↔ p) (hp : ¬ p) : false = r := by
  cases hr : r with
  | false => rfl
  | true => exact absurd (h.1 hr) hp
theorem dV {r : Bool} {p q : Prop} [Decidable q] (h : r = true ↔ p) (hq : p ↔ q) : decide q = r := by
  cases hr : r with
  | false => exact decide_eq_false (fun hq2 => by rw [h.2 (hq.2 hq2)] at hr; cases hr)
  | true => exact decide_eq_true (hq.1 (h.1 hr))
namespace SG
structure Sg where
  start : Int
  width : Int
  big : Bool
  sgn : Bool
def stepD (p : Nat) : Nat := if p % 8 = 0 then p + 15 else p - 1
def dn (s : Nat) : Nat → Nat
  | 0 => s
  | i + 1 => stepD (dn s i)
def iW (s : Sg) : Bool := decide (0 ≤ s.start ∧ s.start < 64 ∧ 1 ≤ s.width ∧ s.width ≤ 64 ∧ ¬ (s.width = 64 ∧ s.sgn = false))
def atN (s : Sg) (i : Nat) : Nat := if s.big then dn s.start.toNat i else s.start.toNat + i
def dO (s : Sg) (n : Nat) : List Nat := (List.range n).map (atN s)
def eU (s : Sg) : List Nat := if s.big then (dO s s.width.toNat).reverse else dO s s.width.toNat
def eG (s : Sg) : List Nat := if iW s = true ∧ ∀ p ∈ eU s, p < 64 then eU s else []
def lin (p : Nat) : Nat := p / 8 * 8 + (7 - p % 8)
theorem lin_step (p : Nat) : lin (stepD p) = lin p + 1 := by unfold lin stepD; split <;> omega
theorem lin_dn (s i : Nat) : lin (dn s i) = lin s + i := by
  induction i with
  | zero => rfl
  | succ i ih => rw [dn, lin_step, ih]; omega
theorem step_le (p : Nat) : stepD p ≤ p + 15 := by unfold stepD; split <;> omega
theorem dn_le (s i : Nat) : dn s i ≤ s + 15 * i := by
  induction i with
  | zero => simp [dn]
  | succ i ih => rw [dn]; have := step_le (dn s i); omega
theorem atN_inj (s : Sg) {i j : Nat} (h : atN s i = atN s j) : i = j := by
  unfold atN at h
  split at h
  · have h1 := lin_dn s.start.toNat i
    have h2 := lin_dn s.start.toNat j
    rw [h] at h1
    omega
  · omega
theorem seqL_succ (s : Sg) (n : Nat) : dO s (n + 1) = dO s n ++ [atN s n] := by unfold dO; rw [List.range_succ, List.map_append]; rfl
theorem bH (s : Sg) (n : Nat) : (dO s n).length = n := by simp [dO]
theorem seqL_nodup (s : Sg) (n : Nat) : (dO s n).Nodup := by
  unfold dO
  rw [List.nodup_iff_pairwise_ne, List.pairwise_map]
  refine (List.nodup_range (n := n)).imp ?_
  intro a b hab h
  exact hab (atN_inj s h)
theorem rawL_nodup (s : Sg) : (eU s).Nodup := by
  unfold eU
  split
  · rw [List.nodup_iff_pairwise_ne, List.pairwise_reverse]
    exact (seqL_nodup _ _).imp (fun h => Ne.symm h)
  · exact seqL_nodup _ _
theorem rawL_length (s : Sg) : (eU s).length = s.width.toNat := by
  unfold eU
  split
  · rw [List.length_reverse, bH]
  · exact bH _ _
theorem plL_nodup (s : Sg) : (eG s).Nodup := by
  unfold eG
  split
  · exact rawL_nodup s
  · exact List.nodup_nil
theorem plL_lt {s : Sg} {p : Nat} (h : p ∈ eG s) : p < 64 := by
  unfold eG at h
  split at h
  · rename_i h2; exact h2.2 p h
  · cases h
theorem plL_may {s : Sg} (h : eG s ≠ []) : iW s = true ∧ (∀ p ∈ eU s, p < 64) ∧ eG s = eU s := by
  unfold eG at h ⊢
  split at h
  · rename_i h2; rw [if_pos h2]; exact ⟨h2.1, h2.2, rfl⟩
  · exact absurd rfl h
theorem jP {s : Sg} : iW s = true ↔ 0 ≤ s.start ∧ s.start < 64 ∧ 1 ≤ s.width ∧ s.width ≤ 64 ∧ ¬ (s.width = 64 ∧ s.sgn = false) := by unfold iW; rw [decide_eq_true_eq]
theorem j9 {s : Sg} (h : eG s ≠ []) : (eG s).length = s.width.toNat ∧ 1 ≤ s.width ∧ s.width ≤ 64 := by
  obtain ⟨h1, _, h3⟩ := plL_may h
  rw [h3, rawL_length]
  have := jP.1 h1
  exact ⟨rfl, this.2.2.1, this.2.2.2.1⟩
theorem rawL_ne {s : Sg} (h : iW s = true) : eU s ≠ [] := by
  intro h0
  have h1 := rawL_length s
  have := jP.1 h
  rw [h0, List.length_nil] at h1
  omega
def vbit (v : Int) (i : Nat) : Bool := decide (v / 2 ^ i % 2 = 1)
theorem low_bits {v u : Int} : ∀ n : Nat, (∀ i < n, vbit v i = vbit u i) → v % 2 ^ n = u % 2 ^ n
  | 0, _ => by simp [Int.emod_one]
  | n + 1, h => by
    have ih := low_bits n (fun i hi => h i (by omega))
    have hb := h n (by omega)
    have h2 : v / 2 ^ n % 2 = u / 2 ^ n % 2 := by
      unfold vbit at hb
      have := Int.emod_two_eq (v / 2 ^ n)
      have := Int.emod_two_eq (u / 2 ^ n)
      have hb' : (v / 2 ^ n % 2 = 1) ↔ (u / 2 ^ n % 2 = 1) := by simpa using hb
      omega
    have key : ∀ x : Int, x % 2 ^ (n + 1) = x % 2 ^ n + 2 ^ n * (x / 2 ^ n % 2) := by
      intro x
      have hp : (0 : Int) < 2 ^ n := Int.pow_pos (by omega)
      have e1 := Int.emod_add_mul_ediv x (2 ^ n)
      have e2 := Int.emod_add_mul_ediv (x / 2 ^ n) 2
      have b1 := Int.emod_nonneg x (show (2 : Int) ^ n ≠ 0 by omega)
      have b2 := Int.emod_lt_of_pos x hp
      have b3 := Int.emod_two_eq (x / 2 ^ n)
      have hs : (2 : Int) ^ (n + 1) = 2 ^ n * 2 := by rw [Int.pow_succ]
      rw [hs]
      have hx : x = (x % 2 ^ n + 2 ^ n * (x / 2 ^ n % 2)) + 2 ^ n * 2 * (x / 2 ^ n / 2) := by
        rw [Int.mul_assoc, Int.add_assoc, ← Int.mul_add, e2]; exact e1.symm
      have hr : 0 ≤ x % 2 ^ n + 2 ^ n * (x / 2 ^ n % 2) ∧ x % 2 ^ n + 2 ^ n * (x / 2 ^ n % 2) < 2 ^ n * 2 := by
        rcases b3 with b3 | b3 <;> rw [b3] <;> omega
      generalize x % 2 ^ n + 2 ^ n * (x / 2 ^ n % 2) = r at *
      rw [hx, Int.add_mul_emod_self_left, Int.emod_eq_of_lt hr.1 hr.2]
    rw [key v, key u, ih, h2]
def fU (s : Sg) (v : Int) : Bool :=
  if s.sgn then decide (v / 2 ^ (s.width - 1).toNat = 0 ∨ v / 2 ^ (s.width - 1).toNat = -1) else decide (0 ≤ v ∧ (63 ≤ s.width ∨ v / 2 ^ s.width.toNat = 0))
def dN (s : Sg) (n : Int) : Bool := decide (eG s ≠ [] ∧ 0 ≤ n ∧ n ≤ 8 ∧ ∀ p ∈ eG s, (p : Int) < 8 * n)
theorem rightS_iff {s : Sg} {n : Int} : dN s n = true ↔ eG s ≠ [] ∧ 0 ≤ n ∧ n ≤ 8 ∧ ∀ p ∈ eG s, (p : Int) < 8 * n := by unfold dN; rw [decide_eq_true_eq]
end SG
namespace PD
open SG
structure Ly where
  size : Int
  sgs : List Sg
  nws : List Int
def i5 (sgs : List Sg) (nws : List Int) (p : Nat) : Nat := (sgs.flatMap eG).count p + nws.countP (fun a => a == (p : Int))
def rightB (L : Ly) : Bool := decide (0 ≤ L.size ∧ L.size ≤ 8 ∧ L.sgs.length ≤ 16 ∧ L.nws.length = L.sgs.length) && (L.sgs.all (fun s => dN s L.size) && (L.nws.all (fun a => decide (-1 ≤ a ∧ a < 8 * L.size)) && (List.range 64).all (fun p => decide (i5 L.sgs L.nws p ≤ 1))))
theorem fE {L : Ly} : rightB L = true ↔ 0 ≤ L.size ∧ L.size ≤ 8 ∧ L.sgs.length ≤ 16 ∧ L.nws.length = L.sgs.length ∧ (∀ s ∈ L.sgs, dN s L.size = true) ∧ (∀ a ∈ L.nws, -1 ≤ a ∧ a < 8 * L.size) ∧ ∀ p < 64, i5 L.sgs L.nws p ≤ 1 := by
  unfold rightB
  simp only [Bool.and_eq_true, decide_eq_true_eq, List.all_eq_true, List.mem_range, and_assoc]
theorem count_flat {L : List Sg} {i : Nat} (hi : i < L.length) (p : Nat) : (eG L[i]).count p ≤ (L.flatMap eG).count p := by
  induction L generalizing i with
  | nil => exact absurd hi (by simp)
  | cons x L ih =>
    rw [List.flatMap_cons, List.count_append]
    cases i with
    | zero => simp
    | succ i => have := ih (i := i) (by simpa using hi); simp only [List.getElem_cons_succ]; omega
theorem count_flat2 {L : List Sg} {i k : Nat} (hik : i < k) (hk : k < L.length) (p : Nat) : (eG (L[i]'(by omega))).count p + (eG L[k]).count p ≤ (L.flatMap eG).count p := by
  induction L generalizing i k with
  | nil => exact absurd hk (by simp)
  | cons x L ih =>
    rw [List.flatMap_cons, List.count_append]
    obtain ⟨k, rfl⟩ : ∃ k', k = k' + 1 := ⟨k - 1, by omega⟩
    have hk' : k < L.length := by simpa using hk
    cases i with
    | zero => have := count_flat hk' p; simp only [List.getElem_cons_zero, List.getElem_cons_succ]; omega
    | succ i => have := ih (i := i) (k := k) (by omega) hk'; simp only [List.getElem_cons_succ]; omega
theorem apart {L : Ly} (h : rightB L = true) {i k : Nat} (hne : i ≠ k) (hi : i < L.sgs.length) (hk : k < L.sgs.length) {p : Nat} (h1 : p ∈ eG L.sgs[i]) (h2 : p ∈ eG L.sgs[k]) : False := by
  have hr := (fE.1 h).2.2.2.2.2.2 p (plL_lt h1)
  have c1 := List.count_pos_iff.2 h1
  have c2 := List.count_pos_iff.2 h2
  unfold i5 at hr
  rcases Nat.lt_or_gt_of_ne hne with h | h
  · have := count_flat2 h hk p; omega
  · have := count_flat2 h hi p; omega
def dflt : Sg := ⟨0, 0, false, false⟩
end PD
namespace CM
open SG PD
structure Flt where
  kind : Int
  mask : Int
  x : Int
  mn : Int
  mx : Int
  every : Int
  frm : Int
  old : Int
  count : Int
def fltB (f : Flt) : Bool := decide (1 ≤ f.kind ∧ f.kind ≤ 8 ∧ f.mn ≤ f.mx ∧ 0 ≤ f.count ∧ f.count ≤ 1099511627776 ∧ (f.kind = 8 → 1 ≤ f.every ∧ f.every ≤ 1000000 ∧ 0 ≤ f.frm ∧ f.frm < f.every))
theorem kN {f : Flt} : fltB f = true ↔ 1 ≤ f.kind ∧ f.kind ≤ 8 ∧ f.mn ≤ f.mx ∧ 0 ≤ f.count ∧ f.count ≤ 1099511627776 ∧ (f.kind = 8 → 1 ≤ f.every ∧ f.every ≤ 1000000 ∧ 0 ≤ f.frm ∧ f.frm < f.every) := by unfold fltB; rw [decide_eq_true_eq]
def eqF (f : Flt) (v : Int) : Bool := bits .and .i64 v f.mask == f.x
def inF (f : Flt) (v : Int) : Bool := decide (f.mn ≤ v) && decide (v ≤ f.mx)
def newF (f : Flt) (v : Int) : Bool := bits .and .i64 (bits .xor .i64 v f.old) f.mask != 0
def evF (f : Flt) : Bool := f.count.tmod f.every == f.frm
def gX (f : Flt) (v : Int) : Bool :=
  if f.kind = 1 then true else if f.kind = 2 then false else if f.kind = 3 then eqF f v else if f.kind = 4 then !eqF f v else if f.kind = 5 then newF f v else if f.kind = 6 then inF f v else if f.kind = 7 then !inF f v else evF f
structure Wy where
  kind : Int
  first : Int
  period : Int
  reps : Int
  gap : Int
def iU (w : Wy) : Bool := decide (w.kind = 2 ∨ w.kind = 3)
def dirB (w : Wy) : Bool := decide (w.kind = 1 ∨ w.kind = 3)
def jW (w : Wy) : Bool := decide (0 ≤ w.kind ∧ w.kind ≤ 3 ∧ 0 ≤ w.first ∧ w.first ≤ 1000000 ∧ 0 ≤ w.period ∧ w.period ≤ 1000000 ∧ 0 ≤ w.reps ∧ w.reps ≤ 100 ∧ 0 ≤ w.gap ∧ w.gap ≤ 1000000 ∧ ((w.kind = 2 ∨ w.kind = 3) → 0 < w.period) ∧ (w.reps = 0 ∨ 0 < w.gap))
theorem wayB_iff {w : Wy} : jW w = true ↔ 0 ≤ w.kind ∧ w.kind ≤ 3 ∧ 0 ≤ w.first ∧ w.first ≤ 1000000 ∧ 0 ≤ w.period ∧ w.period ≤ 1000000 ∧ 0 ≤ w.reps ∧ w.reps ≤ 100 ∧ 0 ≤ w.gap ∧ w.gap ≤ 1000000 ∧ ((w.kind = 2 ∨ w.kind = 3) → 0 < w.period) ∧ (w.reps = 0 ∨ 0 < w.gap) := by unfold jW; rw [decide_eq_true_eq]
structure Snd where
  yes : Wy
  no : Wy
  on : Bool
  delay : Int
  period : Int
  gap : Int
  left : Int
  hold : Int
  asked : Bool
def Snd.way (s : Snd) : Wy := if s.on then s.yes else s.no
def sndB (s : Snd) : Bool := jW s.yes && (jW s.no && decide (0 ≤ s.delay ∧ s.delay ≤ 1000000 ∧ 0 ≤ s.hold ∧ s.hold ≤ s.delay ∧
  (if iU s.way then 1 ≤ s.period ∧ s.period ≤ max (max s.way.first s.way.period) 1 else s.period = 0) ∧
  0 ≤ s.left ∧ s.left ≤ (if dirB s.way then s.way.reps else 0) ∧ (if 0 < s.left then 1 ≤ s.gap ∧ s.gap ≤ s.way.gap else s.gap = 0)))
def jG (yes no : Wy) (on : Bool) (delay : Int) : Snd := ⟨yes, no, on, delay, if iU (if on then yes else no) then max (if on then yes else no).first 1 else 0, 0, 0, 0, false⟩
def fW (yes no : Wy) (delay : Int) : Bool := jW yes && (jW no && decide (0 ≤ delay ∧ delay ≤ 1000000))
theorem sndNew_right {yes no : Wy} {on : Bool} {delay : Int} (h : fW yes no delay = true) : sndB (jG yes no on delay) = true := by
  unfold fW at h
  simp only [Bool.and_eq_true, decide_eq_true_eq] at h
  obtain ⟨h1, h2, h3⟩ := h
  have hw : jW (if on then yes else no) = true := by cases on <;> simp [h1, h2]
  have hw' := wayB_iff.1 hw
  unfold sndB jG
  simp only [Bool.and_eq_true, decide_eq_true_eq]
  refine ⟨h1, h2, h3.1, h3.2, by omega, by omega, ?_⟩
  have e : (Snd.way ⟨yes, no, on, delay, if iU (if on then yes else no) then max (if on then yes else no).first 1 else 0, 0, 0, 0, false⟩) = if on then yes else no := rfl
  rw [e]
  generalize (if on then yes else no) = w at *
  refine ⟨?_, by omega, ?_, by simp⟩
  · split
    · omega
    · rfl
  · split <;> omega
structure Wt where
  first : Int
  each : Int
  left : Int
  on : Bool
  late : Bool
def wtB (w : Wt) : Bool := decide (0 ≤ w.first ∧ w.first ≤ 1000000 ∧ 0 ≤ w.each ∧ w.each ≤ 1000000 ∧ 0 ≤ w.left ∧ w.left ≤ max w.first w.each ∧ (w.on = true ∨ w.left = 0 ∧ w.late = false) ∧ (w.late = false ∨ w.left = 0))
end CM
end Go.Proofs.YtkmddjbialpppaaGreatDoor
namespace Go.Proofs.YtkmddjbialpppaaGreatDoor
open Go.ChangeShapes Go.WideShapes Go.ChangeAt Go.RowKit
section
variable {P : Program} {ops : Array Oper} {Q : Exit → Act → World → Prop} {md : Region.Mode}
variable {L : List Nat} {R : Nat → World → Prop}
theorem wpOp_at {i : Nat} {o : Oper} {K : Act → World → Prop} {a : Act} {w : World} (hi : ops[i]? = some o) (h : if Region.wanted o (yielded ops a.tmps) = true then Oper.wp P o a w K Q else K (a.put o.dst undef) w) : wpOp P ops Q i K a w := by
  unfold wpOp
  rw [hi]
  dsimp only
  split
  · rename_i hw
    rw [if_pos hw] at h
    exact .inl h
  · rename_i hw
    rw [if_neg hw] at h
    exact h
end
theorem aH {W : World} {x : Nat} {o : Obj} (h : W.heap[x]? = some o) : x < W.heap.size := (Array.getElem?_eq_some_iff.1 h).1
theorem aB {W W' : World} {x : Nat} {o : Obj} (h : W.heap[x]? = some o) (hb : Below W.heap.size W W') : W'.heap[x]? = some o := (hb.block x (aH h)).trans h
theorem heap_grown {W W' : World} {x : Nat} {cs : Array Value} {t e : TypeId} {fz : Nat × Nat} (h : W.heap[x]? = some (.cells cs t fz)) (hte : t ≠ e) {base sz : Nat} {A : Option Addr} {c n : Nat} {r : List (List Value)} (ho : Own W base e sz A c r)
    (hg : W.grownBy W' (Value.slice A n c).ownBlock) : W'.heap[x]? = some (.cells cs t fz) := by
  refine (hg.block x (aH h) ?_).trans h
  intro hx
  rcases ho.2 with ⟨hv, _⟩ | ⟨g, cap, cur, hv, _, hgh, _⟩
  · simp only [Value.slice.injEq] at hv
    obtain ⟨rfl, _, _⟩ := hv
    simp [Value.ownBlock] at hx
  · simp only [Value.slice.injEq] at hv
    obtain ⟨rfl, _, _⟩ := hv
    simp only [Value.ownBlock, Option.some.injEq] at hx
    subst hx
    rw [h] at hgh
    injection hgh with hgh
    injection hgh with _ h2 _
    exact hte h2
theorem own_set {W : World} {base e sz : Nat} {A : Option Addr} {c : Nat} {r : List (List Value)} (h : Own W base e sz A c r) {x : Nat} (hx : x < base) (v : Value) : Own (W.setCell ⟨x, 0, none⟩ v) base e sz A c r := by
  refine World.ownsRow.kept h (grownBy_setCell' W x v) ?_
  rcases hA : (Value.slice A r.length c).ownBlock with _ | g
  · exact .inl rfl
  · refine .inr ?_
    have := (World.ownsRow.lt h g hA).1
    intro e
    injection e with e
    omega
theorem flatten_set {α : Type} : ∀ (R : List (List α)) (sz : Nat), (∀ r ∈ R, r.length = sz) → ∀ (k j : Nat) (row : List α) (v : α), R[k]? = some row → j < sz → R.flatten.set (k * sz + j) v = (R.set k (row.set j v)).flatten
  | [], _, _, _, _, _, _, h, _ => by simp at h
  | r :: R, sz, hs, 0, j, row, v, h, hj => by
    simp only [List.getElem?_cons_zero, Option.some.injEq] at h
    subst h
    have hl : r.length = sz := hs r (by simp)
    rw [List.flatten_cons, Nat.zero_mul, Nat.zero_add, List.set_append_left _ _ (by omega)]
    rfl
  | r :: R, sz, hs, k + 1, j, row, v, h, hj => by
    simp only [List.getElem?_cons_succ] at h
    have hl : r.length = sz := hs r (by simp)
    rw [List.flatten_cons, List.set_append_right _ _ (by rw [hl, Nat.add_mul]; omega), hl]
    rw [show (k + 1) * sz + j - sz = k * sz + j by rw [Nat.add_mul]; omega, flatten_set R sz (fun r hr => hs r (by simp [hr])) k j row v h hj]
    rfl
theorem own_at {W : World} {base e sz g c : Nat} {R : List (List Value)} (h : Own W base e sz (some ⟨g, 0, none⟩) c R) (hR : ∀ r ∈ R, r.length = sz) {k j : Nat} {row : List Value} {v : Value} (hk : R[k]? = some row) (hj : row[j]? = some v) : W.cell? ⟨g, k * sz + j, none⟩ = some v := by
  have := World.ownsRow.cells h (g := g) rfl (k * sz + j) v (fN R sz hR k row j v hk hj)
  rw [Go.WideShapes.add_plain, Nat.zero_add] at this
  exact this
theorem bcell {W w1 : World} (hb : Below W.heap.size W w1) : (∀ b o, b < W.heap.size → w1.cell? ⟨b, o, none⟩ = W.cell? ⟨b, o, none⟩) ∧ W.heap.size ≤ w1.heap.size :=
  ⟨fun b o h => hb.cell (p := ⟨b, o, none⟩) h, hb.size⟩
def eH {α : Type} : List α → Nat → List α → List α
  | xs, _, [] => xs
  | xs, o, v :: r => eH (xs.set o v) (o + 1) r
theorem setL_get {α : Type} : ∀ (vs : List α) (xs : List α) (o i : Nat), o + vs.length ≤ xs.length → (eH xs o vs)[i]? = if o ≤ i ∧ i < o + vs.length then vs[i - o]? else xs[i]?
  | [], xs, o, i, _ => by
    rw [if_neg (by simp only [List.length_nil]; omega)]; rfl
  | v :: r, xs, o, i, h => by
    simp only [List.length_cons] at h
    rw [eH, setL_get r _ (o + 1) i (by simp; omega)]
    by_cases h1 : o = i
    · subst h1
      rw [if_neg (by omega), if_pos (by simp), List.getElem?_set_self (by omega)]
      simp
    · rw [List.getElem?_set_ne h1]
      by_cases h2 : o + 1 ≤ i ∧ i < o + 1 + r.length
      · rw [if_pos h2, if_pos (by simp; omega), show i - o = (i - (o + 1)) + 1 by omega]
        rfl
      · rw [if_neg h2, if_neg (by simp; omega)]
theorem setL_whole {α : Type} (r v : List α) (h : v.length = r.length) : eH r 0 v = v := by
  apply List.ext_getElem?
  intro i
  rw [setL_get v r 0 i (by omega)]
  split
  · simp
  · rw [List.getElem?_eq_none (by omega), List.getElem?_eq_none (by omega)]
theorem flatten_setL {α : Type} {sz k : Nat} : ∀ (vs : List α) (R : List (List α)) (r : List α) (j : Nat), (∀ r ∈ R, r.length = sz) → R[k]? = some r → j + vs.length ≤ sz → eH R.flatten (k * sz + j) vs = (R.set k (eH r j vs)).flatten
  | [], R, r, j, _, hk, _ => by
    obtain ⟨h, rfl⟩ := List.getElem?_eq_some_iff.1 hk
    simp [eH]
  | v :: vs, R, r, j, hs, hk, hj => by
    simp only [List.length_cons] at hj
    have hl : r.length = sz := hs r (List.mem_of_getElem? hk)
    have hkl := (List.getElem?_eq_some_iff.1 hk).1
    rw [eH, flatten_set R sz hs k j r v hk (by omega)]
    have ih := flatten_setL (k := k) vs (R.set k (r.set j v)) (r.set j v) (j + 1) (fun r' hr' => by
      rcases List.mem_or_eq_of_mem_set hr' with h | h
      · exact hs r' h
      · rw [h]; simpa using hl) (List.getElem?_set_self hkl) (by omega)
    rw [Nat.add_assoc, ih, List.set_set]
    rfl
theorem cZ {w1 w2 w3 : World} {row : Option Nat} (h : w1.grownBy w2 row) (h2 : w2.grownBy w3 row) : w1.grownBy w3 row :=
  ⟨h2.os.trans h.os, h2.tape.trans h.tape, h2.output.trans h.output, Nat.le_trans h.size h2.size, fun k hk hr => (h2.block k (Nat.lt_of_lt_of_le hk h.size) hr).trans (h.block k hk hr)⟩
theorem iB {base : Nat} {e : TypeId} {sz g n c : Nat} : ∀ (vs : List Value) (o : Nat) (W : World) (xs : List Value), W.ownsRow base e sz (.slice (some ⟨g, 0, none⟩) n c) n xs →
    (W.setCells g o vs).ownsRow base e sz (.slice (some ⟨g, 0, none⟩) n c) n (eH xs o vs) ∧ W.grownBy (W.setCells g o vs) (some g)
  | [], _, _, _, h => ⟨h, eV _ _⟩
  | v :: r, o, W, xs, h => by
    obtain ⟨h1, h2⟩ := World.ownsRow.stored h o v
    obtain ⟨h3, h4⟩ := iB r (o + 1) _ _ h1
    exact ⟨h3, cZ h2 h4⟩
theorem gZ {g : Nat} : ∀ (vs : List Value) (o : Nat) (W : World), (W.setCells g o vs).heap.size = W.heap.size
  | [], _, _ => rfl
  | v :: r, o, W => by rw [World.setCells, gZ r]; simp [World.setCell]
theorem Own.setRow {W : World} {base e sz g c k : Nat} {R : List (List Value)} {row : List Value} (h : Own W base e sz (some ⟨g, 0, none⟩) c R) (hs : ∀ r ∈ R, r.length = sz) (hk : k < R.length) (hr : row.length = sz) :
    Own (W.setCells g (k * sz) row) base e sz (some ⟨g, 0, none⟩) c (R.set k row) ∧ W.grownBy (W.setCells g (k * sz) row) (some g) := by
  obtain ⟨h1, h2⟩ := iB row (k * sz) W _ h
  refine ⟨?_, h2⟩
  have hk' : R[k]? = some R[k] := List.getElem?_eq_getElem hk
  have hl : R[k].length = sz := hs _ (List.getElem_mem hk)
  have := flatten_setL (k := k) row R R[k] 0 hs hk' (by omega)
  rw [Nat.add_zero, setL_whole _ _ (by omega)] at this
  rw [this] at h1
  unfold Own
  rw [List.length_set]
  exact h1
theorem Own.ofLen {W : World} {base e sz c : Nat} {A : Option Addr} {R : List (List Value)} (h : Own W base e sz A c R) (hn : 0 < R.length) : ∃ g, A = some ⟨g, 0, none⟩ ∧ base ≤ g ∧ g < W.heap.size := by
  rcases h.2 with ⟨hv, h0⟩ | ⟨g, cap, cur, hv, hb, hg, _⟩
  · omega
  · simp only [Value.slice.injEq] at hv
    exact ⟨g, hv.1, hb, (Array.getElem?_eq_some_iff.1 hg).1⟩
theorem bP {P : Program} {op : Oper} {a : Act} {w : World} {K : Act → World → Prop} {Q : Exit → Act → World → Prop} (ty : TypeId) (x y : Operand) (ho : op.op = .store ty x y)
    (b o : Nat) (cs : List Value) (hx : a.eval x = .pointer (some ⟨b, o, none⟩)) (hy : a.eval y = .agg cs.toArray)
    (ht : w.there b o cs.length) (hi : (P.info? ty).map (·.size) = some cs.length) (h1 : ∀ v ∈ cs, v.oneCell' = true)
    (h : ∀ W', W' = w.setCells b o cs → K (a.put op.dst undef) W') : op.wp P a w K Q :=
  wp_store_mid ty x y ho b o cs.toArray hx hy (by simpa using ht) (by simpa using hi) (all_oneCell_toArray h1) (by simpa using h _ rfl)
theorem wpList_store_as {P : Program} {ops : Array Oper} {rest : List Oper} {op : Oper} {a : Act} {w : World} {Q : Exit → Act → World → Prop} (hgd : op.guard = none) (ty : TypeId) (x y : Operand) (ho : op.op = .store ty x y)
    (b o : Nat) (cs : List Value) (hx : a.eval x = .pointer (some ⟨b, o, none⟩)) (hy : a.eval y = .agg cs.toArray)
    (ht : w.there b o cs.length) (hi : (P.info? ty).map (·.size) = some cs.length) (h1 : ∀ v ∈ cs, v.oneCell' = true)
    (h : ∀ W', W' = w.setCells b o cs → wpList P ops Q rest (a.put op.dst undef) W') : wpList P ops Q (op :: rest) a w :=
  wpList_plain hgd fun _ hK => bP ty x y ho b o cs hx hy ht hi h1 fun W' e => hK _ _ (h W' e)
theorem aM {P : Program} {ops : Array Oper} {Q : Exit → Act → World → Prop} {i : Nat} {o : Oper} {K : Act → World → Prop} {a : Act} {w : World} (hi : ops[i]? = some o) (hg : o.guard = none) (h : Oper.wp P o a w K Q) : wpOp P ops Q i K a w := by
  refine wpOp_at hi ?_
  rw [if_pos (by simp [Region.wanted, hg])]
  exact h
theorem rd_setCell {w : World} {B : Nat} {A : Option Addr} {sz : Nat} {R : List (List Value)} (h : Rd w B A sz R) {x j : Nat} (hx : ∀ g off, A = some ⟨g, off, none⟩ → g ≠ x) (v : Value) : Rd (w.setCell ⟨x, j, none⟩ v) B A sz R := fun hn => by
  obtain ⟨b, off, e, hlt, hc⟩ := h hn
  refine ⟨b, off, e, hlt, fun k row i u a c => ?_⟩
  rw [World.cell?_setCell_other _ _ _ _ (fun he => hx b off e (by injection he with h1; exact h1.symm))]
  exact hc k row i u a c
theorem Own.mono {W : World} {base base' : Nat} {e : TypeId} {sz : Nat} {A : Option Addr} {c : Nat} {R : List (List Value)} (h : Own W base e sz A c R) (hb : base' ≤ base) : Own W base' e sz A c R := by
  refine ⟨h.1, ?_⟩
  rcases h.2 with h | ⟨g, cap, cur, hv, hg, hrest⟩
  · exact .inl h
  · exact .inr ⟨g, cap, cur, hv, by omega, hrest⟩
theorem own_setj {W : World} {base : Nat} {e : TypeId} {sz : Nat} {A : Option Addr} {c : Nat} {R : List (List Value)} (h : Own W base e sz A c R) {x : Nat} (hx : x < base) (j : Nat) (v : Value) : Own (W.setCell ⟨x, j, none⟩ v) base e sz A c R := by
  have hg : W.grownBy (W.setCell ⟨x, j, none⟩ v) (some x) := ⟨rfl, rfl, rfl, by simp [World.setCell], fun k _ hk => heap_setCell_other W ⟨x, j, none⟩ k v (fun e => hk (by simp [e]))⟩
  refine World.ownsRow.kept h hg ?_
  rcases hA : (Value.slice A R.length c).ownBlock with _ | g
  · exact .inl rfl
  · refine .inr ?_
    have := (World.ownsRow.lt h g hA).1
    intro e
    injection e with e
    omega
theorem cM {base : Nat} {e : TypeId} {sz : Nat} {A : Option Addr} {c : Nat} {R : List (List Value)} {x : Nat} (hx : x < base) : ∀ (vs : List Value) (o : Nat) (W : World), Own W base e sz A c R → Own (W.setCells x o vs) base e sz A c R
  | [], _, _, h => h
  | v :: r, o, _, h => cM hx r (o + 1) _ (own_setj h hx o v)
theorem gQ {W : World} {base : Nat} {e : TypeId} {sz : Nat} {A : Option Addr} {c : Nat} {R : List (List Value)} (h : Own W base e sz A c R) : ∀ g off, A = some ⟨g, off, none⟩ → base ≤ g := fun g off he => by
  rcases h.2 with ⟨hv, _⟩ | ⟨g', cap, cur, hv, hb, _⟩
  · simp only [Value.slice.injEq] at hv; rw [hv.1] at he; cases he
  · simp only [Value.slice.injEq] at hv; rw [hv.1] at he; cases he; exact hb
theorem there_of {w : World} {b o : Nat} {cs : List Value} (h : w.rangeAt b o cs) (hf : ∀ j, w.frozen? ⟨b, o + j, none⟩ = false) : w.there b o cs.length := fun j hj => ⟨by rw [h j cs[j] (List.getElem?_eq_getElem hj)]; rfl, hf j⟩
theorem bQ {P : Program} (W : World) (g o : Nat) (ty : TypeId) (cs : List Value) (d : TypeDesc) (h : W.rangeAt g o cs) (hu : P.underlying ty = some d) (hd : d.isRow = true) (hi : (P.info? ty).map (·.size) = some cs.length)
    (ev : Operand → Value) (op : Oper) (p : Operand) (ho : op.op = .load ty p) (hp : ev p = .pointer (some ⟨g, o, none⟩)) : (execOp ev op).run P W = .ok (.value (.agg cs.toArray)) W := by
  have := run_loadAt_mid W g o ty cs d h hu hd hi
  unfold execOp
  simp only [ho, hp, Sem.run_bind, this, Result.andThen_ok, Sem.run_pure]
theorem f9 {w : World} {b o : Nat} {vs : List Value} {g j : Nat} (h : g ≠ b) : (w.setCells b o vs).cell? ⟨g, j, none⟩ = w.cell? ⟨g, j, none⟩ := World.cell?_setCells_out b vs o w _ fun e _ => absurd e h
theorem rd_far {w w' : World} {A : Option Addr} {sz B : Nat} {R : List (List Value)} (h : Rd w w.heap.size A sz R) (hb : ∀ g off, A = some ⟨g, off, none⟩ → B ≤ g) (hs : w.heap.size ≤ w'.heap.size) (hc : ∀ g j, B ≤ g → g < w.heap.size → w'.cell? ⟨g, j, none⟩ = w.cell? ⟨g, j, none⟩) : Rd w' w'.heap.size A sz R := fun hn => by
  obtain ⟨b, off, e, hlt, h⟩ := h hn
  exact ⟨b, off, e, by omega, fun k row j v a c => (hc b _ (hb b off e) hlt).trans (h k row j v a c)⟩
theorem aE {B g : Nat} : ∀ (vs : List Value) (o : Nat) (w : World), B ≤ g → Below B w (w.setCells g o vs)
  | [], _, _, _ => Below.refl _ _
  | v :: r, o, _, h => ((Below.refl _ _).setCell (p := ⟨g, o, none⟩) h v).trans (aE r (o + 1) _ h)
theorem bK {W : World} {B : Nat} {a b c : Value} {t : TypeId} {fz : Nat × Nat} (h : W.heap[B]? = some (.cells #[a, b, c] t fz)) : W.cell? ⟨B, 0, none⟩ = some a ∧ W.cell? ⟨B, 1, none⟩ = some b ∧ W.cell? ⟨B, 2, none⟩ = some c := by
  simp [World.cell?, h]
end Go.Proofs.YtkmddjbialpppaaGreatDoor
