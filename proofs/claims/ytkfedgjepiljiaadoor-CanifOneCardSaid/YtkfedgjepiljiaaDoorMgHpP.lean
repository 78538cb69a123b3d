/- The plain law of heaps of boxes: what up and down do; the order in which boxes win. -/
import Derived.Test.YtkfedgjepiljiaaDoorMgBxC
namespace Go.Proofs.YtkfedgjepiljiaaDoor
open FP (Fr)

namespace HP
open PP (bl)
/-- Ahead, of frames that may be. -/
def kB (x y : Bx) : Bool := bl (fieldF x.f) (fieldF y.f) || (!bl (fieldF y.f) (fieldF x.f) && decide (x.s < y.s))
theorem ahead_kB {x y : Bx} (hx : FP.rightB x.f = true) (hy : FP.rightB y.f = true) : aheadB x y = kB x y := by
  unfold aheadB kB
  rw [PP.lessB_bl hx hy, PP.lessB_bl hy hx]

theorem kB_cases (x y : Bx) : (fieldF x.f = fieldF y.f ∧ kB x y = decide (x.s < y.s)) ∨ (fieldF x.f ≠ fieldF y.f ∧ kB x y = bl (fieldF x.f) (fieldF y.f) ∧ bl (fieldF x.f) (fieldF y.f) = !bl (fieldF y.f) (fieldF x.f)) := by
  unfold kB
  by_cases h : fieldF x.f = fieldF y.f
  · left; rw [h, PP.bl_irrefl]; simp
  · right
    have := PP.bl_total (PP.fld_of x.f) (PP.fld_of y.f) h
    refine ⟨h, ?_, this⟩
    rw [this]
    cases bl (fieldF y.f) (fieldF x.f) <;> simp
theorem kB_irrefl (x : Bx) : kB x x = false := by
  unfold kB; rw [PP.bl_irrefl]; simp
theorem kB_asymm {x y : Bx} (h : kB x y = true) : kB y x = false := by
  rcases kB_cases x y with ⟨e, h1⟩ | ⟨e, h1, h2⟩ <;> rcases kB_cases y x with ⟨e', h1'⟩ | ⟨e', h1', h2'⟩
  · rw [h1] at h; rw [h1']; simp at *; omega
  · exact absurd e.symm e'
  · exact absurd e'.symm e
  · rw [h1] at h; rw [h1', h2', h]; rfl
/-- What is not ahead of what is not ahead of a third one, is not ahead of that. -/
theorem kB_ntrans {x y z : Bx} (h : kB x y = false) (h' : kB y z = false) : kB x z = false := by
  rcases kB_cases x y with ⟨e, h1⟩ | ⟨e, h1, h2⟩ <;> rcases kB_cases y z with ⟨e', h1'⟩ | ⟨e', h1', h2'⟩
  · rcases kB_cases x z with ⟨e2, h3⟩ | ⟨e2, _⟩
    · rw [h3]; rw [h1] at h; rw [h1'] at h'; simp at *; omega
    · exact absurd (e.trans e') e2
  · rcases kB_cases x z with ⟨e2, _⟩ | ⟨_, h3, _⟩
    · exact absurd (e.symm.trans e2) e'
    · rw [h3, e, ← h1', h']
  · rcases kB_cases x z with ⟨e2, _⟩ | ⟨_, h3, _⟩
    · exact absurd (e2.trans e'.symm) e
    · rw [h3, ← e', ← h1, h]
  · have hzy : bl (fieldF z.f) (fieldF y.f) = true := by rw [h1', h2'] at h'; simpa using h'
    have hyx : bl (fieldF y.f) (fieldF x.f) = true := by rw [h1, h2] at h; simpa using h
    have hzx := PP.bl_trans _ _ _ hzy hyx
    rcases kB_cases x z with ⟨e2, _⟩ | ⟨_, h3, h4⟩
    · rw [e2, PP.bl_irrefl] at hzx; cases hzx
    · rw [h3, h4, hzx]; rfl
theorem kB_total {x y : Bx} (h : x.s ≠ y.s) : kB x y = true ∨ kB y x = true := by
  rcases kB_cases x y with ⟨e, h1⟩ | ⟨e, h1, h2⟩ <;> rcases kB_cases y x with ⟨e', h1'⟩ | ⟨e', h1', h2'⟩
  · rw [h1, h1']; simp; omega
  · exact absurd e.symm e'
  · exact absurd e'.symm e
  · rw [h1, h1', h2']; cases bl (fieldF x.f) (fieldF y.f) <;> simp

/-- l at k, anything where there is none. -/
def at' (l : List Bx) (k : Nat) : Bx := (l[k]?).getD ⟨0, ⟨0, false, false, 0, ⟨#[]⟩⟩, 0⟩
theorem at_lt {l : List Bx} {k : Nat} (h : k < l.length) : at' l k = l[k] := by unfold at'; rw [List.getElem?_eq_getElem h]; rfl
theorem at_swap {l : List Bx} {i k : Nat} (hi : i < l.length) (hk : k < l.length) (m : Nat) : at' (swapL l i k) m = if m = k then at' l i else if m = i then at' l k else at' l m := by
  rw [swapL_eq hi hk, at_lt hi, at_lt hk]
  unfold at'
  by_cases h : m = k
  · subst h
    rw [if_pos rfl, List.getElem?_set_self (by simpa using hk)]
    rfl
  · rw [if_neg h, List.getElem?_set_ne (Ne.symm h)]
    by_cases h2 : m = i
    · subst h2
      rw [if_pos rfl, List.getElem?_set_self hi]
      rfl
    · rw [if_neg h2, List.getElem?_set_ne (Ne.symm h2)]

theorem perm_set_set (l : List Bx) (i k : Nat) (hi : i < l.length) (hk : k < l.length) : ((l.set i l[k]).set k l[i]).Perm l := by
  letI : DecidableEq Bx := fun _ _ => Classical.propDecidable _
  rw [List.perm_iff_count]
  intro a
  rw [List.count_set (by simpa using hk), List.count_set hi]
  by_cases e : i = k
  · subst e
    simp
    have : 0 < l.count l[i] := List.count_pos_iff.2 (List.getElem_mem hi)
    split
    · rename_i h; have h : l[i] = a := by simpa using h
      subst h; omega
    · omega
  · rw [List.getElem_set_ne e]
    have h1 : 0 < l.count l[i] := List.count_pos_iff.2 (List.getElem_mem hi)
    have h2 : 0 < l.count l[k] := List.count_pos_iff.2 (List.getElem_mem hk)
    by_cases a1 : l[i] = a <;> by_cases a2 : l[k] = a
    · subst a1; simp [a2] <;> omega
    · subst a1; simp [a2] <;> omega
    · subst a2; simp [a1]
    · simp [a1, a2]
theorem swapL_perm (l : List Bx) (i k : Nat) : (swapL l i k).Perm l := by
  by_cases hi : i < l.length
  · by_cases hk : k < l.length
    · rw [swapL_eq hi hk]; exact perm_set_set l i k hi hk
    · unfold swapL; rw [List.getElem?_eq_none (by omega : l.length ≤ k)]; split <;> simp_all
  · unfold swapL; rw [List.getElem?_eq_none (by omega : l.length ≤ i)]

theorem ext_at {l m : List Bx} (hl : l.length = m.length) (h : ∀ k, k < l.length → at' l k = at' m k) : l = m := by
  apply List.ext_getElem hl
  intro k h1 h2
  have := h k h1
  rwa [at_lt h1, at_lt h2] at this

/-- A heap, as far as children of what is not ahead of lo, of the first n. -/
def Hp (l : List Bx) (lo n : Nat) : Prop := ∀ k, 0 < k → k < n → lo ≤ (k - 1) / 2 → kB (at' l k) (at' l ((k - 1) / 2)) = false

/-- A heap but for j, which may be ahead of those above it. -/
structure UpI (l : List Bx) (j : Nat) : Prop where
  lt : j < l.length
  a : ∀ k, 0 < k → k < l.length → k ≠ j → kB (at' l k) (at' l ((k - 1) / 2)) = false
  b : ∀ k, 0 < k → k < l.length → (k - 1) / 2 = j → 0 < j → kB (at' l k) (at' l ((j - 1) / 2)) = false
theorem UpI.stop {l : List Bx} {j : Nat} (h : UpI l j) (hs : j = 0 ∨ kB (at' l j) (at' l ((j - 1) / 2)) = false) : Hp l 0 l.length := fun k h0 hk _ => by
  by_cases e : k = j
  · subst e
    rcases hs with h | h
    · omega
    · exact h
  · exact h.a k h0 hk e
theorem UpI.step {l : List Bx} {j i : Nat} (h : UpI l j) (hi : i = (j - 1) / 2) (h0 : 0 < j) (ha : kB (at' l j) (at' l i) = true) : UpI (swapL l i j) i := by
  have hij : i < j := by omega
  have hil : i < l.length := by have := h.lt; omega
  refine ⟨by rw [swapL_len]; exact hil, fun k hk0 hk hki => ?_, fun k hk0 hk hki hi0 => ?_⟩
  · rw [swapL_len] at hk
    rw [at_swap hil h.lt, at_swap hil h.lt, if_neg hki]
    by_cases e : k = j
    · subst e
      rw [if_pos rfl, if_neg (by omega), if_pos hi.symm]
      exact kB_asymm ha
    · rw [if_neg e]
      by_cases e2 : (k - 1) / 2 = j
      · rw [if_pos e2]
        have := h.b k hk0 hk e2 h0
        rwa [← hi] at this
      · rw [if_neg e2]
        by_cases e3 : (k - 1) / 2 = i
        · rw [if_pos e3]
          have h1 := h.a k hk0 hk e
          rw [e3] at h1
          exact kB_ntrans h1 (kB_asymm ha)
        · rw [if_neg e3]
          exact h.a k hk0 hk e
  · rw [swapL_len] at hk
    rw [at_swap hil h.lt, at_swap hil h.lt, if_neg (by omega : (i - 1) / 2 ≠ j), if_neg (by omega : (i - 1) / 2 ≠ i)]
    by_cases e : k = j
    · subst e
      rw [if_pos rfl]
      exact h.a i hi0 hil (by omega)
    · rw [if_neg e, if_neg (by omega)]
      have h1 := h.a k hk0 hk e
      rw [hki] at h1
      exact kB_ntrans h1 (h.a i hi0 hil (by omega))

/-- A heap from lo on but for i, below which something may be ahead of it; of the first n. -/
structure DnI (l : List Bx) (lo n i : Nat) : Prop where
  le : n ≤ l.length
  low : lo ≤ i
  a : ∀ k, 0 < k → k < n → lo ≤ (k - 1) / 2 → (k - 1) / 2 ≠ i → kB (at' l k) (at' l ((k - 1) / 2)) = false
  b : ∀ k, 0 < k → k < n → (k - 1) / 2 = i → 0 < i → lo ≤ (i - 1) / 2 → kB (at' l k) (at' l ((i - 1) / 2)) = false
theorem DnI.stop {l : List Bx} {lo n i : Nat} (h : DnI l lo n i) (hs : ∀ k, 0 < k → k < n → (k - 1) / 2 = i → kB (at' l k) (at' l i) = false) : Hp l lo n := fun k h0 hk hl => by
  by_cases e : (k - 1) / 2 = i
  · rw [e]; exact hs k h0 hk e
  · exact h.a k h0 hk hl e
theorem DnI.step {l : List Bx} {lo n i j : Nat} (h : DnI l lo n i) (hj : (j - 1) / 2 = i) (h0 : 0 < j) (hjn : j < n) (ha : kB (at' l j) (at' l i) = true)
    (hb : ∀ k, 0 < k → k < n → (k - 1) / 2 = i → kB (at' l k) (at' l j) = false) : DnI (swapL l i j) lo n j := by
  have hij : i < j := by omega
  have hle := h.le
  have hjl : j < l.length := by omega
  have hil : i < l.length := by omega
  have hlo := h.low
  refine ⟨by rw [swapL_len]; exact h.le, by omega, fun k hk0 hk hkl hki => ?_, fun k hk0 hk hki hi0 hjl' => ?_⟩
  · rw [at_swap hil hjl, at_swap hil hjl, if_neg hki]
    by_cases e : (k - 1) / 2 = i
    · rw [if_pos e]
      by_cases e2 : k = j
      · subst e2
        rw [if_pos rfl]
        exact kB_asymm ha
      · rw [if_neg e2, if_neg (by omega)]
        exact hb k hk0 hk e
    · rw [if_neg e]
      by_cases e2 : k = i
      · subst e2
        rw [if_neg (by omega), if_pos rfl]
        exact h.b j h0 hjn hj hk0 hkl
      · rw [if_neg (by intro e3; subst e3; exact e hj), if_neg e2]
        exact h.a k hk0 hk hkl e
  · rw [at_swap hil hjl, at_swap hil hjl, hj, if_neg (by omega : i ≠ j), if_pos rfl, if_neg (by omega), if_neg (by omega)]
    have := h.a k hk0 hk (by omega) (by omega)
    rwa [hki] at this

/-- The first one of a heap: none is ahead of it. -/
theorem Hp.first {l : List Bx} {n : Nat} (h : Hp l 0 n) : ∀ k, k < n → kB (at' l k) (at' l 0) = false := by
  intro k
  induction k using Nat.strongRecOn with
  | _ k ih =>
    intro hk
    by_cases e : k = 0
    · subst e; exact kB_irrefl _
    · exact kB_ntrans (h k (by omega) hk (Nat.zero_le _)) (ih _ (by omega) (by omega))
theorem Hp.mono {l m : List Bx} {lo n n' : Nat} (h : Hp l lo n) (hn : n' ≤ n) (he : ∀ k, k < n' → at' m k = at' l k) : Hp m lo n' := fun k h0 hk hl => by
  rw [he k hk, he _ (by omega)]
  exact h k h0 (by omega) hl
end HP
end Go.Proofs.YtkfedgjepiljiaaDoor

/- container/heap over box's queue: up, Push. -/
namespace Go.Proofs.YtkfedgjepiljiaaDoor
open Go.ChangeShapes Go.WideShapes Go.ChangeAt Go.RowKit
open FP (Fr)
open HP (kB at' Hp UpI DnI)

/-- Boxes whose frames may be. -/
def GoodB (l : List Bx) : Prop := ∀ x ∈ l, FP.rightB x.f = true ∧ x.f.id < 4294967296
theorem GoodB.perm {l m : List Bx} (h : GoodB l) (p : m.Perm l) : GoodB m := fun x hx => h x (p.mem_iff.1 hx)
theorem GoodB.id {l : List Bx} (h : GoodB l) : ∀ x ∈ l, x.f.id < 4294967296 := fun x hx => (h x hx).2
theorem GoodB.ahead {l : List Bx} (h : GoodB l) {i k : Nat} (hi : i < l.length) (hk : k < l.length) : aheadB l[i] l[k] = kB (at' l i) (at' l k) := by
  rw [HP.at_lt hi, HP.at_lt hk]
  exact HP.ahead_kB (h _ (List.getElem_mem hi)).1 (h _ (List.getElem_mem hk)).1

/-- Less, as the heap asks it. -/
theorem less_hq {B : Nat} {w : World} {bq : Nat} {g c : Nat} {l : List Bx} {W : World} (h : HQ B w bq (some ⟨g, 0, none⟩) c l W) (hg : GoodB l) (i k : Nat) (hi : i < l.length) (hk : k < l.length) (b : Bool) (hb : kB (at' l i) (at' l k) = b) :
    Calls Tryd.prog 115 #[.slice (some ⟨g, 0, none⟩) l.length c, .int .i64 i, .int .i64 k] W fun e W' => e = .returned (.bool b) ∧ HQ B w bq (some ⟨g, 0, none⟩) c l W' :=
  (qLess_any l g 0 c i k W h.rd hg.id hi hk).mono fun _ W' ⟨a, q⟩ => ⟨by rw [a, hg.ahead hi hk, hb], h.below q⟩

set_option maxRecDepth 100000 in
set_option maxHeartbeats 1000000 in
theorem hpUp_any (B : Nat) (w : World) (bq : Nat) (g c : Nat) (l : List Bx) (W : World) (h : HQ B w bq (some ⟨g, 0, none⟩) c l W) (hg : GoodB l) (hl : l.length ≤ 1000) (j : Nat) (hI : UpI l j) :
    Calls Tryd.prog 52 #[.iface 75 (.pointer (some ⟨bq, 0, none⟩)), .int .i64 j] W fun e W' => e = .returned (.tuple #[]) ∧ ∃ l', HQ B w bq (some ⟨g, 0, none⟩) c l' W' ∧ l'.Perm l ∧ Hp l' 0 l'.length := by
  have H := hide h
  have HI := hide hI
  have HG := hide hg
  clear h hI hg
  go_enter Tryd.func52, Tryd.ntmps52
  go_wp2
  go_loopw [1] (fun v W1 => ∃ (k : Nat) (m : List Bx), v = .int .i64 k ∧ k ≤ 1000 ∧ Hid (HQ B w bq (some ⟨g, 0, none⟩) c m W1 ∧ m.Perm l ∧ UpI m k)) (fun v _ => (intOf v).toNat)
  case atStart => exact ⟨j, l, rfl, by have := HI.out.lt; omega, hide ⟨H.out, List.Perm.refl _, HI.out⟩⟩
  case round =>
    obtain ⟨k, m, rfl, hk, hr⟩ := hrel
    by_cases hk0 : k = 0
    · subst hk0
      go_wp2
      go_end0
      exact ⟨rfl, m, hr.out.1, hr.out.2.1, hr.out.2.2.stop (.inl rfl)⟩
    · obtain ⟨p, hp⟩ : ∃ p : Nat, p = (k - 1) / 2 := ⟨_, rfl⟩
      have hpe : ((k : Int) - 1) / 2 = (p : Int) := by omega
      have hpk : ((p : Int) == (k : Int)) = false := by rw [beq_eq_false_iff_ne]; omega
      have hkl := hr.out.2.2.lt
      have hlen : m.length = l.length := hr.out.2.1.length_eq
      have hpl : p < m.length := by omega
      have hgm := HG.out.perm hr.out.2.1
      have hcell := hr.out.1.cell
      have hcn := meth_less wr bq m.length c _ hcell
      have HP1 := hide hp
      have HK0 := hide hk0
      rcases hb : kB (at' m k) (at' m p) with _ | _
      · have LS := hide (less_hq hr.out.1 hgm k p hkl hpl _ hb)
        have HS := hide hb
        clear hb hp hlen hgm hkl hpl hk0
        go_wp2_with fail
        (with_reducible refine LS.out.mono ?_)
        rintro e1 w1 ⟨rfl, q1⟩
        have Q1 := hide q1
        clear q1 hcell hcn
        go_wp2
        go_end0
        exact ⟨rfl, m, Q1.out, hr.out.2.1, hr.out.2.2.stop (.inr (by rw [← HP1.out]; exact HS.out))⟩
      · have LS := hide (less_hq hr.out.1 hgm k p hkl hpl _ hb)
        have ST := hide (hr.out.2.2.step hp (by omega) hb)
        have SW := hide (fun W2 (h2 : HQ B w bq (some ⟨g, 0, none⟩) c m W2) => qSwap_any B w bq g c m W2 h2 p k hpl hkl)
        clear hb hp hlen hgm hkl hpl hk0
        go_wp2_with fail
        (with_reducible refine LS.out.mono ?_)
        rintro e1 w1 ⟨rfl, q1⟩
        have hcell1 := q1.cell
        have hcn1 := meth_swap w1 bq m.length c _ hcell1
        have Q1 := hide q1
        clear q1 hcell hcn
        go_wp2_with fail
        (with_reducible refine (SW.out _ Q1.out).mono ?_)
        rintro e2 w2 ⟨rfl, q2⟩
        have Q2 := hide q2
        clear q2 hcell1 hcn1
        go_wp2
        go_roundw
        case rel => exact ⟨p, _, rfl, by have := HP1.out; omega, hide ⟨Q2.out, (HP.swapL_perm m p k).trans hr.out.2.1, ST.out⟩⟩
        case measure => have := HP1.out; have := HK0.out; simp [intOf]; omega
end Go.Proofs.YtkfedgjepiljiaaDoor

/- container/heap over box's queue: down. -/
namespace Go.Proofs.YtkfedgjepiljiaaDoor
open Go.ChangeShapes Go.WideShapes Go.ChangeAt Go.RowKit
open FP (Fr)
open HP (kB at' Hp UpI DnI)

theorem at_beyond {l : List Bx} {n i j : Nat} (hi : i < n) (hj : j < n) (hn : n ≤ l.length) : ∀ k, n ≤ k → at' (swapL l i j) k = at' l k := fun k hk => by
  rw [HP.at_swap (by omega) (by omega), if_neg (by omega), if_neg (by omega)]

def DownV (B : Nat) (w : World) (bq g c : Nat) (l : List Bx) (lo n : Nat) (e : Ending) (W' : World) : Prop :=
  ∃ (b : Bool) (l' : List Bx), e = .returned (.bool b) ∧ HQ B w bq (some ⟨g, 0, none⟩) c l' W' ∧ l'.Perm l ∧ Hp l' lo n ∧ ∀ k, n ≤ k → at' l' k = at' l k

def DownR (B : Nat) (w : World) (bq g c : Nat) (l : List Bx) (lo n : Nat) (m : List Bx) (k : Nat) (W1 : World) : Prop :=
  HQ B w bq (some ⟨g, 0, none⟩) c m W1 ∧ m.Perm l ∧ DnI m lo n k ∧ ∀ k, n ≤ k → at' m k = at' l k

theorem DownR.hq {B : Nat} {w : World} {bq g c : Nat} {l : List Bx} {lo n : Nat} {m : List Bx} {k : Nat} {W1 : World} (h : DownR B w bq g c l lo n m k W1) : HQ B w bq (some ⟨g, 0, none⟩) c m W1 := h.1
theorem DownR.stop {B : Nat} {w : World} {bq g c : Nat} {l : List Bx} {lo n : Nat} {m : List Bx} {k : Nat} {W1 W2 : World} (h : DownR B w bq g c l lo n m k W1) (h2 : HQ B w bq (some ⟨g, 0, none⟩) c m W2)
    (hs : ∀ j, 0 < j → j < n → (j - 1) / 2 = k → kB (at' m j) (at' m k) = false) (b : Bool) : DownV B w bq g c l lo n (.returned (.bool b)) W2 := ⟨b, m, rfl, h2, h.2.1, h.2.2.1.stop hs, h.2.2.2⟩
theorem DownR.step {B : Nat} {w : World} {bq g c : Nat} {l : List Bx} {lo n : Nat} {m : List Bx} {k : Nat} {W1 W2 : World} (h : DownR B w bq g c l lo n m k W1) {j : Nat} (h2 : HQ B w bq (some ⟨g, 0, none⟩) c (swapL m k j) W2)
    (hj : (j - 1) / 2 = k) (h0 : 0 < j) (hjn : j < n) (ha : kB (at' m j) (at' m k) = true) (hb : ∀ i, 0 < i → i < n → (i - 1) / 2 = k → kB (at' m i) (at' m j) = false) : DownR B w bq g c l lo n (swapL m k j) j W2 :=
  ⟨h2, (HP.swapL_perm m k j).trans h.2.1, h.2.2.1.step hj h0 hjn ha hb, fun i hi => (at_beyond (by omega) hjn h.2.2.1.le i hi).trans (h.2.2.2 i hi)⟩

set_option maxRecDepth 100000 in
set_option maxHeartbeats 2000000 in
theorem hpDown_any (B : Nat) (w : World) (bq : Nat) (g c : Nat) (l : List Bx) (W : World) (h : HQ B w bq (some ⟨g, 0, none⟩) c l W) (hg : GoodB l) (hl : l.length ≤ 1000) (i0 lo n : Nat) (hi0 : i0 ≤ 1000) (hI : DnI l lo n i0) :
    Calls Tryd.prog 48 #[.iface 75 (.pointer (some ⟨bq, 0, none⟩)), .int .i64 i0, .int .i64 n] W (DownV B w bq g c l lo n) := by
  have HG := hide hg
  have R0 := hide (show DownR B w bq g c l lo n l i0 W from ⟨h, List.Perm.refl _, hI, fun _ _ => rfl⟩)
  have hn := hI.le
  have hn1 : n ≤ 1000 := by omega
  clear h hI hg hn hl
  go_enter Tryd.func48, Tryd.ntmps48
  go_wp2
  go_loopw [7] (fun v W1 => ∃ (k : Nat) (m : List Bx), v = .int .i64 k ∧ k ≤ 1000 ∧ Hid (DownR B w bq g c l lo n m k W1)) (fun v _ => n - (intOf v).toNat)
  case atStart => exact ⟨i0, l, rfl, hi0, R0⟩
  case round =>
    obtain ⟨k, m, rfl, hk, hr⟩ := hrel
    obtain ⟨j1, e1⟩ : ∃ j1 : Nat, j1 = 2 * k + 1 := ⟨_, rfl⟩
    have r1 : 2 * (k : Int) + 1 = (j1 : Int) := by omega
    have E1 := hide e1
    have hj1 : j1 ≤ 2001 := by omega
    by_cases hn1 : j1 < n
    · have hle := hr.out.2.2.1.le
      have hlen : m.length = l.length := hr.out.2.1.length_eq
      have hgm := HG.out.perm hr.out.2.1
      have hj1m : j1 < m.length := by omega
      have hkm : k < m.length := by omega
      have hcell := hr.out.1.cell
      have hcn := meth_less wr bq m.length c _ hcell
      obtain ⟨j2, e2⟩ : ∃ j2 : Nat, j2 = j1 + 1 := ⟨_, rfl⟩
      have r2 : (j1 : Int) + 1 = (j2 : Int) := by omega
      have E2 := hide e2
      have LSk := hide (fun (j : Nat) (hj : j < m.length) b (hb : kB (at' m j) (at' m k) = b) W2 (h2 : HQ B w bq (some ⟨g, 0, none⟩) c m W2) => less_hq h2 hgm j k hj hkm b hb)
      have SWk := hide (fun (j : Nat) (hj : j < m.length) W2 (h2 : HQ B w bq (some ⟨g, 0, none⟩) c m W2) => qSwap_any B w bq g c m W2 h2 k j hkm hj)
      by_cases hn2 : j2 < n
      · have hj2m : j2 < m.length := by omega
        rcases hb : kB (at' m j2) (at' m j1) with _ | _
        · have LS := hide (less_hq hr.out.1 hgm j2 j1 hj2m hj1m _ hb)
          have HB := hide (show ∀ i, 0 < i → i < n → (i - 1) / 2 = k → kB (at' m i) (at' m j1) = false from fun i h0 hi hik => by
            rcases (show i = j1 ∨ i = j2 by omega) with rfl | rfl
            · exact HP.kB_irrefl _
            · exact hb)
          rcases hb2 : kB (at' m j1) (at' m k) with _ | _
          · have L2 := hide (LSk.out j1 hj1m _ hb2)
            have HS := hide (show ∀ i, 0 < i → i < n → (i - 1) / 2 = k → kB (at' m i) (at' m k) = false from fun i h0 hi hik => HP.kB_ntrans (HB.out i h0 hi hik) hb2)
            clear e1 e2 hb hb2 hlen hgm hle
            go_wp2_with fail
            (with_reducible refine LS.out.mono ?_)
            rintro e1 w1 ⟨rfl, q1⟩
            have hcell1 := q1.cell
            have hcn1 := meth_less w1 bq m.length c _ hcell1
            have Q1 := hide q1
            clear q1 hcell hcn
            go_wp2_with fail
            (with_reducible refine (L2.out _ Q1.out).mono ?_)
            rintro e2 w2 ⟨rfl, q2⟩
            have Q2 := hide q2
            clear q2 hcell1 hcn1
            go_wp2
            go_ret
            exact hr.out.stop Q2.out HS.out _
          · have L2 := hide (LSk.out j1 hj1m _ hb2)
            have HS := hide hb2
            clear e1 e2 hb hb2 hlen hgm hle
            go_wp2_with fail
            (with_reducible refine LS.out.mono ?_)
            rintro e1 w1 ⟨rfl, q1⟩
            have hcell1 := q1.cell
            have hcn1 := meth_less w1 bq m.length c _ hcell1
            have Q1 := hide q1
            clear q1 hcell hcn
            go_wp2_with fail
            (with_reducible refine (L2.out _ Q1.out).mono ?_)
            rintro e2 w2 ⟨rfl, q2⟩
            have hcell2 := q2.cell
            have hcn2 := meth_swap w2 bq m.length c _ hcell2
            have Q2 := hide q2
            clear q2 hcell1 hcn1
            go_wp2_with fail
            (with_reducible refine (SWk.out j1 hj1m _ Q2.out).mono ?_)
            rintro e3 w3 ⟨rfl, q3⟩
            have Q3 := hide q3
            clear q3 hcell2 hcn2
            go_wp2
            go_roundw
            case rel => exact ⟨j1, _, rfl, by omega, hide (hr.out.step Q3.out (by have := E1.out; omega) (by have := E1.out; omega) hn1 HS.out HB.out)⟩
            case measure => have := E1.out; simp [intOf]; omega
        · have LS := hide (less_hq hr.out.1 hgm j2 j1 hj2m hj1m _ hb)
          have HB := hide (show ∀ i, 0 < i → i < n → (i - 1) / 2 = k → kB (at' m i) (at' m j2) = false from fun i h0 hi hik => by
            rcases (show i = j1 ∨ i = j2 by omega) with rfl | rfl
            · exact HP.kB_asymm hb
            · exact HP.kB_irrefl _)
          rcases hb2 : kB (at' m j2) (at' m k) with _ | _
          · have L2 := hide (LSk.out j2 hj2m _ hb2)
            have HS := hide (show ∀ i, 0 < i → i < n → (i - 1) / 2 = k → kB (at' m i) (at' m k) = false from fun i h0 hi hik => HP.kB_ntrans (HB.out i h0 hi hik) hb2)
            clear e1 e2 hb hb2 hlen hgm hle
            go_wp2_with fail
            (with_reducible refine LS.out.mono ?_)
            rintro e1 w1 ⟨rfl, q1⟩
            have hcell1 := q1.cell
            have hcn1 := meth_less w1 bq m.length c _ hcell1
            have Q1 := hide q1
            clear q1 hcell hcn
            go_wp2_with fail
            (with_reducible refine (L2.out _ Q1.out).mono ?_)
            rintro e2 w2 ⟨rfl, q2⟩
            have Q2 := hide q2
            clear q2 hcell1 hcn1
            go_wp2
            go_ret
            exact hr.out.stop Q2.out HS.out _
          · have L2 := hide (LSk.out j2 hj2m _ hb2)
            have HS := hide hb2
            clear e1 e2 hb hb2 hlen hgm hle
            go_wp2_with fail
            (with_reducible refine LS.out.mono ?_)
            rintro e1 w1 ⟨rfl, q1⟩
            have hcell1 := q1.cell
            have hcn1 := meth_less w1 bq m.length c _ hcell1
            have Q1 := hide q1
            clear q1 hcell hcn
            go_wp2_with fail
            (with_reducible refine (L2.out _ Q1.out).mono ?_)
            rintro e2 w2 ⟨rfl, q2⟩
            have hcell2 := q2.cell
            have hcn2 := meth_swap w2 bq m.length c _ hcell2
            have Q2 := hide q2
            clear q2 hcell1 hcn1
            go_wp2_with fail
            (with_reducible refine (SWk.out j2 hj2m _ Q2.out).mono ?_)
            rintro e3 w3 ⟨rfl, q3⟩
            have Q3 := hide q3
            clear q3 hcell2 hcn2
            go_wp2
            go_roundw
            case rel => exact ⟨j2, _, rfl, by omega, hide (hr.out.step Q3.out (by have := E1.out; have := E2.out; omega) (by have := E1.out; have := E2.out; omega) hn2 HS.out HB.out)⟩
            case measure => have := E1.out; have := E2.out; simp [intOf]; omega
      · have HB := hide (show ∀ i, 0 < i → i < n → (i - 1) / 2 = k → kB (at' m i) (at' m j1) = false from fun i h0 hi hik => by
          rcases (show i = j1 by omega) with rfl
          exact HP.kB_irrefl _)
        rcases hb2 : kB (at' m j1) (at' m k) with _ | _
        · have L2 := hide (LSk.out j1 hj1m _ hb2)
          have HS := hide (show ∀ i, 0 < i → i < n → (i - 1) / 2 = k → kB (at' m i) (at' m k) = false from fun i h0 hi hik => HP.kB_ntrans (HB.out i h0 hi hik) hb2)
          clear e1 e2 hb2 hlen hgm hle
          go_wp2_with fail
          (with_reducible refine (L2.out _ hr.out.hq).mono ?_)
          rintro e2 w2 ⟨rfl, q2⟩
          have Q2 := hide q2
          clear q2 hcell hcn
          go_wp2
          go_ret
          exact hr.out.stop Q2.out HS.out _
        · have L2 := hide (LSk.out j1 hj1m _ hb2)
          have HS := hide hb2
          clear e1 e2 hb2 hlen hgm hle
          go_wp2_with fail
          (with_reducible refine (L2.out _ hr.out.hq).mono ?_)
          rintro e2 w2 ⟨rfl, q2⟩
          have hcell2 := q2.cell
          have hcn2 := meth_swap w2 bq m.length c _ hcell2
          have Q2 := hide q2
          clear q2 hcell hcn
          go_wp2_with fail
          (with_reducible refine (SWk.out j1 hj1m _ Q2.out).mono ?_)
          rintro e3 w3 ⟨rfl, q3⟩
          have Q3 := hide q3
          clear q3 hcell2 hcn2
          go_wp2
          go_roundw
          case rel => exact ⟨j1, _, rfl, by omega, hide (hr.out.step Q3.out (by have := E1.out; omega) (by have := E1.out; omega) hn1 HS.out HB.out)⟩
          case measure => have := E1.out; simp [intOf]; omega
    · have HS := hide (show ∀ j, 0 < j → j < n → (j - 1) / 2 = k → kB (at' m j) (at' m k) = false from fun j h0 hj hjk => by omega)
      clear e1
      go_wp2
      go_ret
      exact hr.out.stop hr.out.1 HS.out _
end Go.Proofs.YtkfedgjepiljiaaDoor
