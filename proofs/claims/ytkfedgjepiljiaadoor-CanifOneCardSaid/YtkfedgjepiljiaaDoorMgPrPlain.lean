/- The plain law of fields: their order, and how a contest goes. -/
import Derived.Test.YtkfedgjepiljiaaDoorMgRng
import Derived.Test.YtkfedgjepiljiaaDoorRows
import Derived.Test.YtkfedgjepiljiaaDoorMgMem
import Derived.ProofKit
import Derived.OpenShut
import Derived.Deep.Slices
import Derived.Deep.Fields
namespace Go.Proofs.YtkfedgjepiljiaaDoor
open FP (bit bitsOf Fr bitB)

namespace PP
abbrev bl := Op.bytesLess

theorem lt_asymm8 {a b : UInt8} (h : a < b) : ¬ b < a := by rw [UInt8.lt_iff_toNat_lt] at *; omega
theorem lt_irrefl8 (a : UInt8) : ¬ a < a := by rw [UInt8.lt_iff_toNat_lt]; omega
theorem lt_or8 {a b : UInt8} (h : a ≠ b) : a < b ∨ b < a := by
  rw [UInt8.lt_iff_toNat_lt, UInt8.lt_iff_toNat_lt]
  have : a.toNat ≠ b.toNat := fun e => h (UInt8.toNat_inj.1 e)
  omega

theorem bl_irrefl : ∀ x : List UInt8, bl x x = false
  | [] => rfl
  | a :: x => by simp [bl, Op.bytesLess, bl_irrefl x]

/-- The lesser one at the first place where they are unlike. -/
theorem bl_first : ∀ (k : Nat) (x y : List UInt8), x.take k = y.take k → ∀ a b, x[k]? = some a → y[k]? = some b → a ≠ b → bl x y = decide (a < b)
  | 0, [], _, _, _, _, h, _, _ => by simp at h
  | 0, _ :: _, [], _, _, _, _, h, _ => by simp at h
  | 0, a :: x, b :: y, _, a', b', h, h', hn => by
    simp only [List.getElem?_cons_zero, Option.some.injEq] at h h'
    subst h; subst h'
    simp [bl, Op.bytesLess, hn]
  | k + 1, [], _, _, _, _, h, _, _ => by simp at h
  | k + 1, _ :: _, [], _, _, _, _, h, _ => by simp at h
  | k + 1, a :: x, b :: y, ht, a', b', h, h', hn => by
    simp only [List.take_succ_cons, List.cons.injEq] at ht
    obtain ⟨rfl, ht⟩ := ht
    simp only [List.getElem?_cons_succ] at h h'
    have := bl_first k x y ht a' b' h h' hn
    simp [bl, Op.bytesLess, this]

/-- Two rows are unlike at a first place, or one begins the other. -/
theorem first_or : ∀ x y : List UInt8, x <+: y ∨ y <+: x ∨ ∃ k a b, x.take k = y.take k ∧ x[k]? = some a ∧ y[k]? = some b ∧ a ≠ b
  | [], y => .inl (List.nil_prefix)
  | _ :: _, [] => .inr (.inl List.nil_prefix)
  | a :: x, b :: y => by
    by_cases h : a = b
    · subst h
      rcases first_or x y with h | h | ⟨k, c, d, h1, h2, h3, h4⟩
      · exact .inl (List.prefix_cons_inj a |>.2 h)
      · exact .inr (.inl (List.prefix_cons_inj a |>.2 h))
      · exact .inr (.inr ⟨k + 1, c, d, by simp [h1], by simpa using h2, by simpa using h3, h4⟩)
    · exact .inr (.inr ⟨0, a, b, rfl, rfl, rfl, h⟩)

/-- Rows none of which begins another one, and bits. -/
structure Fld (F : List UInt8) : Prop where
  bits : ∀ c ∈ F, c = 48 ∨ c = 49
  kind : (F.length = 13 ∧ F[12]? = some 48) ∨ (F.length = 32 ∧ F[12]? = some 49)

theorem Fld.len {F : List UInt8} (h : Fld F) : F.length ≤ 32 := by rcases h.kind with h | h <;> omega

theorem pre_eq {F G : List UInt8} (hF : Fld F) (hG : Fld G) (h : F <+: G) : F = G := by
  obtain ⟨t, ht⟩ := h
  have hl : F.length + t.length = G.length := by rw [← ht]; simp
  have h12 : F[12]? = G[12]? := by
    rw [← ht, List.getElem?_append_left]
    rcases hF.kind with h | h <;> omega
  have : t.length = 0 := by
    rcases hF.kind with ⟨a, b⟩ | ⟨a, b⟩ <;> rcases hG.kind with ⟨c, d⟩ | ⟨c, d⟩
    · omega
    · rw [b, d] at h12; cases h12
    · rw [b, d] at h12; cases h12
    · omega
  rw [List.length_eq_zero_iff] at this
  rw [← ht, this, List.append_nil]

theorem fld_or {F G : List UInt8} (hF : Fld F) (hG : Fld G) : F = G ∨ ∃ k a b, F.take k = G.take k ∧ F[k]? = some a ∧ G[k]? = some b ∧ a ≠ b := by
  rcases first_or F G with h | h | h
  · exact .inl (pre_eq hF hG h)
  · exact .inl (pre_eq hG hF h).symm
  · exact .inr h

theorem bl_total {F G : List UInt8} (hF : Fld F) (hG : Fld G) (hn : F ≠ G) : bl F G = !bl G F := by
  rcases fld_or hF hG with h | ⟨k, a, b, h1, h2, h3, h4⟩
  · exact absurd h hn
  · rw [bl_first k F G h1 a b h2 h3 h4, bl_first k G F h1.symm b a h3 h2 (Ne.symm h4)]
    rcases lt_or8 h4 with h | h
    · simp [h, lt_asymm8 h]
    · simp [h, lt_asymm8 h]

theorem bl_trans : ∀ x y z : List UInt8, bl x y = true → bl y z = true → bl x z = true
  | _, [], _, h, _ => by simp [bl, Op.bytesLess] at h
  | _, _ :: _, [], _, h => by simp [bl, Op.bytesLess] at h
  | [], _ :: _, _ :: _, _, _ => rfl
  | a :: x, b :: y, c :: z, h1, h2 => by
    simp only [bl, Op.bytesLess, Bool.or_eq_true, decide_eq_true_eq, Bool.and_eq_true, beq_iff_eq] at *
    rcases h1 with h1 | ⟨rfl, h1⟩ <;> rcases h2 with h2 | ⟨rfl, h2⟩
    · left; rw [UInt8.lt_iff_toNat_lt] at *; omega
    · exact .inl h1
    · exact .inl h2
    · exact .inr ⟨rfl, bl_trans x y z h1 h2⟩

/-! ### the contest -/
section
variable {F : Nat → List UInt8} {n : Nat} {B : List UInt8}
def strs (F : Nat → List UInt8) (j : Nat) : ByteArray := ⟨(F j).toArray⟩
theorem strs_size (F : Nat → List UInt8) (j : Nat) : (strs F j).size = (F j).length := by simp [strs, ByteArray.size]
theorem strs_at {F : Nat → List UInt8} {j k : Nat} {c : UInt8} (h : (F j)[k]? = some c) : byteAtP (strs F j) k = (c.toNat : Int) := by
  have hk : k < (F j).length := (List.getElem?_eq_some_iff.1 h).1
  have hk' : k < (strs F j).size := by rw [strs_size]; exact hk
  rw [byteAt_lt hk']
  have : (strs F j)[k] = c := by
    have h2 := (List.getElem?_eq_some_iff.1 h).2
    simp only [strs]
    rw [ByteArray.getElem_eq_getElem_data]
    simpa using h2
  rw [this]

theorem bus_le (x : Nat → Int) (k : Nat) (S : Nat → ByteArray) (c : Int) : ∀ p i, i < p → x i < 0 → k < (S i).size → byteAtP (S i) k = c → busN S x k p ≤ c
  | 0, i, h, _, _, _ => absurd h (by omega)
  | p + 1, i, h, h1, h2, h3 => by
    unfold busN
    by_cases hi : i = p
    · subst hi
      rw [if_pos ⟨h1, h2⟩, h3]
      omega
    · have := bus_le x k S c p i (by omega) h1 h2 h3
      split <;> omega
theorem bus_ge (x : Nat → Int) (k : Nat) (S : Nat → ByteArray) (c : Int) (hc : c ≤ 49) : ∀ p, (∀ i, i < p → x i < 0 → k < (S i).size → c ≤ byteAtP (S i) k) → c ≤ busN S x k p
  | 0, _ => hc
  | p + 1, h => by
    unfold busN
    have ih := bus_ge x k S c hc p (fun i hi => h i (by omega))
    split
    · rename_i hp
      have := h p (by omega) hp.1 hp.2
      omega
    · exact ih

/-- Where j loses, when k bits have gone by. -/
def Lost (F : Nat → List UInt8) (B : List UInt8) (k : Nat) (x : Int) (j : Nat) : Prop :=
  (x < 0 ∧ (F j).take k = B.take k) ∨ (∃ i a b, x = ((i : Nat) : Int) ∧ i < k ∧ (F j).take i = B.take i ∧ (F j)[i]? = some a ∧ B[i]? = some b ∧ a ≠ b)

theorem lost_law (hF : ∀ j, j < n → Fld (F j)) {b : Nat} (hb : b < n) (hB : F b = B) (hm : ∀ j, j < n → bl (F j) B = false) :
    ∀ k j, j < n → Lost F B k (lostN (strs F) n k j) j
  | 0, j, _ => .inl ⟨by simp [lostN], rfl⟩
  | k + 1, j, hj => by
    have ih := fun j hj => lost_law hF hb hB hm k j hj
    have hBf : Fld B := hB ▸ hF b hb
    rw [lostN_succ]
    rcases ih j hj with ⟨h1, h2⟩ | ⟨i, a, c, h1, h2, h3⟩
    · -- j is still there
      rcases hc : B[k]? with _ | c
      · -- the best one has ended: so has j
        have hlb : B.length ≤ k := by rw [List.getElem?_eq_none_iff] at hc; exact hc
        have hBp : B <+: F j := by
          rw [List.take_of_length_le hlb] at h2
          rw [← h2]
          exact List.take_prefix _ _
        have he := pre_eq hBf (hF j hj) hBp
        rw [if_neg (by rw [strs_size, ← he]; omega)]
        exact .inl ⟨h1, by rw [he]⟩
      · have hc49 : (c.toNat : Int) ≤ 49 := by
          rcases hBf.bits c (List.mem_of_getElem? hc) with rfl | rfl <;> decide
        have hbk : k < (strs F b).size := by rw [strs_size, hB]; exact (List.getElem?_eq_some_iff.1 hc).1
        have hbl : lostN (strs F) n k b < 0 := by
          rcases ih b hb with ⟨h, _⟩ | ⟨i, a, c, _, _, _, h4, h5, h6⟩
          · exact h
          · rw [hB] at h4; rw [h4] at h5; exact absurd (Option.some.inj h5) h6
        have hall : ∀ i, i < n → lostN (strs F) n k i < 0 → k < (strs F i).size → (c.toNat : Int) ≤ byteAtP (strs F i) k := by
          intro i hi hx hs
          rw [strs_size] at hs
          obtain ⟨d, hd⟩ : ∃ d, (F i)[k]? = some d := ⟨_, List.getElem?_eq_getElem hs⟩
          rw [strs_at hd]
          rcases ih i hi with ⟨_, ht⟩ | ⟨i', a', c', h1', _⟩
          · by_cases hdc : d = c
            · rw [hdc]; omega
            · have := bl_first k (F i) B ht d c hd hc hdc
              rw [hm i hi] at this
              have : ¬ d < c := by simpa using this.symm
              rw [UInt8.lt_iff_toNat_lt] at this
              omega
          · omega
        have hbus : busN (strs F) (lostN (strs F) n k) k n = (c.toNat : Int) := by
          have := bus_le (lostN (strs F) n k) k (strs F) (c.toNat : Int) n b hb hbl hbk (strs_at (by rw [hB]; exact hc))
          have := bus_ge (lostN (strs F) n k) k (strs F) (c.toNat : Int) hc49 n hall
          omega
        rw [hbus]
        rcases hd : (F j)[k]? with _ | d
        · -- j has ended ahead of the best one
          have hlj : (F j).length ≤ k := by rw [List.getElem?_eq_none_iff] at hd; exact hd
          have hp : F j <+: B := by
            rw [List.take_of_length_le hlj] at h2
            rw [h2]
            exact List.take_prefix _ _
          have he := pre_eq (hF j hj) hBf hp
          rw [he, hc] at hd
          cases hd
        · rw [strs_at hd]
          have hks : k < (strs F j).size := by rw [strs_size]; exact (List.getElem?_eq_some_iff.1 hd).1
          have hle := hall j hj h1 hks
          rw [strs_at hd] at hle
          by_cases hdc : d = c
          · rw [if_neg (by rw [hdc]; omega)]
            refine .inl ⟨h1, ?_⟩
            rw [List.take_add_one, List.take_add_one, h2, hd, hc, hdc]
          · have hne : d.toNat ≠ c.toNat := fun e => hdc (UInt8.toNat_inj.1 e)
            rw [if_pos ⟨h1, hks, by omega⟩]
            exact .inr ⟨k, d, c, rfl, by omega, h2, hd, hc, hdc⟩
    · rw [if_neg (by omega)]
      exact .inr ⟨i, a, c, h1, by omega, h3⟩

theorem lost_end (hF : ∀ j, j < n → Fld (F j)) {b : Nat} (hb : b < n) (hB : F b = B) (hm : ∀ j, j < n → bl (F j) B = false) (j : Nat) (hj : j < n) : lostN (strs F) n 32 j < 0 ↔ F j = B := by
  have hBf : Fld B := hB ▸ hF b hb
  rcases lost_law hF hb hB hm 32 j hj with ⟨h1, h2⟩ | ⟨i, a, c, h1, h2, h3, h4, h5, h6⟩
  · rw [List.take_of_length_le (hF j hj).len, List.take_of_length_le hBf.len] at h2
    exact ⟨fun _ => h2, fun _ => h1⟩
  · constructor
    · intro h; omega
    · intro h; rw [h, h5] at h4; exact absurd (Option.some.inj h4).symm h6
end
end PP
end Go.Proofs.YtkfedgjepiljiaaDoor

/- Fields of frames: their order by numbers; which are left. -/
namespace Go.Proofs.YtkfedgjepiljiaaDoor
open FP (bit bitsOf Fr bitB numOf)

namespace PP
theorem numOf_inj : ∀ x y : List UInt8, x.length = y.length → (∀ c ∈ x, c = 48 ∨ c = 49) → (∀ c ∈ y, c = 48 ∨ c = 49) → numOf x = numOf y → x = y
  | [], [], _, _, _, _ => rfl
  | [], _ :: _, h, _, _, _ => by simp at h
  | _ :: _, [], h, _, _, _ => by simp at h
  | a :: x, b :: y, h, hx, hy, hn => by
    have hl : x.length = y.length := by simpa using h
    rw [FP.numOf_cons, FP.numOf_cons, hl] at hn
    have h1 := FP.numOf_lt x
    have h2 := FP.numOf_lt y
    rw [hl] at h1
    rcases hx a (by simp) with rfl | rfl <;> rcases hy b (by simp) with rfl | rfl
    · simp at hn
      rw [numOf_inj x y hl (fun c hc => hx c (by simp [hc])) (fun c hc => hy c (by simp [hc])) hn]
    · simp at hn; omega
    · simp at hn; omega
    · simp at hn
      rw [numOf_inj x y hl (fun c hc => hx c (by simp [hc])) (fun c hc => hy c (by simp [hc])) hn]

/-- Rows of bits, of one length, are ordered as their numbers; what stands behind them decides where they are alike. -/
theorem bl_num : ∀ x y u v : List UInt8, x.length = y.length → (∀ c ∈ x, c = 48 ∨ c = 49) → (∀ c ∈ y, c = 48 ∨ c = 49) → bl (x ++ u) (y ++ v) = if numOf x = numOf y then bl u v else decide (numOf x < numOf y)
  | [], [], u, v, _, _, _ => by simp
  | [], _ :: _, _, _, h, _, _ => by simp at h
  | _ :: _, [], _, _, h, _, _ => by simp at h
  | a :: x, b :: y, u, v, h, hx, hy => by
    have hl : x.length = y.length := by simpa using h
    have h1 := FP.numOf_lt x
    have h2 := FP.numOf_lt y
    rw [hl] at h1
    have ih := bl_num x y u v hl (fun c hc => hx c (by simp [hc])) (fun c hc => hy c (by simp [hc]))
    rw [FP.numOf_cons, FP.numOf_cons, hl]
    simp only [List.cons_append, bl, Op.bytesLess]
    simp only [bl] at ih
    rw [ih]
    rcases hx a (by simp) with rfl | rfl <;> rcases hy b (by simp) with rfl | rfl
    · simp
    · simp
      rw [if_neg (by omega)]
      omega
    · simp
      rw [if_neg (by omega)]
      omega
    · simp

theorem bl_bits (a b w : Nat) (ha : a < 2 ^ w) (hb : b < 2 ^ w) (u v : List UInt8) : bl (bitsOf a w ++ u) (bitsOf b w ++ v) = if a = b then bl u v else decide (a < b) := by
  rw [bl_num _ _ u v (by rw [FP.bitsOf_length, FP.bitsOf_length]) (fun c hc => FP.bitsOf_mem hc) (fun c hc => FP.bitsOf_mem hc), FP.numOf_bitsOf, FP.numOf_bitsOf, Nat.mod_eq_of_lt ha, Nat.mod_eq_of_lt hb]

theorem bitB_or (b : Bool) : bitB b = 48 ∨ bitB b = 49 := by cases b <;> simp [bitB]

theorem fld_of (f : Fr) : Fld (fieldF f) := by
  unfold fieldF
  split
  · refine ⟨fun c hc => ?_, .inr ⟨by simp [FP.bitsOf_length], ?_⟩⟩
    · simp only [List.mem_append, List.mem_cons, List.not_mem_nil, or_false] at hc
      rcases hc with ((hc | rfl | rfl) | hc) | rfl
      · exact FP.bitsOf_mem (List.mem_of_mem_take hc)
      · simp
      · simp
      · exact FP.bitsOf_mem (List.mem_of_mem_drop hc)
      · exact bitB_or _
    · rw [List.append_assoc, List.append_assoc, List.getElem?_append_right (by simp [FP.bitsOf_length])]
      simp [FP.bitsOf_length]
  · refine ⟨fun c hc => ?_, .inl ⟨by simp [FP.bitsOf_length], ?_⟩⟩
    · simp only [List.mem_append, List.mem_cons, List.not_mem_nil, or_false] at hc
      rcases hc with (hc | rfl) | rfl
      · exact FP.bitsOf_mem hc
      · exact bitB_or _
      · simp
    · rw [List.append_assoc, List.getElem?_append_right (by simp [FP.bitsOf_length])]
      simp [FP.bitsOf_length]

theorem lessB_bl {f g : Fr} (hf : FP.rightB f = true) (hg : FP.rightB g = true) : lessB f g = bl (fieldF f) (fieldF g) := by simp [lessB, hf, hg]

theorem best_of (F : Nat → List UInt8) (hF : ∀ j, Fld (F j)) : ∀ n, 0 < n → ∃ b, b < n ∧ ∀ j, j < n → bl (F j) (F b) = false
  | 0, h => absurd h (by omega)
  | 1, _ => ⟨0, by omega, fun j hj => by have : j = 0 := by omega
                                         rw [this]; exact bl_irrefl _⟩
  | n + 2, _ => by
    obtain ⟨b, hb, h⟩ := best_of F hF (n + 1) (by omega)
    by_cases hl : bl (F (n + 1)) (F b) = true
    · refine ⟨n + 1, by omega, fun j hj => ?_⟩
      by_cases hj' : j = n + 1
      · rw [hj']; exact bl_irrefl _
      · by_cases hjl : bl (F j) (F (n + 1)) = true
        · have := bl_trans _ _ _ hjl hl
          rw [h j (by omega)] at this
          cases this
        · simpa using hjl
    · refine ⟨b, by omega, fun j hj => ?_⟩
      by_cases hj' : j = n + 1
      · rw [hj']; simpa using hl
      · exact h j (by omega)

def FL (l : List Fr) (j : Nat) : List UInt8 := if h : j < l.length then fieldF l[j] else fieldF ⟨0, false, false, 0, ⟨#[]⟩⟩
theorem FL_lt {l : List Fr} {j : Nat} (h : j < l.length) : FL l j = fieldF l[j] := dif_pos h
theorem FL_fld (l : List Fr) (j : Nat) : Fld (FL l j) := by unfold FL; split <;> exact fld_of _
theorem busN_congr {S S' : Nat → ByteArray} {x y : Nat → Int} (k : Nat) : ∀ p, (∀ i, i < p → S i = S' i ∧ x i = y i) → busN S x k p = busN S' y k p
  | 0, _ => rfl
  | p + 1, h => by
    unfold busN
    rw [busN_congr k p (fun i hi => h i (by omega)), (h p (by omega)).1, (h p (by omega)).2]
theorem lostN_congr {S S' : Nat → ByteArray} {n : Nat} (h : ∀ i, i < n → S i = S' i) : ∀ k j, j < n → lostN S n k j = lostN S' n k j
  | 0, _, _ => rfl
  | k + 1, j, hj => by
    rw [lostN_succ, lostN_succ, lostN_congr h k j hj, h j hj, busN_congr k n (fun i hi => ⟨h i hi, lostN_congr h k i hi⟩)]
theorem lostF_eq (l : List Fr) (j : Nat) (hj : j < l.length) : lostF l j = lostN (strs (FL l)) l.length 32 j :=
  lostN_congr (fun i hi => by rw [SF_lt hi]; simp only [strs, FL_lt hi]; rfl) 32 j hj

/-- b is among the best ones. -/
def Best (l : List Fr) (b : Nat) : Prop := b < l.length ∧ ∀ j, j < l.length → bl (FL l j) (FL l b) = false
theorem best_is (l : List Fr) (h : 0 < l.length) : ∃ b, Best l b := best_of (FL l) (FL_fld l) l.length h
theorem left_iff {l : List Fr} {b : Nat} (hb : Best l b) {j : Nat} (hj : j < l.length) : lostF l j < 0 ↔ FL l j = FL l b := by
  rw [lostF_eq l j hj]
  exact lost_end (fun j _ => FL_fld l j) hb.1 rfl hb.2 j hj
end PP
end Go.Proofs.YtkfedgjepiljiaaDoor

/- The frame of every law's row: what a walk that only lays new memory owes the statement; slices and structs that came in, opened. Nothing of the program's text. -/
namespace Go.Proofs.YtkfedgjepiljiaaDoor
open Go.ChangeShapes Go.WideShapes Go.ChangeAt Go.RowKit Go.Deep

theorem ownK : ownKnob Tryd.prog.godebug = none := by kernel_rfl
theorem laidOut : laidOutB Tryd.prog = true := by kernel_rfl

section
variable {H : Type} {enc : TypeId × Value → H} {P : Program}

theorem trodAll_stays (hl : laidOutB P = true) {W W' : World} {sp : Nat → Bool} : ∀ {ts : List TypeId} {vs : List Value} {ds : List (DataW H)} {ps : List MemPlace},
    (ts.all fun t => P.readableRec t && decide (t < P.types.size)) = true → DataW.TrodAll enc P W 0 (fun _ => true) true ts vs ds ps → (∀ x ∈ ps, W.sameAt W' x) → (∀ x ∈ ps, sp x.block = true) → DataW.TrodAll enc P W' 0 sp true ts vs ds ps
  | [], [], [], ps, _, h, _, _ => h
  | t :: ts, v :: vs, d :: ds, ps, hr, h, hs, hp => by
    obtain ⟨p, q, h1, h2, rfl⟩ := h
    simp only [List.all_cons, Bool.and_eq_true, decide_eq_true_eq] at hr
    exact ⟨p, q, WideElems.Trod_stays hl hr.1.1 hr.1.2 h1 (fun x hx => hs x (by simp [hx])) (fun x hx => hp x (by simp [hx])),
      trodAll_stays hl hr.2 h2 (fun x hx => hs x (by simp [hx])) (fun x hx => hp x (by simp [hx])), rfl⟩
  | [], [], _ :: _, _, _, h, _, _ => h.elim
  | [], _ :: _, [], _, _, h, _, _ => h.elim
  | [], _ :: _, _ :: _, _, _, h, _, _ => h.elim
  | _ :: _, [], [], _, _, h, _, _ => h.elim
  | _ :: _, [], _ :: _, _, _, h, _, _ => h.elim
  | _ :: _, _ :: _, [], _, _, h, _, _ => h.elim

/-- What a law's row asks of a call that answers true and has laid new memory alone. -/
theorem law_post {f : Func} {s : ChangeSpec} {W W' : World} {args : Array Value} {ds gs : List (DataW H)} {before : List MemPlace} {tb : TypeId} (hl : laidOutB P = true) (hvs : s.vars = [])
    (hW : DataW.Whole enc P f.params.toList s.vars false W args.toList ds gs before)
    (hts : (f.params.toList.all fun t => P.readableRec t && decide (t < P.types.size)) = true)
    (hres : f.resultTypes = #[tb]) (hub : P.underlying tb = some .bool)
    (hfn : s.fn H (ds ++ gs) = { results := [.lit (.bool true)], args := ds }) (hfv : gs = [])
    (hb : Below W.heap.size W W') :
    s.post enc P f false true false false W args (.bool true) W' := by
  subst hfv
  have hlt : ∀ p ∈ before, p.block < W.heap.size := fun p hp => hW.lt p hp
  have hW0 := hW
  obtain ⟨p, q, hA, hV, rfl, hfz, hnd⟩ := hW
  rw [hvs] at hV
  obtain ⟨_, rfl⟩ := trodVars_none hV
  have hres' : (Value.bool true).resultList f.resultTypes.size = [.bool true] := by rw [hres]; rfl
  have hargs : ∀ sp : Nat → Bool, (∀ x ∈ p ++ [], sp x.block = true) → DataW.TrodAll enc P W' 0 sp true f.params.toList args.toList ds p := fun sp hsp =>
    trodAll_stays hl hts hA (fun x hx => hb.same (hlt x (by simp [hx]))) (fun x hx => hsp x (by simp [hx]))
  have hrs : ∀ (b : Nat) (sp : Nat → Bool) (hd : Bool), DataW.TrodAll enc P W' b sp hd f.resultTypes.toList [.bool true] [.lit (.bool true)] [] := fun b sp hd => by
    rw [hres]; exact trodAll_cons_mk (shut_bool hub _) trodAll_mk0
  refine ⟨ds, [], p ++ [], [], p, [], hW0, ?_, ?_, ?_, World.keptBut_mono (fun x hx => ⟨hx, ?_⟩) (hb.frame (· ∈ p ++ [])), fun h => by cases h⟩
  · rw [hfn, hres']; exact hrs _ _ _
  · rw [hfn]; exact hargs _ (fun x hx => by simpa using hlt x hx)
  · rw [hfn, hvs]; rfl
  · simpa using hx

theorem cell_lt {w : World} {a : Addr} {v : Value} (h : w.cell? a = some v) : a.block < w.heap.size := by
  unfold World.cell? at h
  by_cases hlt : a.block < w.heap.size
  · exact hlt
  · rw [Array.getElem?_eq_none (by omega)] at h; simp at h

theorem list_of {α : Type} {n : Nat} {Q : Nat → α → Prop} (h : ∀ i, i < n → ∃ x, Q i x) : ∃ l : List α, l.length = n ∧ ∀ i (hi : i < l.length), Q i l[i] := by
  induction n with
  | zero => exact ⟨[], rfl, fun i hi => absurd hi (by simp)⟩
  | succ n ih =>
    obtain ⟨l, hl, hq⟩ := ih (fun i hi => h i (by omega))
    obtain ⟨x, hx⟩ := h n (by omega)
    refine ⟨l ++ [x], by simp [hl], fun i hi => ?_⟩
    by_cases e : i < l.length
    · rw [List.getElem_append_left e]; exact hq i e
    · have : i = n := by simp at hi; omega
      subst this
      rw [List.getElem_append_right (by omega)]
      simpa [hl] using hx

/-- Elements of a type e decode: their cells are those of some x. -/
def Dec {α : Type} (enc : TypeId × Value → H) (P : Program) (e : TypeId) (ec : α → List Value) (wf : α → Prop) : Prop :=
  ∀ (w : World) (base : Nat) (sp : Nat → Bool) (held : Bool) (n : Nat) (cs : List Value) (x : DataW H × List MemPlace), DataW.trod enc P w base sp held n e cs = some x → ∃ a : α, cs = ec a ∧ wf a

theorem open_rows {α : Type} {t e : TypeId} {ec : α → List Value} {wf : α → Prop} {sz : Nat} (ht : P.underlying t = some (.slice e)) (hc : P.cellsOf e = sz) (hsz : 0 < sz) (hd : Dec enc P e ec wf) (hlen : ∀ a, (ec a).length = sz)
    {w : World} {base : Nat} {sp : Nat → Bool} {held : Bool} {fuel : Nat} {cs : List Value} {x : DataW H × List MemPlace} (h : DataW.trod enc P w base sp held fuel t cs = some x) :
    ∃ (A : Option Addr) (c : Nat) (l : List α), cs = [.slice A l.length c] ∧ l.length ≤ c ∧ c ≤ maxLen ∧ Rd w w.heap.size A sz (l.map ec) ∧ ∀ a ∈ l, wf a := by
  rcases open_slice ht h with ⟨rfl, _⟩ | ⟨a, len, cap, m, n, D, Pl, rfl, _, hlc, hcm, hm, _, hel⟩
  · exact ⟨none, 0, [], rfl, by simp, by simp, Rd.nil, by simp⟩
  · have hlm : len ≤ m := by rw [hm]; split <;> omega
    rw [hc] at hel
    obtain ⟨l, hl, hq⟩ := list_of (n := len) (Q := fun i (x : α) => wf x ∧ ∀ j v, (ec x)[j]? = some v → w.cell? ((a.add (i * sz)).add j) = some v) (fun i hi => by
      obtain ⟨cs', hcs, htr⟩ := hel i (by omega)
      obtain ⟨_, hcl, hat⟩ := World.cells?_some hcs
      obtain ⟨x, hx, hwf⟩ := hd _ _ _ _ _ _ _ htr
      refine ⟨x, hwf, fun j v hj => ?_⟩
      rw [hx] at hcl hat
      have hjl : j < (ec x).length := (List.getElem?_eq_some_iff.1 hj).1
      rw [hat j (by omega)]; exact hj)
    refine ⟨some a, cap, l, by rw [hl], by omega, hcm, fun hn => ?_, fun x hx => ?_⟩
    · rw [List.length_map] at hn
      have h0 : 0 < (ec l[0]).length := by rw [hlen]; exact hsz
      have hc0 := (hq 0 hn).2 0 (ec l[0])[0] (List.getElem?_eq_getElem h0)
      obtain ⟨b, off, spot⟩ := a
      have hspot : spot = none := by simpa [Addr.add] using World.cell?_spot hc0
      subst hspot
      refine ⟨b, off, rfl, ?_, fun k row j v hk hj => ?_⟩
      · have := cell_lt hc0; simpa [Addr.add] using this
      · rw [List.getElem?_map] at hk
        obtain ⟨y, hy, rfl⟩ := Option.map_eq_some_iff.1 hk
        obtain ⟨hkl, rfl⟩ := List.getElem?_eq_some_iff.1 hy
        have := (hq k hkl).2 j v hj
        rw [Go.WideShapes.add_plain, Go.WideShapes.add_plain] at this
        exact this
    · obtain ⟨i, hi, rfl⟩ := List.mem_iff_getElem.1 hx
      exact (hq i hi).1

/-- A struct that came in by value. -/
theorem open_struct {α : Type} {t : TypeId} {fs : Array Field} {ec : α → List Value} {wf : α → Prop} (ht : P.underlying t = some (.struct fs)) (hd : Dec enc P t ec wf)
    {w W : World} {r : Reach} {b0 base : Nat} {sp : Nat → Bool} {held : Bool} {v : Value} {d : DataW H} {p : List MemPlace} (hv : Value.okWide P W r b0 t v) (h : DataW.Trod enc P w base sp held t v d p) :
    ∃ a : α, v = .agg (ec a).toArray ∧ wf a := by
  obtain ⟨cs, rfl, _⟩ := okWide_struct ht hv
  obtain ⟨fuel, hf⟩ := h
  obtain ⟨a, ha, hw⟩ := hd _ _ _ _ _ _ _ hf
  refine ⟨a, ?_, hw⟩
  simp only [Value.cells] at ha
  rw [← ha]

/-- A slice that came in. -/
theorem open_slices {α : Type} {t e : TypeId} {ec : α → List Value} {wf : α → Prop} {sz : Nat} (ht : P.underlying t = some (.slice e)) (hc : P.cellsOf e = sz) (hsz : 0 < sz) (hd : Dec enc P e ec wf) (hlen : ∀ a, (ec a).length = sz)
    {w W : World} {r : Reach} {b0 base : Nat} {sp : Nat → Bool} {held : Bool} {v : Value} {d : DataW H} {p : List MemPlace} (hv : Value.okWide P W r b0 t v) (h : DataW.Trod enc P w base sp held t v d p) :
    ∃ (A : Option Addr) (c : Nat) (l : List α), v = .slice A l.length c ∧ l.length ≤ c ∧ c ≤ maxLen ∧ Rd w w.heap.size A sz (l.map ec) ∧ ∀ a ∈ l, wf a := by
  obtain ⟨a0, len, cap, rfl⟩ := okWide_slice ht hv
  obtain ⟨fuel, hf⟩ := h
  obtain ⟨A, c, l, hcs, h1, h2, h3, h4⟩ := open_rows ht hc hsz hd hlen hf
  simp only [Value.cells, List.cons.injEq, and_true] at hcs
  exact ⟨A, c, l, hcs, h1, h2, h3, h4⟩

/-- A struct's fields, each of one cell. -/
theorem trod_fields {t : TypeId} {fs : Array Field} (ht : P.underlying t = some (.struct fs)) (hone : oneCellFields P fs = true) (hC : P.cellsOf t = fs.size) {w : World} {base : Nat} {sp : Nat → Bool} {held : Bool} {fuel : Nat} {cs : List Value} {x : DataW H × List MemPlace}
    (h : DataW.trod enc P w base sp held fuel t cs = some x) : ∃ m, cs.length = fs.size ∧ ∀ (i : Nat) (f : Field) (c : Value), fs[i]? = some f → cs[i]? = some c → ∃ y, DataW.trod enc P w base sp held m f.type [c] = some y := by
  obtain ⟨xs, m, _, _, hlen, hxl, hg⟩ := DataW.trod_struct ht h
  refine ⟨m, hlen.trans hC, fun i f c hf hc => ?_⟩
  obtain ⟨ho, hk⟩ := hone_of hone i f hf
  have h1 := hg i f hf
  rw [ho, hk] at h1
  have hi : i < fs.size := (Array.getElem?_eq_some_iff.1 hf).1
  have hil : i < cs.length := by omega
  have hd : (cs.drop i).take 1 = [c] := by
    rw [List.drop_eq_getElem_cons hil]
    have : cs[i] = c := by rw [List.getElem?_eq_getElem hil] at hc; exact Option.some.inj hc
    rw [this]; rfl
  rw [hd] at h1
  exact ⟨xs[i]'(by omega), by rw [h1, List.getElem?_eq_getElem (by omega)]⟩
end
end Go.Proofs.YtkfedgjepiljiaaDoor
