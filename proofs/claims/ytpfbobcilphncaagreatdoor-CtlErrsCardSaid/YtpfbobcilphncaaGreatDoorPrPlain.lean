/- The plain law of fields: their order, and how a contest goes. -/
import Derived.Test.YtpfbobcilphncaaGreatDoorMgCsCP
namespace Go.Proofs.YtpfbobcilphncaaGreatDoor
open FP (bit bitsOf Fr bitB)

namespace PP
abbrev bl := Op.bytesLess

theorem lt_asymm8 {a b : UInt8} (h : a < b) : ¬ b < a := by rw [UInt8.lt_iff_toNat_lt] at *; omega
theorem lt_irrefl8 (a : UInt8) : ¬ a < a := by rw [UInt8.lt_iff_toNat_lt]; omega
theorem lt_or8 {a b : UInt8} (h : a ≠ b) : a < b ∨ b < a := by
  rw [UInt8.lt_iff_toNat_lt, UInt8.lt_iff_toNat_lt]
  have : a.toNat ≠ b.toNat := fun e => h (UInt8.toNat_inj.1 e)
  omega

theorem bl_irrefl : ∀ x : List UInt8, bl x x = false
  | [] => rfl
  | a :: x => by simp [bl, Op.bytesLess, bl_irrefl x]

/-- The lesser one at the first place where they are unlike. -/
theorem bl_first : ∀ (k : Nat) (x y : List UInt8), x.take k = y.take k → ∀ a b, x[k]? = some a → y[k]? = some b → a ≠ b → bl x y = decide (a < b)
  | 0, [], _, _, _, _, h, _, _ => by simp at h
  | 0, _ :: _, [], _, _, _, _, h, _ => by simp at h
  | 0, a :: x, b :: y, _, a', b', h, h', hn => by
    simp only [List.getElem?_cons_zero, Option.some.injEq] at h h'
    subst h; subst h'
    simp [bl, Op.bytesLess, hn]
  | k + 1, [], _, _, _, _, h, _, _ => by simp at h
  | k + 1, _ :: _, [], _, _, _, _, h, _ => by simp at h
  | k + 1, a :: x, b :: y, ht, a', b', h, h', hn => by
    simp only [List.take_succ_cons, List.cons.injEq] at ht
    obtain ⟨rfl, ht⟩ := ht
    simp only [List.getElem?_cons_succ] at h h'
    have := bl_first k x y ht a' b' h h' hn
    simp [bl, Op.bytesLess, this]

/-- Two rows are unlike at a first place, or one begins the other. -/
theorem first_or : ∀ x y : List UInt8, x <+: y ∨ y <+: x ∨ ∃ k a b, x.take k = y.take k ∧ x[k]? = some a ∧ y[k]? = some b ∧ a ≠ b
  | [], y => .inl (List.nil_prefix)
  | _ :: _, [] => .inr (.inl List.nil_prefix)
  | a :: x, b :: y => by
    by_cases h : a = b
    · subst h
      rcases first_or x y with h | h | ⟨k, c, d, h1, h2, h3, h4⟩
      · exact .inl (List.prefix_cons_inj a |>.2 h)
      · exact .inr (.inl (List.prefix_cons_inj a |>.2 h))
      · exact .inr (.inr ⟨k + 1, c, d, by simp [h1], by simpa using h2, by simpa using h3, h4⟩)
    · exact .inr (.inr ⟨0, a, b, rfl, rfl, rfl, h⟩)

/-- Rows none of which begins another one, and bits. -/
structure Fld (F : List UInt8) : Prop where
  bits : ∀ c ∈ F, c = 48 ∨ c = 49
  kind : (F.length = 13 ∧ F[12]? = some 48) ∨ (F.length = 32 ∧ F[12]? = some 49)

theorem Fld.len {F : List UInt8} (h : Fld F) : F.length ≤ 32 := by rcases h.kind with h | h <;> omega

theorem pre_eq {F G : List UInt8} (hF : Fld F) (hG : Fld G) (h : F <+: G) : F = G := by
  obtain ⟨t, ht⟩ := h
  have hl : F.length + t.length = G.length := by rw [← ht]; simp
  have h12 : F[12]? = G[12]? := by
    rw [← ht, List.getElem?_append_left]
    rcases hF.kind with h | h <;> omega
  have : t.length = 0 := by
    rcases hF.kind with ⟨a, b⟩ | ⟨a, b⟩ <;> rcases hG.kind with ⟨c, d⟩ | ⟨c, d⟩
    · omega
    · rw [b, d] at h12; cases h12
    · rw [b, d] at h12; cases h12
    · omega
  rw [List.length_eq_zero_iff] at this
  rw [← ht, this, List.append_nil]

theorem fld_or {F G : List UInt8} (hF : Fld F) (hG : Fld G) : F = G ∨ ∃ k a b, F.take k = G.take k ∧ F[k]? = some a ∧ G[k]? = some b ∧ a ≠ b := by
  rcases first_or F G with h | h | h
  · exact .inl (pre_eq hF hG h)
  · exact .inl (pre_eq hG hF h).symm
  · exact .inr h

theorem bl_total {F G : List UInt8} (hF : Fld F) (hG : Fld G) (hn : F ≠ G) : bl F G = !bl G F := by
  rcases fld_or hF hG with h | ⟨k, a, b, h1, h2, h3, h4⟩
  · exact absurd h hn
  · rw [bl_first k F G h1 a b h2 h3 h4, bl_first k G F h1.symm b a h3 h2 (Ne.symm h4)]
    rcases lt_or8 h4 with h | h
    · simp [h, lt_asymm8 h]
    · simp [h, lt_asymm8 h]

theorem bl_trans : ∀ x y z : List UInt8, bl x y = true → bl y z = true → bl x z = true
  | _, [], _, h, _ => by simp [bl, Op.bytesLess] at h
  | _, _ :: _, [], _, h => by simp [bl, Op.bytesLess] at h
  | [], _ :: _, _ :: _, _, _ => rfl
  | a :: x, b :: y, c :: z, h1, h2 => by
    simp only [bl, Op.bytesLess, Bool.or_eq_true, decide_eq_true_eq, Bool.and_eq_true, beq_iff_eq] at *
    rcases h1 with h1 | ⟨rfl, h1⟩ <;> rcases h2 with h2 | ⟨rfl, h2⟩
    · left; rw [UInt8.lt_iff_toNat_lt] at *; omega
    · exact .inl h1
    · exact .inl h2
    · exact .inr ⟨rfl, bl_trans x y z h1 h2⟩

/-! ### the contest -/
section
variable {F : Nat → List UInt8} {n : Nat} {B : List UInt8}
def strs (F : Nat → List UInt8) (j : Nat) : ByteArray := ⟨(F j).toArray⟩
theorem strs_size (F : Nat → List UInt8) (j : Nat) : (strs F j).size = (F j).length := by simp [strs, ByteArray.size]
theorem strs_at {F : Nat → List UInt8} {j k : Nat} {c : UInt8} (h : (F j)[k]? = some c) : byteAt (strs F j) k = (c.toNat : Int) := by
  have hk : k < (F j).length := (List.getElem?_eq_some_iff.1 h).1
  have hk' : k < (strs F j).size := by rw [strs_size]; exact hk
  rw [byteAt_lt hk']
  have : (strs F j)[k] = c := by
    have h2 := (List.getElem?_eq_some_iff.1 h).2
    simp only [strs]
    rw [ByteArray.getElem_eq_getElem_data]
    simpa using h2
  rw [this]

theorem bus_le (x : Nat → Int) (k : Nat) (S : Nat → ByteArray) (c : Int) : ∀ p i, i < p → x i < 0 → k < (S i).size → byteAt (S i) k = c → busN S x k p ≤ c
  | 0, i, h, _, _, _ => absurd h (by omega)
  | p + 1, i, h, h1, h2, h3 => by
    unfold busN
    by_cases hi : i = p
    · subst hi
      rw [if_pos ⟨h1, h2⟩, h3]
      omega
    · have := bus_le x k S c p i (by omega) h1 h2 h3
      split <;> omega
theorem bus_ge (x : Nat → Int) (k : Nat) (S : Nat → ByteArray) (c : Int) (hc : c ≤ 49) : ∀ p, (∀ i, i < p → x i < 0 → k < (S i).size → c ≤ byteAt (S i) k) → c ≤ busN S x k p
  | 0, _ => hc
  | p + 1, h => by
    unfold busN
    have ih := bus_ge x k S c hc p (fun i hi => h i (by omega))
    split
    · rename_i hp
      have := h p (by omega) hp.1 hp.2
      omega
    · exact ih

/-- Where j loses, when k bits have gone by. -/
def Lost (F : Nat → List UInt8) (B : List UInt8) (k : Nat) (x : Int) (j : Nat) : Prop :=
  (x < 0 ∧ (F j).take k = B.take k) ∨ (∃ i a b, x = ((i : Nat) : Int) ∧ i < k ∧ (F j).take i = B.take i ∧ (F j)[i]? = some a ∧ B[i]? = some b ∧ a ≠ b)

theorem lost_law (hF : ∀ j, j < n → Fld (F j)) {b : Nat} (hb : b < n) (hB : F b = B) (hm : ∀ j, j < n → bl (F j) B = false) :
    ∀ k j, j < n → Lost F B k (lostN (strs F) n k j) j
  | 0, j, _ => .inl ⟨by simp [lostN], rfl⟩
  | k + 1, j, hj => by
    have ih := fun j hj => lost_law hF hb hB hm k j hj
    have hBf : Fld B := hB ▸ hF b hb
    rw [lostN_succ]
    rcases ih j hj with ⟨h1, h2⟩ | ⟨i, a, c, h1, h2, h3⟩
    · -- j is still there
      rcases hc : B[k]? with _ | c
      · -- the best one has ended: so has j
        have hlb : B.length ≤ k := by rw [List.getElem?_eq_none_iff] at hc; exact hc
        have hBp : B <+: F j := by
          rw [List.take_of_length_le hlb] at h2
          rw [← h2]
          exact List.take_prefix _ _
        have he := pre_eq hBf (hF j hj) hBp
        rw [if_neg (by rw [strs_size, ← he]; omega)]
        exact .inl ⟨h1, by rw [he]⟩
      · have hc49 : (c.toNat : Int) ≤ 49 := by
          rcases hBf.bits c (List.mem_of_getElem? hc) with rfl | rfl <;> decide
        have hbk : k < (strs F b).size := by rw [strs_size, hB]; exact (List.getElem?_eq_some_iff.1 hc).1
        have hbl : lostN (strs F) n k b < 0 := by
          rcases ih b hb with ⟨h, _⟩ | ⟨i, a, c, _, _, _, h4, h5, h6⟩
          · exact h
          · rw [hB] at h4; rw [h4] at h5; exact absurd (Option.some.inj h5) h6
        have hall : ∀ i, i < n → lostN (strs F) n k i < 0 → k < (strs F i).size → (c.toNat : Int) ≤ byteAt (strs F i) k := by
          intro i hi hx hs
          rw [strs_size] at hs
          obtain ⟨d, hd⟩ : ∃ d, (F i)[k]? = some d := ⟨_, List.getElem?_eq_getElem hs⟩
          rw [strs_at hd]
          rcases ih i hi with ⟨_, ht⟩ | ⟨i', a', c', h1', _⟩
          · by_cases hdc : d = c
            · rw [hdc]; omega
            · have := bl_first k (F i) B ht d c hd hc hdc
              rw [hm i hi] at this
              have : ¬ d < c := by simpa using this.symm
              rw [UInt8.lt_iff_toNat_lt] at this
              omega
          · omega
        have hbus : busN (strs F) (lostN (strs F) n k) k n = (c.toNat : Int) := by
          have := bus_le (lostN (strs F) n k) k (strs F) (c.toNat : Int) n b hb hbl hbk (strs_at (by rw [hB]; exact hc))
          have := bus_ge (lostN (strs F) n k) k (strs F) (c.toNat : Int) hc49 n hall
          omega
        rw [hbus]
        rcases hd : (F j)[k]? with _ | d
        · -- j has ended ahead of the best one
          have hlj : (F j).length ≤ k := by rw [List.getElem?_eq_none_iff] at hd; exact hd
          have hp : F j <+: B := by
            rw [List.take_of_length_le hlj] at h2
            rw [h2]
            exact List.take_prefix _ _
          have he := pre_eq (hF j hj) hBf hp
          rw [he, hc] at hd
          cases hd
        · rw [strs_at hd]
          have hks : k < (strs F j).size := by rw [strs_size]; exact (List.getElem?_eq_some_iff.1 hd).1
          have hle := hall j hj h1 hks
          rw [strs_at hd] at hle
          by_cases hdc : d = c
          · rw [if_neg (by rw [hdc]; omega)]
            refine .inl ⟨h1, ?_⟩
            rw [List.take_add_one, List.take_add_one, h2, hd, hc, hdc]
          · have hne : d.toNat ≠ c.toNat := fun e => hdc (UInt8.toNat_inj.1 e)
            rw [if_pos ⟨h1, hks, by omega⟩]
            exact .inr ⟨k, d, c, rfl, by omega, h2, hd, hc, hdc⟩
    · rw [if_neg (by omega)]
      exact .inr ⟨i, a, c, h1, by omega, h3⟩

theorem lost_end (hF : ∀ j, j < n → Fld (F j)) {b : Nat} (hb : b < n) (hB : F b = B) (hm : ∀ j, j < n → bl (F j) B = false) (j : Nat) (hj : j < n) : lostN (strs F) n 32 j < 0 ↔ F j = B := by
  have hBf : Fld B := hB ▸ hF b hb
  rcases lost_law hF hb hB hm 32 j hj with ⟨h1, h2⟩ | ⟨i, a, c, h1, h2, h3, h4, h5, h6⟩
  · rw [List.take_of_length_le (hF j hj).len, List.take_of_length_le hBf.len] at h2
    exact ⟨fun _ => h2, fun _ => h1⟩
  · constructor
    · intro h; omega
    · intro h; rw [h, h5] at h4; exact absurd (Option.some.inj h4).symm h6
end
end PP
end Go.Proofs.YtpfbobcilphncaaGreatDoor
