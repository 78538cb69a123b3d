/- Plain laws of reading: a sum that stands behind its row; unstuffing undoes stuffing, and nothing else unstuffs to the same; a frame's head is read as that frame. -/
import Derived.Test.YthkilodnghiocaaGreatDoorMgCrP
namespace Go.Proofs.YthkilodnghiocaaGreatDoor.FP

/-! ### sums -/
theorem bitsOf_numOf : ∀ x : List UInt8, (∀ c ∈ x, c = 48 ∨ c = 49) → bitsOf (numOf x) x.length = x
  | [], _ => rfl
  | c :: x, h => by
    have hx : ∀ d ∈ x, d = 48 ∨ d = 49 := fun d hd => h d (List.mem_cons_of_mem _ hd)
    have hl := numOf_lt x
    have ih := bitsOf_numOf x hx
    rw [numOf_cons, List.length_cons, bitsOf]
    have hpos : 0 < 2 ^ x.length := Nat.pow_pos (by omega)
    congr 1
    · rw [Nat.mul_comm, Nat.mul_add_div hpos, Nat.div_eq_of_lt hl]
      rcases h c (by simp) with rfl | rfl <;> decide
    · rw [← bitsOf_mod, Nat.mul_comm, Nat.mul_add_mod, Nat.mod_eq_of_lt hl]
      exact ih

theorem crcStep_odd (r : Nat) (c : UInt8) (h : r.testBit 14 ≠ (c == 49)) : crcStep r c % 2 = 1 := by
  have e : crcStep r c = (2 * r % 32768) ^^^ 17817 := by
    unfold crcStep
    have : ((r.testBit 14) ^^ (c == 49)) = true := by
      revert h; cases r.testBit 14 <;> cases (c == 49) <;> simp
    rw [this]; rfl
  have h2 : ((2 * r % 32768) ^^^ 17817).testBit 0 = true := by
    rw [Nat.testBit_xor]
    have h3 : (2 * r % 32768).testBit 0 = false := by
      rw [Nat.testBit_zero, decide_eq_false_iff_not]; omega
    rw [h3]; decide
  rw [e]
  rw [Nat.testBit_zero] at h2
  exact of_decide_eq_true h2
theorem bit14 (r : Nat) (h : r < 32768) : r.testBit 14 = decide (16384 ≤ r) := by
  rw [Nat.testBit_eq_decide_div_mod_eq, decide_eq_decide]
  omega
theorem crcStep_same (r : Nat) (c : UInt8) (h : r.testBit 14 = (c == 49)) : crcStep r c = 2 * r % 32768 := by
  unfold crcStep
  rw [h]; simp
theorem fold_zero : ∀ (x : List UInt8) (r : Nat), x.length ≤ 15 → r < 32768 → (x.foldl crcStep r = 0 ↔ r = numOf x * 2 ^ (15 - x.length))
  | [], r, _, _ => by simp [numOf]
  | c :: x, r, hl, hr => by
    rw [List.length_cons] at hl
    rw [List.foldl_cons, fold_zero x (crcStep r c) (by omega) (crcStep_lt r c), numOf_cons, List.length_cons]
    have e1 : 15 - x.length = (15 - (x.length + 1)) + 1 := by omega
    have e2 : 2 ^ x.length * 2 ^ (15 - (x.length + 1)) = 16384 := by
      rw [← Nat.pow_add, show x.length + (15 - (x.length + 1)) = 14 by omega]
    have hlt := numOf_lt x
    rw [e1, Nat.pow_succ]
    have hm : numOf x * 2 ^ (15 - (x.length + 1)) < 16384 := by
      rw [← e2]; exact Nat.mul_lt_mul_of_pos_right hlt (Nat.pow_pos (by omega))
    have hb := bit14 r hr
    rw [Nat.add_mul, ← Nat.mul_assoc, Nat.mul_assoc (if c = 49 then 1 else 0), e2]
    generalize numOf x * 2 ^ (15 - (x.length + 1)) = m at *
    by_cases hs : r.testBit 14 = (c == 49)
    · rw [crcStep_same r c hs]
      rw [hb] at hs
      by_cases hc : c = 49
      · subst hc
        have : 16384 ≤ r := by simpa using hs
        simp; omega
      · have : ¬ 16384 ≤ r := fun h16 => by
          rw [decide_eq_true h16] at hs
          exact hc (by simpa using hs.symm)
        simp [hc]; omega
    · have ho := crcStep_odd r c hs
      rw [hb] at hs
      constructor
      · intro h; omega
      · intro h
        exfalso
        apply hs
        by_cases hc : c = 49
        · subst hc
          have h16 : 16384 ≤ r := by simp at h; omega
          rw [decide_eq_true h16]; rfl
        · have h16 : ¬ 16384 ≤ r := by simp [hc] at h; omega
          rw [decide_eq_false h16]
          exact (beq_eq_false_iff_ne.2 hc).symm
theorem crc_law {t : List UInt8} (h15 : 15 ≤ t.length) (hb : ∀ c ∈ t, c = 48 ∨ c = 49) : crcOf t = 0 ↔ sumF (headOf t) = t := by
  obtain ⟨x, hx⟩ : ∃ x, x = t.drop (t.length - 15) := ⟨_, rfl⟩
  have hxl : x.length = 15 := by rw [hx, List.length_drop]; omega
  have ht : headOf t ++ x = t := by rw [hx]; exact List.take_append_drop _ _
  have hxb : ∀ c ∈ x, c = 48 ∨ c = 49 := fun c hc => hb c (by rw [hx] at hc; exact List.mem_of_mem_drop hc)
  have e1 : crcOf t = x.foldl crcStep (crcOf (headOf t)) := by
    conv => lhs; rw [← ht]
    simp [crcOf]
  have hr := crcOf_lt (headOf t)
  rw [e1, fold_zero x _ (by omega) hr, hxl]
  have e2 : sumF (headOf t) = headOf t ++ bitsOf (crcOf (headOf t)) 15 := rfl
  constructor
  · intro h
    rw [e2]
    conv => rhs; rw [← ht]
    have h' : crcOf (headOf t) = numOf x := by simpa using h
    rw [h', ← hxl, bitsOf_numOf x hxb]
  · intro h
    rw [e2] at h
    have h2 : bitsOf (crcOf (headOf t)) 15 = x := by
      have : headOf t ++ bitsOf (crcOf (headOf t)) 15 = headOf t ++ x := by rw [h, ht]
      exact List.append_cancel_left this
    rw [← h2, numOf_bitsOf]
    simp
    omega

/-! ### stuffing, from a state on -/
def tlF : UInt8 → Nat → List UInt8 → List UInt8
  | _, _, [] => []
  | last, n, c :: m => if (if c = last then n + 1 else 1) = 5 then c :: oth c :: tlF (oth c) 1 m else c :: tlF c (if c = last then n + 1 else 1) m
theorem stuff_tl : ∀ (m : List UInt8) (ss : SS), (m.foldl ssStep ss).out = ss.out ++ tlF ss.last ss.n m
  | [], ss => by simp [tlF]
  | c :: m, ss => by
    rw [List.foldl_cons, stuff_tl m]
    by_cases h : ssN ss c = 5
    · obtain ⟨h1, h2, h3, _⟩ := ssStep_five h
      rw [h1, h2, h3]
      conv => rhs; unfold tlF
      unfold ssN at h
      rw [if_pos h]
      simp
    · obtain ⟨h1, h2, h3, _⟩ := ssStep_less h
      rw [h1, h2, h3]
      conv => rhs; unfold tlF
      unfold ssN at h ⊢
      rw [if_neg h]
      simp
theorem stuffF_tl (l : List UInt8) : stuffF l = tlF 0 0 l := by
  have := stuff_tl l ss0
  simpa [stuffF, stuffS, ss0] using this
theorem tlF_five {last : UInt8} {n : Nat} {c : UInt8} (h : (if c = last then n + 1 else 1) = 5) (m : List UInt8) : tlF last n (c :: m) = c :: oth c :: tlF (oth c) 1 m := by
  conv => lhs; unfold tlF
  rw [if_pos h]
theorem tlF_less {last : UInt8} {n : Nat} {c : UInt8} (h : (if c = last then n + 1 else 1) ≠ 5) (m : List UInt8) : tlF last n (c :: m) = c :: tlF c (if c = last then n + 1 else 1) m := by
  conv => lhs; unfold tlF
  rw [if_neg h]

theorem oth_neq {c : UInt8} (h : c = 48 ∨ c = 49) : oth c ≠ c := by rcases h with rfl | rfl <;> decide
theorem uN_less {last : UInt8} {n : Nat} (h : n < 5) (c : UInt8) : uN last n c = (if c = last then n + 1 else 1) ∧ uK last n c = 1 := by
  have h5 : ¬ n = 5 := by omega
  exact ⟨by unfold uN; rw [if_neg h5], by unfold uK; rw [if_neg h5]⟩
theorem uN_five {c : UInt8} (h : c = 48 ∨ c = 49) : uN c 5 (oth c) = 1 ∧ uK c 5 (oth c) = 2 := by
  exact ⟨by unfold uN; rw [if_pos rfl, if_neg (oth_neq h)], by unfold uK; rw [if_pos rfl, if_neg (oth_neq h)]⟩

/-- A row of bits that is a head with its sum, as long as its head tells. -/
structure Full (l : List UInt8) : Prop where
  sz : sizeE l = 0
  len : l.length = sizeV l + 15
  h0 : l[0]? = some 48
  bits : ∀ c ∈ l, c = 48 ∨ c = 49

theorem Full.notYet {l : List UInt8} (H : Full l) {b m : List UInt8} {c : UInt8} (e : b ++ c :: m = l) (n : Nat) : doneB b n = false ∧ badB (b ++ [c]) = false := by
  constructor
  · unfold doneB
    by_cases h : sizeE b = 0
    · have h2 := (size_append (c :: m) (.inl h)).2
      rw [e] at h2
      have h3 := H.len
      rw [← e, List.length_append, List.length_cons, e] at h3
      have : ¬ b.length = sizeV b + 15 := by omega
      simp [this]
    · simp [h]
  · have e2 : (b ++ [c]) ++ m = l := by rw [← e]; simp
    unfold badB
    rw [Bool.or_eq_false_iff]
    constructor
    · rw [decide_eq_false_iff_not]
      intro h
      have := (size_append m (.inr h)).1
      rw [e2, H.sz] at this
      omega
    · rw [decide_eq_false_iff_not]
      have : l[0]? = (b ++ [c])[0]? := by rw [← e2, List.getElem?_append_left (by simp)]
      rw [← this, H.h0]
      decide
theorem Full.done {l : List UInt8} (H : Full l) {n : Nat} (h : n < 5) : doneB l n = true := by
  unfold doneB
  rw [decide_eq_true H.sz, decide_eq_true H.len, decide_eq_true h]; rfl
theorem ite_lt5 {c last : UInt8} {n : Nat} (hn : n < 5) (h : (if c = last then n + 1 else 1) ≠ 5) : (if c = last then n + 1 else 1) < 5 := by
  split at h
  · rename_i hc; rw [if_pos hc]; omega
  · rename_i hc; rw [if_neg hc]; omega

theorem unstuff_tl {l : List UInt8} (H : Full l) (r : List UInt8) : ∀ (m b : List UInt8) (last : UInt8) (n k : Nat), b ++ m = l → n < 5 → stuffedF (tlF last n m ++ r) last n b k = ⟨0, l, k + (tlF last n m).length⟩
  | [], b, last, n, k, e, hn => by
    rw [List.append_nil] at e
    subst e
    rw [stuffed_done (H.done hn)]
    simp [tlF]
  | c :: m, b, last, n, k, e, hn => by
    obtain ⟨h1, h2⟩ := H.notYet e n
    obtain ⟨u1, u2⟩ := uN_less hn (last := last) c
    have hc : c = 48 ∨ c = 49 := H.bits c (by rw [← e]; simp)
    have e' : (b ++ [c]) ++ m = l := by rw [← e]; simp
    by_cases h5 : (if c = last then n + 1 else 1) = 5
    · rw [tlF_five h5]
      rw [List.cons_append, List.cons_append, stuffed_data h1 c _ last k u2 h2, u1, h5]
      obtain ⟨v1, v2⟩ := uN_five hc
      have hd : doneB (b ++ [c]) 5 = false := by unfold doneB; simp
      rw [stuffed_stuff hd _ _ _ _ v2, v1, unstuff_tl H r m (b ++ [c]) (oth c) 1 (k + 1 + 1) e' (by omega)]
      simp only [List.length_cons, SR.mk.injEq, true_and]
      omega
    · rw [tlF_less h5]
      rw [List.cons_append, stuffed_data h1 c _ last k u2 h2, u1, unstuff_tl H r m (b ++ [c]) c _ (k + 1) e' (ite_lt5 hn h5)]
      simp only [List.length_cons, SR.mk.injEq, true_and]
      omega

theorem unstuff_cut {l : List UInt8} (H : Full l) : ∀ (m b : List UInt8) (last : UInt8) (n k j : Nat), b ++ m = l → n < 5 → j < (tlF last n m).length → stuffedF ((tlF last n m).take j) last n b k = ⟨3, [], 0⟩
  | [], b, last, n, k, j, e, hn, hj => by simp [tlF] at hj
  | c :: m, b, last, n, k, j, e, hn, hj => by
    obtain ⟨h1, h2⟩ := H.notYet e n
    obtain ⟨u1, u2⟩ := uN_less hn (last := last) c
    have hc : c = 48 ∨ c = 49 := H.bits c (by rw [← e]; simp)
    have e' : (b ++ [c]) ++ m = l := by rw [← e]; simp
    match j with
    | 0 => rw [List.take_zero]; exact stuffed_nil h1 _ _
    | j + 1 =>
      by_cases h5 : (if c = last then n + 1 else 1) = 5
      · rw [tlF_five h5] at hj ⊢
        rw [List.take_succ_cons, stuffed_data h1 c _ last k u2 h2, u1, h5]
        obtain ⟨v1, v2⟩ := uN_five hc
        have hd : doneB (b ++ [c]) 5 = false := by unfold doneB; simp
        match j with
        | 0 => rw [List.take_zero]; exact stuffed_nil hd _ _
        | j + 1 =>
          rw [List.take_succ_cons, stuffed_stuff hd _ _ _ _ v2, v1]
          refine unstuff_cut H m (b ++ [c]) (oth c) 1 (k + 1 + 1) j e' (by omega) ?_
          simp only [List.length_cons] at hj
          omega
      · rw [tlF_less h5] at hj ⊢
        rw [List.take_succ_cons, stuffed_data h1 c _ last k u2 h2, u1]
        refine unstuff_cut H m (b ++ [c]) c _ (k + 1) j e' (ite_lt5 hn h5) ?_
        simp only [List.length_cons] at hj
        omega

/-- What is known about the bits that were unstuffed. -/
theorem stuffed_ok : ∀ (s : List UInt8) (last : UInt8) (n : Nat) (b : List UInt8) (k : Nat), (stuffedF s last n b k).e = 0 → (∀ c ∈ s, c = 48 ∨ c = 49) → (∀ c ∈ b, c = 48 ∨ c = 49) →
    sizeE (stuffedF s last n b k).bits = 0 ∧ (stuffedF s last n b k).bits.length = sizeV (stuffedF s last n b k).bits + 15 ∧ (∀ c ∈ (stuffedF s last n b k).bits, c = 48 ∨ c = 49) ∧ k ≤ (stuffedF s last n b k).n ∧ (stuffedF s last n b k).n ≤ k + s.length
  | s, last, n, b, k, h, hs, hb => by
    by_cases hd : doneB b n = true
    · rw [stuffed_done hd]
      unfold doneB at hd
      simp only [Bool.and_eq_true, decide_eq_true_eq] at hd
      exact ⟨hd.1, hd.2.1, hb, Nat.le_refl _, Nat.le_add_right _ _⟩
    · have hd' : doneB b n = false := by simpa using hd
      match s with
      | [] => rw [stuffed_nil hd'] at h; exact absurd h (by decide)
      | c :: s =>
        have hs' : ∀ d ∈ s, d = 48 ∨ d = 49 := fun d hd => hs d (List.mem_cons_of_mem _ hd)
        have hb' : ∀ d ∈ b ++ [c], d = 48 ∨ d = 49 := by
          intro d hd
          rw [List.mem_append, List.mem_singleton] at hd
          rcases hd with hd | rfl
          · exact hb d hd
          · exact hs d (by simp)
        rcases uK_or last n c with hk | hk | hk
        · cases hbd : badB (b ++ [c]) with
          | true => rw [stuffed_bad hd' c s last k hk hbd] at h; exact absurd h (by decide)
          | false =>
            rw [stuffed_data hd' c s last k hk hbd] at h ⊢
            have := stuffed_ok s c (uN last n c) (b ++ [c]) (k + 1) h hs' hb'
            refine ⟨this.1, this.2.1, this.2.2.1, by omega, ?_⟩
            rw [List.length_cons]; omega
        · rw [stuffed_stuff hd' c s last k hk] at h ⊢
          have := stuffed_ok s c (uN last n c) b (k + 1) h hs' hb
          refine ⟨this.1, this.2.1, this.2.2.1, by omega, ?_⟩
          rw [List.length_cons]; omega
        · rw [stuffed_err hd' c s last k hk] at h; exact absurd h (by decide)
theorem stuffed_no : ∀ (s : List UInt8) (last : UInt8) (n : Nat) (b : List UInt8) (k : Nat), (stuffedF s last n b k).e ≠ 0 → (stuffedF s last n b k).bits = [] ∧ (stuffedF s last n b k).n = 0
  | s, last, n, b, k, h => by
    by_cases hd : doneB b n = true
    · rw [stuffed_done hd] at h; exact absurd rfl h
    · have hd' : doneB b n = false := by simpa using hd
      match s with
      | [] => rw [stuffed_nil hd']; exact ⟨rfl, rfl⟩
      | c :: s =>
        rcases uK_or last n c with hk | hk | hk
        · cases hbd : badB (b ++ [c]) with
          | true => rw [stuffed_bad hd' c s last k hk hbd]; exact ⟨rfl, rfl⟩
          | false =>
            rw [stuffed_data hd' c s last k hk hbd] at h ⊢
            exact stuffed_no s c (uN last n c) (b ++ [c]) (k + 1) h
        · rw [stuffed_stuff hd' c s last k hk] at h ⊢
          exact stuffed_no s c (uN last n c) b (k + 1) h
        · rw [stuffed_err hd' c s last k hk]; exact ⟨rfl, rfl⟩

/-- Nothing but the stuffed row is unstuffed to one. -/
theorem stuffed_only : ∀ (s : List UInt8) (last : UInt8) (n : Nat) (b : List UInt8) (k : Nat), (∀ c ∈ s, c = 48 ∨ c = 49) → n ≤ 5 → (n = 0 ∨ last = 48 ∨ last = 49) → (stuffedF s last n b k).e = 0 →
    ∃ m, (stuffedF s last n b k).bits = b ++ m ∧ s.take ((stuffedF s last n b k).n - k) = (if n = 5 then oth last :: tlF (oth last) 1 m else tlF last n m) ∧ k ≤ (stuffedF s last n b k).n
  | s, last, n, b, k, hs, hn, hl, h => by
    by_cases hd : doneB b n = true
    · rw [stuffed_done hd]
      unfold doneB at hd
      simp only [Bool.and_eq_true, decide_eq_true_eq] at hd
      refine ⟨[], by simp, ?_, Nat.le_refl _⟩
      rw [if_neg (by omega)]
      simp [tlF]
    · have hd' : doneB b n = false := by simpa using hd
      match s with
      | [] => rw [stuffed_nil hd'] at h; exact absurd h (by decide)
      | c :: s =>
        have hs' : ∀ d ∈ s, d = 48 ∨ d = 49 := fun d hd => hs d (List.mem_cons_of_mem _ hd)
        have hc : c = 48 ∨ c = 49 := hs c (by simp)
        have hu := uN_le (last := last) hn c
        have tk : ∀ N, k + 1 ≤ N → (c :: s).take (N - k) = c :: s.take (N - (k + 1)) := fun N hN => by
          rw [show N - k = (N - (k + 1)) + 1 by omega, List.take_succ_cons]
        rcases uK_or last n c with hk | hk | hk
        · cases hbd : badB (b ++ [c]) with
          | true => rw [stuffed_bad hd' c s last k hk hbd] at h; exact absurd h (by decide)
          | false =>
            rw [stuffed_data hd' c s last k hk hbd] at h ⊢
            obtain ⟨m, e1, e2, e3⟩ := stuffed_only s c (uN last n c) (b ++ [c]) (k + 1) hs' hu.2 (.inr hc) h
            refine ⟨c :: m, by rw [e1]; simp, ?_, by omega⟩
            have h5 : n < 5 := by
              unfold uK at hk
              split at hk
              · split at hk <;> omega
              · omega
            rw [if_neg (by omega), tk _ e3, e2, (uN_less h5 c).1]
            by_cases h6 : (if c = last then n + 1 else 1) = 5
            · rw [tlF_five h6, if_pos h6]
            · rw [tlF_less h6, if_neg h6]
        · rw [stuffed_stuff hd' c s last k hk] at h ⊢
          obtain ⟨m, e1, e2, e3⟩ := stuffed_only s c (uN last n c) b (k + 1) hs' hu.2 (.inr hc) h
          refine ⟨m, e1, ?_, by omega⟩
          have h5 : n = 5 ∧ c ≠ last := by
            unfold uK at hk
            split at hk
            · split at hk
              · omega
              · rename_i a d; exact ⟨a, d⟩
            · omega
          have hu1 : uN last n c = 1 := by unfold uN; rw [if_pos h5.1, if_neg h5.2]
          rw [hu1, if_neg (by omega)] at e2
          have ho : c = oth last := by
            have h0 := h5.2
            rcases hl with hl | rfl | rfl
            · omega
            · rcases hc with rfl | rfl
              · exact absurd rfl h0
              · decide
            · rcases hc with rfl | rfl
              · decide
              · exact absurd rfl h0
          rw [if_pos h5.1, tk _ e3, hu1, e2, ho]
        · rw [stuffed_err hd' c s last k hk] at h; exact absurd h (by decide)

/-! ### heads -/
theorem dataPart_cons (a : UInt8) (d : List UInt8) : dataPart (a :: d) = bitsOf a.toNat 8 ++ dataPart d := by simp [dataPart]
theorem dataPart_at : ∀ (d : List UInt8) (j : Nat) (h : j < d.length), ((dataPart d).drop (8 * j)).take 8 = bitsOf d[j].toNat 8
  | [], j, h => by simp at h
  | a :: d, 0, _ => by
    rw [dataPart_cons, Nat.mul_zero, List.drop_zero, List.take_append_of_le_length (by rw [bitsOf_length]; omega), List.take_of_length_le (by rw [bitsOf_length]; omega)]
    rfl
  | a :: d, j + 1, h => by
    rw [dataPart_cons, show 8 * (j + 1) = (bitsOf a.toNat 8).length + 8 * j by rw [bitsOf_length]; omega, List.drop_append, List.drop_of_length_le (by omega)]
    have := dataPart_at d j (by simpa using h)
    simpa using this
theorem head_split (f : Fr) : ∃ pre, headF f = pre ++ dataPart f.data.data.toList ∧ pre.length = if f.ext then 39 else 19 := by
  cases h : f.ext with
  | false =>
    refine ⟨48 :: (bitsOf f.id 11 ++ ([bitB f.rem, 48, 48] ++ bitsOf f.dlc.toNat 4)), ?_, by simp [bitsOf_length]⟩
    rw [head_short f h]; simp
  | true =>
    refine ⟨48 :: (bitsOf (f.id / 262144) 11 ++ ([49, 49] ++ (bitsOf (f.id % 262144) 18 ++ ([bitB f.rem, 48, 48] ++ bitsOf f.dlc.toNat 4)))), ?_, by simp [bitsOf_length]⟩
    rw [head_long f h]; simp

theorem byte_of (c : UInt8) : UInt8.ofNat (numOf (bitsOf c.toNat 8)) = c := by
  rw [numOf_bitsOf, Nat.mod_eq_of_lt (UInt8.toNat_lt c)]
  simp

theorem raw_data (f : Fr) : bytesF (headF f) (if f.ext then 39 else 19) f.data.size = f.data.data.toList := by
  obtain ⟨pre, h1, h2⟩ := head_split f
  have hd : f.data.data.toList.length = f.data.size := Array.length_toList
  rw [← h2, h1]
  generalize f.data.data.toList = d at *
  apply List.ext_getElem
  · rw [bytesF_len, hd]
  · intro j hj1 hj2
    simp only [bytesF, List.getElem_map, List.getElem_range]
    unfold byteAt
    rw [List.extract_eq_take_drop, show pre.length + 8 * j + 8 - (pre.length + 8 * j) = 8 by omega, List.drop_append, List.drop_of_length_le (by omega), show pre.length + 8 * j - pre.length = 8 * j by omega, List.nil_append, dataPart_at d j hj2, byte_of]

theorem bitB_iff (b : Bool) : bitB b = 49 ↔ b = true := by cases b <;> decide
theorem head_size {f : Fr} (hr : rightB f = true) : fxN (headF f) = (if f.ext then 39 else 19) ∧ dlN (headF f) = f.dlc.toNat ∧ sizeE (headF f) = 0 ∧ sizeV (headF f) = (headF f).length ∧ decide ((headF f)[fxN (headF f) - 7]? = some 49) = f.rem ∧ idF (headF f) = f.id := by
  have hR := right_size hr
  have hL := head_length f
  have hdl : f.dlc.toNat < 16 := by omega
  have hsz : (f.data.size : Int) = if f.rem then 0 else f.dlc := by
    simp only [rightB, Bool.and_eq_true, decide_eq_true_eq] at hr
    exact hr.2
  cases h : f.ext with
  | false =>
    obtain ⟨a0, a12, a13, a15, a1⟩ := short_at f h
    have e1 : fxN (headF f) = 19 := by unfold fxN; rw [a13]; rfl
    have e2 : dlN (headF f) = f.dlc.toNat := by unfold dlN; rw [e1, a15, numOf_bitsOf]; exact Nat.mod_eq_of_lt hdl
    rw [h] at hL
    simp only [Bool.false_eq_true, if_false] at hL
    have e3 : sizeE (headF f) = 0 := by unfold sizeE; rw [e1, e2]; rw [if_neg (by omega), if_neg (by omega), if_neg (by omega)]
    have e5 : decide ((headF f)[fxN (headF f) - 7]? = some 49) = f.rem := by
      rw [e1, a12]
      cases f.rem <;> decide
    have e5' : ((headF f)[fxN (headF f) - 7]? = some 49) ↔ f.rem = true := by rw [← e5]; simp
    refine ⟨e1, e2, e3, ?_, e5, ?_⟩
    · unfold sizeV
      rw [if_pos e3, e1, e2, hL]
      rw [e1] at e5'
      by_cases hrem : f.rem = true
      · rw [if_pos (e5'.2 hrem)]; rw [hrem, if_pos rfl] at hsz; simp only [Nat.mul_zero]; omega
      · rw [if_neg (fun x => hrem (e5'.1 x))]; rw [if_neg hrem] at hsz; simp; omega
    · unfold idF; rw [e1, if_neg (by decide), a1]; exact id_short f hr h
  | true =>
    obtain ⟨a0, a13, a32, a35, a1, a14⟩ := long_at f h
    have e1 : fxN (headF f) = 39 := by unfold fxN; rw [a13]; rfl
    have e2 : dlN (headF f) = f.dlc.toNat := by unfold dlN; rw [e1, a35, numOf_bitsOf]; exact Nat.mod_eq_of_lt hdl
    rw [h] at hL
    simp only [if_true] at hL
    have e3 : sizeE (headF f) = 0 := by unfold sizeE; rw [e1, e2]; rw [if_neg (by omega), if_neg (by omega), if_neg (by omega)]
    have e5 : decide ((headF f)[fxN (headF f) - 7]? = some 49) = f.rem := by
      rw [e1, a32]
      cases f.rem <;> decide
    have e5' : ((headF f)[fxN (headF f) - 7]? = some 49) ↔ f.rem = true := by rw [← e5]; simp
    refine ⟨e1, e2, e3, ?_, e5, ?_⟩
    · unfold sizeV
      rw [if_pos e3, e1, e2, hL]
      rw [e1] at e5'
      by_cases hrem : f.rem = true
      · rw [if_pos (e5'.2 hrem)]; rw [hrem, if_pos rfl] at hsz; simp only [Nat.mul_zero]; omega
      · rw [if_neg (fun x => hrem (e5'.1 x))]; rw [if_neg hrem] at hsz; simp; omega
    · unfold idF
      rw [e1, if_pos rfl, a1, a14]
      have := id_long f hr h
      rw [numOf_append, bitsOf_length] at this
      exact this
theorem raw_head {f : Fr} (hr : rightB f = true) : rawF (headF f) = f := by
  obtain ⟨e1, e2, e3, e4, e5, e6⟩ := head_size hr
  have hL := head_length f
  have hd := raw_data f
  have hR := right_size hr
  unfold rawF
  rw [e5, e6, e2, e1]
  have e7 : ((headF f).length - (if f.ext then 39 else 19)) / 8 = f.data.size := by omega
  rw [e7, hd]
  obtain ⟨id, ext, rem, dlc, data⟩ := f
  simp only at hR
  have e8 : ((dlc.toNat : Nat) : Int) = dlc := by omega
  simp only [e8]
  congr 1
  cases ext <;> rfl
theorem read_head {f : Fr} (hr : rightB f = true) : readB (headF f) = true := by
  obtain ⟨e1, e2, e3, e4, e5, e6⟩ := head_size hr
  unfold readB sizedB
  rw [raw_head hr, decide_eq_true e3, decide_eq_true e4, hr, decide_eq_true rfl]; rfl

/-! ### parsing -/
theorem full_of {f : Fr} (hr : rightB f = true) : Full (sumF (headF f)) := by
  obtain ⟨e1, e2, e3, e4, e5, e6⟩ := head_size hr
  have h := size_append (bitsOf (crcOf (headF f)) 15) (.inl e3)
  refine ⟨h.1.trans e3, ?_, ?_, sum_bits (head_bits f)⟩
  · rw [sum_length]
    show _ = sizeV (headF f ++ bitsOf (crcOf (headF f)) 15) + 15
    rw [h.2, e4]
  · show (headF f ++ bitsOf (crcOf (headF f)) 15)[0]? = some 48
    rw [List.getElem?_append_left (by have := head_le hr; omega)]
    rfl
theorem headOf_sum (l : List UInt8) : headOf (sumF l) = l := by
  unfold headOf
  rw [sum_length]
  show (l ++ bitsOf (crcOf l) 15).take _ = l
  rw [List.take_append_of_le_length (by omega), List.take_of_length_le (by omega)]

/-- A frame's stuffed bits and what stands behind them. -/
theorem parse_stuffed {f : Fr} (hr : rightB f = true) (r : List UInt8) : parseF (stuffF (sumF (headF f)) ++ r) =
    (if tailE (stuffF (sumF (headF f)) ++ r) (stuffF (sumF (headF f))).length 10 ≠ 0 then ⟨tailE (stuffF (sumF (headF f)) ++ r) (stuffF (sumF (headF f))).length 10, fr0, 0⟩ else ⟨0, f, (stuffF (sumF (headF f))).length + 10⟩) := by
  have h := unstuff_tl (full_of hr) r (sumF (headF f)) [] 0 0 0 rfl (by omega)
  rw [← stuffF_tl] at h
  unfold parseF
  rw [h]
  simp only [ne_eq, not_true_eq_false, if_false, headOf_sum, Nat.zero_add, read_head hr, if_true, raw_head hr]
theorem parse_cut {f : Fr} (hr : rightB f = true) (j : Nat) (hj : j < (stuffF (sumF (headF f))).length) : parseF ((stuffF (sumF (headF f))).take j) = ⟨3, fr0, 0⟩ := by
  rw [stuffF_tl] at hj ⊢
  have h := unstuff_cut (full_of hr) (sumF (headF f)) [] 0 0 0 j rfl (by omega) hj
  unfold parseF
  rw [h]
  simp

theorem parse_ok {s : List UInt8} (hs : ∀ c ∈ s, c = 48 ∨ c = 49) (h : (parseF s).e = 0) : ∃ n, s.take n = stuffF (sumF (headF (parseF s).f)) := by
  unfold parseF at h ⊢
  generalize hr : stuffedF s 0 0 [] 0 = r at *
  simp only at h ⊢
  by_cases h1 : r.e = 0
  · rw [if_neg (by omega)] at h ⊢
    by_cases h2 : sumF (headOf r.bits) = r.bits
    · rw [if_neg (fun x => x h2)] at h ⊢
      by_cases h3 : tailE s r.n 10 = 0
      · rw [if_neg (fun x => x h3)] at h ⊢
        cases h4 : readB (headOf r.bits) with
        | false => rw [h4] at h; simp at h
        | true =>
          rw [if_pos rfl]
          have h5 : headF (rawF (headOf r.bits)) = headOf r.bits := by
            unfold readB at h4
            simp only [Bool.and_eq_true, decide_eq_true_eq] at h4
            exact h4.2.2
          simp only
          rw [h5, h2]
          have := stuffed_only s 0 0 [] 0 hs (by omega) (.inl rfl) (by rw [hr]; exact h1)
          rw [hr] at this
          obtain ⟨m, e1, e2, _⟩ := this
          rw [if_neg (by omega)] at e2
          refine ⟨r.n, ?_⟩
          rw [e1, List.nil_append, stuffF_tl]
          simpa using e2
      · rw [if_pos h3] at h; exact absurd h h3
    · rw [if_pos h2] at h; exact absurd h (by decide)
  · rw [if_pos h1] at h; exact absurd h h1
end Go.Proofs.YthkilodnghiocaaGreatDoor.FP
