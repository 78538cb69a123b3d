import Derived.Test.YtkmddjbialpppaaGreatDoorMgPdG
import Derived.Test.YtkmddjbialpppaaGreatDoorMgBxC
import Derived.Test.YtkmddjbialpppaaGreatDoorMgSnB
import Derived.Test.YtkmddjbialpppaaGreatDoorMgCoZ
import Derived.Ground.NamesProg
import Derived.Shelf.Strings.SlTrimAscii
import Derived.Test.YtkmddjbialpppaaGreatDoorChecked
import Derived.Test.YtkmddjbialpppaaGreatDoorMgFrC
namespace Go.Proofs.YtkmddjbialpppaaGreatDoor
open Go.ChangeShapes Go.WideShapes Go.ChangeAt Go.RowKit
theorem bU {P : Program} {ops : Array Oper} {rest : List Oper} {o : Oper} {a : Act} {w : World} {Q : Exit → Act → World → Prop} (hw : Region.wanted o (yielded ops a.tmps) = true) (ty : TypeId) (x : Operand) (ho : o.op = .load ty x)
    (g : Nat) (hx : a.eval x = .pointer (some ⟨g, 0, none⟩)) (t : TypeId) (cs : Array Value) (fr : Nat × Nat) (d : TypeDesc) (hg : w.heap[g]? = some (.cells cs t fr))
    (hu : P.underlying ty = some d) (hd : (match d with | .struct _ | .array _ _ => true | _ => false) = true) (hi : (P.info? ty).map (·.size) = some cs.size)
    (h : wpList P ops Q rest (a.put o.dst (.agg cs)) w) : wpList P ops Q (o :: rest) a w :=
  wpList_step fun K hK => by
    rw [if_pos hw]
    exact wp_load_row ty x ho g hx t cs fr d hg hu hd hi (hK _ _ h)
theorem cI {P : Program} {ops : Array Oper} {rest : List Oper} {op : Oper} {a : Act} {w : World} {Q : Exit → Act → World → Prop} (hw : Region.wanted op (yielded ops a.tmps) = true) (ty : TypeId) (x : Operand) (ho : op.op = .load ty x)
    (b o : Nat) (hx : a.eval x = .pointer (some ⟨b, o, none⟩)) (cs : List Value) (d : TypeDesc) (hc : w.rangeAt b o cs)
    (hu : P.underlying ty = some d) (hd : d.isRow = true) (hi : (P.info? ty).map (·.size) = some cs.length)
    (h : wpList P ops Q rest (a.put op.dst (.agg cs.toArray)) w) : wpList P ops Q (op :: rest) a w :=
  wpList_step fun K hK => by
    rw [if_pos hw]
    exact wp_load_mid ty x ho b o hx cs d hc hu hd hi (hK _ _ h)
end Go.Proofs.YtkmddjbialpppaaGreatDoor
namespace Go.Proofs.YtkmddjbialpppaaGreatDoor
open Go.ChangeShapes Go.WideShapes Go.ChangeAt Go.RowKit
open FP (Fr)
set_option maxRecDepth 100000 in
theorem kG (w : World) : Calls Tryz.prog 22 #[] w fun e w' => e = .returned (.agg zCl.cs.toArray) ∧ Below w.heap.size w w' := by
  have R0 := aA (World.alloc_heap_new w (.cells zCl.cs.toArray 39))
  have TR := aA (show (w.alloc (.cells zCl.cs.toArray 39)).there w.heap.size 0 23 from aK (cs := zCl.cs) R0.out)
  have q0 : Below w.heap.size w (w.alloc (.cells zCl.cs.toArray 39)) := (Below.refl _ _).alloc (Nat.le_refl _) _
  go_enter Tryz.func22, Tryz.ntmps22
  go_wp2_with (refine aF (by rfl) 39 (.tmp 0) (.tmp 1) (by rfl) w.heap.size 0 zCl.cs (by rfl) (by rfl) (by exact TR.out) (by kernel_rfl) (by simp [Value.oneCell', Cl.cs]) ?_)
  intro w6 e6
  have R6 := aA (show w6.heap[w.heap.size]? = some (.cells zCl.cs.toArray 39 (0, 0)) by rw [e6.out]; exact aJ zCl.cs (xs := zCl.cs) R0.out rfl)
  have Q6 := aA (show Below w.heap.size w w6 by rw [e6.out]; exact q0.trans (aE (g := w.heap.size) _ 0 _ (Nat.le_refl _)))
  go_wp2_with fail
  refine bodyPost_ret (results_cell_row (p := 0) (ty := 39) (by rfl) _ w6 w.heap.size 39 zCl.cs.toArray (0, 0) _ (by rfl) R6.out Tryz.underlying39 (by rfl) (by kernel_rfl)) rfl ⟨rfl, Q6.out⟩
end Go.Proofs.YtkmddjbialpppaaGreatDoor
namespace Go.Proofs.YtkmddjbialpppaaGreatDoor.FP
structure SS where
  last : UInt8
  n : Nat
  out : List UInt8
  fr : Nat
def oth (c : UInt8) : UInt8 := c ^^^ 48 ^^^ 49
def ssN (s : SS) (c : UInt8) : Nat := if c = s.last then s.n + 1 else 1
def eK (s : SS) (c : UInt8) : SS :=
  if ssN s c = 5 then ⟨oth c, 1, (s.out ++ [c]) ++ [oth c], s.out.length + 1⟩ else ⟨c, ssN s c, s.out ++ [c], s.fr⟩
def ss0 : SS := ⟨0, 0, [], 0⟩
def cJ (l : List UInt8) : SS := l.foldl eK ss0
def dJ (l : List UInt8) : List UInt8 := (cJ l).out
theorem stuffS_snoc (l : List UInt8) (c : UInt8) : cJ (l ++ [c]) = eK (cJ l) c := by simp [cJ]
structure SInv (s : SS) (i : Nat) : Prop where
  n5 : s.n < 5
  fr : s.fr + s.n ≤ s.out.length
  same : ∀ j, j < s.n → s.out[s.out.length - 1 - j]? = some s.last
  end_ : s.fr + s.n < s.out.length → s.out[s.out.length - 1 - s.n]? ≠ some s.last
  bit : s.n = 0 ∧ s.last = 0 ∧ i = 0 ∨ (1 ≤ s.n ∧ (s.last = 48 ∨ s.last = 49) ∧ 1 ≤ i)
  all : ∀ c ∈ s.out, c = 48 ∨ c = 49
  len : 4 * (s.out.length - i) + s.n ≤ i ∧ i ≤ s.out.length
theorem ssStep_five {s : SS} {c : UInt8} (h : ssN s c = 5) : (eK s c).last = oth c ∧ (eK s c).n = 1 ∧ (eK s c).out = (s.out ++ [c]) ++ [oth c] ∧ (eK s c).fr = s.out.length + 1 := by
  unfold eK; rw [if_pos h]; exact ⟨rfl, rfl, rfl, rfl⟩
theorem ssStep_less {s : SS} {c : UInt8} (h : ssN s c ≠ 5) : (eK s c).last = c ∧ (eK s c).n = ssN s c ∧ (eK s c).out = s.out ++ [c] ∧ (eK s c).fr = s.fr := by
  unfold eK; rw [if_neg h]; exact ⟨rfl, rfl, rfl, rfl⟩
theorem oth_bit {c : UInt8} (h : c = 48 ∨ c = 49) : oth c = 48 ∧ c = 49 ∨ oth c = 49 ∧ c = 48 := by
  rcases h with rfl | rfl
  · right; decide
  · left; decide
theorem oth_is {c : UInt8} (h : c = 48 ∨ c = 49) : oth c = 48 ∨ oth c = 49 := by
  rcases oth_bit h with h | h
  · exact .inl h.1
  · exact .inr h.1
theorem ss_inv0 : SInv ss0 0 := ⟨by decide, by decide, fun j h => absurd h (by simp [ss0]), fun h => absurd h (by simp [ss0]), .inl ⟨rfl, rfl, rfl⟩, fun c h => absurd h (by simp [ss0]), by simp [ss0]⟩
theorem snoc_lt {α : Type} (l : List α) (c : α) {j : Nat} (h : j < l.length) : (l ++ [c])[j]? = l[j]? := List.getElem?_append_left h
theorem SInv.last {s : SS} {i : Nat} (h : SInv s i) (hn : 1 ≤ s.out.length) : s.out[s.out.length - 1]? = some s.last ∧ 1 ≤ s.n := by
  rcases h.bit with ⟨h0, _, hi⟩ | ⟨h1, _, _⟩
  · have := h.len; omega
  · exact ⟨by have := h.same 0 (by omega); simpa using this, h1⟩
theorem SInv.step {s : SS} {i : Nat} (h : SInv s i) {c : UInt8} (hc : c = 48 ∨ c = 49) : SInv (eK s c) (i + 1) := by
  obtain ⟨last, n, out, fr⟩ := s
  have hl := fun hn => h.last hn
  obtain ⟨n5, hfr, same, end_, bit, all, len⟩ := h
  simp only at *
  unfold eK
  simp only
  by_cases h5 : ssN ⟨last, n, out, fr⟩ c = 5
  · rw [if_pos h5]
    have e : n + 1 = 5 := by
      unfold ssN at h5
      split at h5
      · exact h5
      · omega
    refine ⟨by simp, by simp, ?_, ?_, ?_, ?_, ?_⟩
    · intro j hj
      have : j = 0 := by simp only at hj; omega
      subst this
      simp
    · intro hj; simp at hj
    · exact .inr ⟨by simp, oth_is hc, by omega⟩
    · intro x hx
      simp only [List.mem_append, List.mem_singleton] at hx
      rcases hx with (hx | rfl) | rfl
      · exact all x hx
      · exact hc
      · exact oth_is hc
    · simp only [List.length_append, List.length_cons, List.length_nil]; omega
  · rw [if_neg h5]
    have hall : ∀ x ∈ out ++ [c], x = 48 ∨ x = 49 := by
      intro x hx
      simp only [List.mem_append, List.mem_singleton] at hx
      rcases hx with hx | rfl
      · exact all x hx
      · exact hc
    by_cases hcl : c = last
    · have e : ssN ⟨last, n, out, fr⟩ c = n + 1 := by unfold ssN; rw [if_pos hcl]
      rw [e] at h5 ⊢
      refine ⟨by simp only; omega, by simp; omega, ?_, ?_, ?_, hall, ?_⟩
      · intro j hj
        simp only [List.length_append, List.length_cons, List.length_nil] at *
        rcases Nat.eq_zero_or_pos j with h0 | h0
        · subst h0; simp
        · rw [show out.length + (0 + 1) - 1 - j = out.length - 1 - (j - 1) by omega, snoc_lt _ _ (by omega), same (j - 1) (by omega), hcl]
      · intro hj
        simp only [List.length_append, List.length_cons, List.length_nil] at *
        rw [show out.length + (0 + 1) - 1 - (n + 1) = out.length - 1 - n by omega, snoc_lt _ _ (by omega), hcl]
        exact end_ (by omega)
      · exact .inr ⟨by simp, hc, by omega⟩
      · simp only [List.length_append, List.length_cons, List.length_nil]; omega
    · have e : ssN ⟨last, n, out, fr⟩ c = 1 := by unfold ssN; rw [if_neg hcl]
      rw [e] at h5 ⊢
      refine ⟨by simp, by simp; omega, ?_, ?_, ?_, hall, ?_⟩
      · intro j hj
        have : j = 0 := by simp only at hj; omega
        subst this
        simp
      · intro hj
        simp only [List.length_append, List.length_cons, List.length_nil] at *
        rw [show out.length + (0 + 1) - 1 - 1 = out.length - 1 by omega, snoc_lt _ _ (by omega), (hl (by omega)).1]
        intro he
        exact hcl (Option.some.inj he).symm
      · exact .inr ⟨by simp, hc, by omega⟩
      · simp only [List.length_append, List.length_cons, List.length_nil]; omega
theorem stuff_inv (l : List UInt8) (hl : ∀ c ∈ l, c = 48 ∨ c = 49) : SInv (cJ l) l.length := by
  have : ∀ i, i ≤ l.length → SInv (cJ (l.take i)) i := by
    intro i
    induction i with
    | zero => intro _; simpa [cJ] using ss_inv0
    | succ i ih =>
      intro hi
      rw [List.take_succ_eq_append_getElem hi, stuffS_snoc]
      exact (ih (by omega)).step (hl _ (List.getElem_mem hi))
  have h := this l.length (Nat.le_refl _)
  rwa [List.take_of_length_le (Nat.le_refl _)] at h
theorem stuff_len (l : List UInt8) (hl : ∀ c ∈ l, c = 48 ∨ c = 49) : l.length ≤ (dJ l).length ∧ (dJ l).length ≤ l.length + (l.length - 1) / 4 := by
  have h := stuff_inv l hl
  refine ⟨h.len.2, ?_⟩
  have h1 := h.len.1
  have h2 := h.len.2
  unfold dJ
  rcases h.bit with ⟨h0, _, hi⟩ | ⟨h0, _, hi⟩ <;> omega
end Go.Proofs.YtkmddjbialpppaaGreatDoor.FP
namespace Go.Proofs.YtkmddjbialpppaaGreatDoor.FP
def cV (r : Nat) (c : UInt8) : Nat := (2 * r % 32768) ^^^ (if (r.testBit 14) ^^ (c == 49) then 17817 else 0)
def dG (l : List UInt8) : Nat := l.foldl cV 0
theorem crcStep_lt (r : Nat) (c : UInt8) : cV r c < 32768 := by
  unfold cV
  exact Nat.xor_lt_two_pow (n := 15) (by omega) (by split <;> omega)
theorem crcOf_snoc (l : List UInt8) (c : UInt8) : dG (l ++ [c]) = cV (dG l) c := by simp [dG]
theorem foldl_crc_lt : ∀ (l : List UInt8) (r : Nat), r < 32768 → l.foldl cV r < 32768
  | [], _, h => h
  | c :: l, r, _ => foldl_crc_lt l _ (crcStep_lt r c)
theorem crcOf_lt (l : List UInt8) : dG l < 32768 := foldl_crc_lt l 0 (by omega)
def pB (k : Nat) : Bool := (50585 : Nat).testBit (15 - k)
end Go.Proofs.YtkmddjbialpppaaGreatDoor.FP
namespace Go.Proofs.YtkmddjbialpppaaGreatDoor.FP
def fP (l : List UInt8) : List UInt8 := l ++ aY (dG l) 15
def tenF : List UInt8 := [49, 49, 49, 49, 49, 49, 49, 49, 49, 49]
def gE (f : Fr) : List UInt8 := dJ (fP (cC f)) ++ tenF
theorem bitB_bit (b : Bool) : dT b = 48 ∨ dT b = 49 := by cases b <;> decide
theorem head_bits (f : Fr) : ∀ c ∈ cC f, c = 48 ∨ c = 49 := by
  intro c hc
  unfold cC gY bT at hc
  simp only [List.mem_cons, List.mem_append, List.mem_flatMap] at hc
  rcases hc with rfl | hc | rfl | rfl | rfl | hc | ⟨x, _, hc⟩
  · exact .inl rfl
  · split at hc
    · simp only [List.mem_cons, List.mem_append, List.not_mem_nil, or_false] at hc
      rcases hc with hc | (rfl | rfl) | hc
      · exact fB hc
      · exact .inr rfl
      · exact .inr rfl
      · exact fB hc
    · exact fB hc
  · exact bitB_bit _
  · exact .inl rfl
  · exact .inl rfl
  · exact fB hc
  · exact fB hc
theorem right_size {f : Fr} (h : rightB f = true) : f.data.size ≤ 8 ∧ 0 ≤ f.dlc ∧ f.dlc ≤ 8 ∧ f.id < 536870912 := by
  simp only [rightB, Bool.and_eq_true, decide_eq_true_eq] at h
  obtain ⟨⟨⟨h1, h2⟩, h3⟩, h4⟩ := h
  refine ⟨?_, h2, h3, ?_⟩
  · split at h4 <;> omega
  · split at h1 <;> omega
theorem head_le {f : Fr} (h : rightB f = true) : 19 ≤ (cC f).length ∧ (cC f).length ≤ 103 := by
  have := right_size h
  rw [head_length]
  split <;> omega
theorem sum_length (l : List UInt8) : (fP l).length = l.length + 15 := by simp [fP, bitsOf_length]
theorem sum_bits {l : List UInt8} (h : ∀ c ∈ l, c = 48 ∨ c = 49) : ∀ c ∈ fP l, c = 48 ∨ c = 49 := by
  intro c hc
  unfold fP at hc
  rw [List.mem_append] at hc
  exact hc.elim (h c) fB
theorem bits_len {f : Fr} (h : rightB f = true) : 34 ≤ (dJ (fP (cC f))).length ∧ (dJ (fP (cC f))).length ≤ (cC f).length + 15 + ((cC f).length + 14) / 4 ∧ (gE f).length = (dJ (fP (cC f))).length + 10 := by
  have h1 := stuff_len (fP (cC f)) (sum_bits (head_bits f))
  have h2 := head_le h
  rw [sum_length] at h1
  refine ⟨by omega, by omega, by simp [gE, tenF]⟩
end Go.Proofs.YtkmddjbialpppaaGreatDoor.FP
namespace Go.Proofs.YtkmddjbialpppaaGreatDoor.FP
def iG (l : List UInt8) : Nat := if l[13]? = some 49 then 39 else 19
def dlN (l : List UInt8) : Nat := numOf (l.extract (iG l - 4) (iG l))
def cE (l : List UInt8) : Nat := if l.length < 14 then 3 else if l.length < iG l then 3 else if 8 < dlN l then 12 else 0
def cT (l : List UInt8) : Nat := if cE l = 0 then iG l + 8 * (if l[iG l - 7]? = some 49 then 0 else dlN l) else 0
theorem fxN_or (l : List UInt8) : iG l = 19 ∨ iG l = 39 := by unfold iG; split <;> simp
theorem sizeV_bd (l : List UInt8) : cT l ≤ 103 := by
  unfold cT
  split
  · rename_i h
    have h2 := fxN_or l
    have : dlN l ≤ 8 := by
      unfold cE at h
      split at h
      · omega
      · split at h
        · omega
        · split at h <;> omega
    split <;> omega
  · omega
theorem sizeV_ge {l : List UInt8} (h : cE l = 0) : iG l ≤ cT l ∧ (cT l - iG l) % 8 = 0 := by
  unfold cT
  rw [if_pos h]
  omega
def jF (l : List UInt8) (k j : Nat) : UInt8 := UInt8.ofNat (numOf (l.extract (k + 8 * j) (k + 8 * j + 8)))
def fD (l : List UInt8) (k n : Nat) : List UInt8 := (List.range n).map (jF l k)
theorem bytesF_len (l : List UInt8) (k n : Nat) : (fD l k n).length = n := by simp [fD]
theorem bytesF_succ (l : List UInt8) (k n : Nat) : fD l k (n + 1) = fD l k n ++ [jF l k n] := by simp [fD, List.range_succ]
def idF (l : List UInt8) : Nat := if iG l = 39 then numOf (l.extract 1 12) * 262144 + numOf (l.extract 14 32) else numOf (l.extract 1 12)
def rawF (l : List UInt8) : Fr := ⟨idF l, decide (iG l = 39), decide (l[iG l - 7]? = some 49), (dlN l : Int), ⟨(fD l (iG l) ((l.length - iG l) / 8)).toArray⟩⟩
def jH (l : List UInt8) : Bool := decide (cE l = 0) && decide (cT l = l.length)
def gJ (l : List UInt8) : Bool := jH l && (rightB (rawF l) && decide (cC (rawF l) = l))
def fr0 : Fr := ⟨0, false, false, 0, ⟨#[]⟩⟩
def eB (l : List UInt8) : Fr := if gJ l then rawF l else fr0
def iP (l : List UInt8) : Nat := if gJ l then 0 else 12
theorem read_yes {l : List UInt8} (h : gJ l = true) : eB l = rawF l ∧ iP l = 0 := by unfold eB iP; rw [h]; exact ⟨rfl, rfl⟩
theorem read_not {l : List UInt8} (h : gJ l = false) : eB l = fr0 ∧ iP l = 12 := by unfold eB iP; rw [h]; exact ⟨rfl, rfl⟩
def uN (last : UInt8) (n : Nat) (c : UInt8) : Nat := if n = 5 then (if c = last then 5 else 1) else if c = last then n + 1 else 1
def uK (last : UInt8) (n : Nat) (c : UInt8) : Nat := if n = 5 then (if c = last then 3 else 2) else 1
theorem uN_le {last : UInt8} {n : Nat} (h : n ≤ 5) (c : UInt8) : 1 ≤ uN last n c ∧ uN last n c ≤ 5 := by
  unfold uN; split
  · split <;> omega
  · split <;> omega
def iR (bits : List UInt8) (n : Nat) : Bool := decide (cE bits = 0) && (decide (bits.length = cT bits + 15) && decide (n < 5))
structure SR where
  e : Nat
  bits : List UInt8
  n : Nat
structure PR where
  e : Nat
  f : Fr
  n : Nat
def jZ (t : List UInt8) : List UInt8 := t.take (t.length - 15)
end Go.Proofs.YtkmddjbialpppaaGreatDoor.FP
namespace Go.Proofs.YtkmddjbialpppaaGreatDoor.FP
structure RS where
  last : UInt8
  n : Nat
  got : List UInt8
def i6 (s : RS) (c : UInt8) : RS := ⟨c, uN s.last s.n c, if uK s.last s.n c = 1 then s.got ++ [c] else s.got⟩
def rs0 : RS := ⟨0, 0, []⟩
def iV (l : List UInt8) : RS := l.foldl i6 rs0
theorem rsOf_snoc (l : List UInt8) (c : UInt8) : iV (l ++ [c]) = i6 (iV l) c := by simp [iV]
def jB (l : List UInt8) : Bool := decide (15 ≤ l.length) && decide (dG l = 0) && gJ (jZ l)
def dK (f : Fr) : List UInt8 := dJ (fP (cC f))
theorem body_take (f : Fr) (j : Nat) (hj : j ≤ (dK f).length) : (gE f).take j = (dK f).take j := by
  show (dK f ++ tenF).take j = _
  rw [List.take_append_of_le_length hj]
theorem body_len (f : Fr) : (gE f).length = (dK f).length + 10 := by
  show (dK f ++ tenF).length = _
  simp [tenF]
theorem body_le {f : Fr} (hr : rightB f = true) : (dK f).length ≤ 147 := by
  have h1 := (bits_len hr).2.1
  have h2 := head_le hr
  show (dJ (fP (cC f))).length ≤ 147
  omega
theorem sizeE_or' (l : List UInt8) : cE l = 0 ∨ cE l = 3 ∨ cE l = 12 := by unfold cE; split; simp; split; simp; split <;> simp
theorem size3_short {l : List UInt8} (h : cE l = 3) : l.length < 14 ∨ l.length < iG l := by
  unfold cE at h
  split at h
  · left; assumption
  · split at h
    · right; assumption
    · split at h <;> omega
theorem got_most {l : List UInt8} (hs : cE l ≠ 12) (hl : cE l = 0 → l.length ≤ cT l + 15) : l.length ≤ 118 := by
  rcases sizeE_or' l with h | h | h
  · have := hl h
    have := sizeV_bd l
    omega
  · have h1 := size3_short h
    have h4 := fxN_or l
    omega
  · exact absurd h hs
end Go.Proofs.YtkmddjbialpppaaGreatDoor.FP
namespace Go.Proofs
open Go.Shelf
def Tryz.lays161_ren : Go.Shelf.Ren := ⟨fun | 161 => 173 | 231 => 210 | 227 => 211 | 233 => 212 | 235 => 213 | 228 => 241 | 197 => 242 | 151 => 243 | 260 => 267 | 152 => 268 | 137 => 274 | 119 => 275 | 224 => 276 | 225 => 277 | 217 => 279 | 266 => 280 | n => n, fun | 9 => 9 | 4 => 4 | 3 => 3 | 5 => 5 | 117 => 303 | 116 => 302 | 0 => 0 | 124 => 306 | 105 => 349 | 21 => 21 | 119 => 375 | 46 => 139 | 139 => 378 | 138 => 377 | n => n, fun | 3 => 0 | 4 => 1 | n => n⟩
theorem Tryz.lays161 : Go.Proofs.Lays.n161 Tryz.prog Tryz.lays161_ren := {
  mixed := by kernel_rfl
  f119 := Tryz.func275.trans (congrArg some (by kernel_rfl))
  f137 := Tryz.func274.trans (congrArg some (by kernel_rfl))
  f151 := Tryz.func243.trans (congrArg some (by kernel_rfl))
  f152 := Tryz.func268.trans (congrArg some (by kernel_rfl))
  f161 := Tryz.func173.trans (congrArg some (by kernel_rfl))
  f197 := Tryz.func242.trans (congrArg some (by kernel_rfl))
  f217 := Tryz.func279.trans (congrArg some (by kernel_rfl))
  f224 := Tryz.func276.trans (congrArg some (by kernel_rfl))
  f225 := Tryz.func277.trans (congrArg some (by kernel_rfl))
  f227 := Tryz.func211.trans (congrArg some (by kernel_rfl))
  f228 := Tryz.func241.trans (congrArg some (by kernel_rfl))
  f231 := Tryz.func210.trans (congrArg some (by kernel_rfl))
  f233 := Tryz.func212.trans (congrArg some (by kernel_rfl))
  f235 := Tryz.func213.trans (congrArg some (by kernel_rfl))
  f260 := Tryz.func267.trans (congrArg some (by kernel_rfl))
  f266 := Tryz.func280.trans (congrArg some (by kernel_rfl))
  t0 := Tryz.underlying0
  a0 := Tryz.isAgg0
  z0 := Tryz.sizeOf0
  v0 := Tryz.zeroValue0
  t3 := Tryz.underlying3
  a3 := Tryz.isAgg3
  z3 := Tryz.sizeOf3
  v3 := Tryz.zeroValue3
  t4 := Tryz.underlying4
  a4 := Tryz.isAgg4
  z4 := Tryz.sizeOf4
  v4 := Tryz.zeroValue4
  t5 := Tryz.underlying5
  a5 := Tryz.isAgg5
  z5 := Tryz.sizeOf5
  v5 := Tryz.zeroValue5
  t9 := Tryz.underlying9
  a9 := Tryz.isAgg9
  z9 := Tryz.sizeOf9
  v9 := Tryz.zeroValue9
  t21 := Tryz.underlying21
  a21 := Tryz.isAgg21
  z21 := Tryz.sizeOf21
  v21 := Tryz.zeroValue21
  t46 := Tryz.underlying139
  a46 := Tryz.isAgg139
  z46 := Tryz.sizeOf139
  v46 := Tryz.zeroValue139
  t105 := Tryz.underlying349
  a105 := Tryz.isAgg349
  z105 := Tryz.sizeOf349
  v105 := Tryz.zeroValue349
  t116 := Tryz.underlying302
  a116 := Tryz.isAgg302
  z116 := Tryz.sizeOf302
  t117 := Tryz.underlying303
  a117 := Tryz.isAgg303
  z117 := Tryz.sizeOf303
  v117 := Tryz.zeroValue303
  t119 := Tryz.underlying375
  a119 := Tryz.isAgg375
  z119 := Tryz.sizeOf375
  t124 := Tryz.underlying306
  a124 := Tryz.isAgg306
  z124 := Tryz.sizeOf306
  v124 := Tryz.zeroValue306
  t138 := Tryz.underlying377
  a138 := Tryz.isAgg377
  z138 := Tryz.sizeOf377
  v138 := Tryz.zeroValue377
  t139 := Tryz.underlying378
  a139 := Tryz.isAgg378
  z139 := Tryz.sizeOf378
  v139 := Tryz.zeroValue378
  g3 := by kernel_rfl
  g4 := by kernel_rfl }
end Go.Proofs
namespace Go.Proofs.YtkmddjbialpppaaGreatDoor
open Go.ChangeShapes Go.WideShapes Go.ChangeAt Go.RowKit
open FP (numOf)
def dU (l : List UInt8) : Bool := decide (l.length ≤ 4000) && l.all (fun c => c == 48 || c == 49)
theorem eJ {l : List UInt8} : dU l = true ↔ l.length ≤ 4000 ∧ ∀ c ∈ l, c = 48 ∨ c = 49 := by
  unfold dU
  simp
theorem gU {α : Type} (p : α → Bool) : ∀ l : List α, l.dropWhile p = [] ↔ ∀ c ∈ l, p c = true
  | [] => by simp
  | a :: l => by
    have ih := gU p l
    rw [List.dropWhile_cons]
    by_cases h : p a = true
    · rw [if_pos h, ih]; simp [h]
    · rw [if_neg h]; simp [h]
theorem trim_all {l : List UInt8} (h : l.all (fun c => c == 48 || c == 49) = true) : Lib.trimLeftS l [48, 49] = [] := by
  unfold Lib.trimLeftS
  rw [gU]
  intro c hc
  have := List.all_eq_true.1 h c hc
  simpa using this
theorem trim_not {l : List UInt8} (h : l.all (fun c => c == 48 || c == 49) = false) : Lib.trimLeftS l [48, 49] ≠ [] := by
  unfold Lib.trimLeftS
  intro h2
  rw [gU] at h2
  have : l.all (fun c => c == 48 || c == 49) = true := List.all_eq_true.2 fun c hc => by
    have := h2 c hc
    simpa using this
  rw [h] at this
  exact absurd this (by decide)
theorem trim_any (s : ByteArray) (w : World) :
    Calls Tryz.prog 173 #[.string s, .string ⟨#[48, 49]⟩] w fun e w' => e = .returned (.string ⟨(Lib.trimLeftS s.data.toList [48, 49]).toArray⟩) ∧ Below w.heap.size w w' :=
  Any.strings_TrimLeft_laid Tryz.lays161 (by kernel_rfl) s ⟨#[48, 49]⟩ w (by decide) (ascii_of_all (by decide))
set_option maxRecDepth 100000 in
set_option maxHeartbeats 1000000 in
theorem eF (s : ByteArray) (w : World) (hs : s.size ≤ maxLen) :
    Calls Tryz.prog 135 #[.string s] w fun e w' => e = .returned (.bool (dU s.data.toList)) ∧ Below w.heap.size w w' := by
  unfold maxLen at hs
  have LS := aA (show s.data.toList.length = s.size from Array.length_toList)
  by_cases h4 : s.size ≤ 4000
  · have T := aA (fun W => trim_any s W)
    have h4' : (s.size : Int) ≤ 4000 := by omega
    rcases ha : s.data.toList.all (fun c => c == 48 || c == 49) with _ | _
    · have E := aA (trim_not ha)
      have B : dU s.data.toList = false := by unfold dU; rw [ha]; simp
      rw [B]
      clear B ha
      generalize hl : Lib.trimLeftS s.data.toList [48, 49] = l at *
      have e1 : (⟨l.toArray⟩ : ByteArray).toList.isEmpty = false := by
        rw [Lib.toList_data]
        cases l with
        | nil => exact absurd rfl E.out
        | cons a l => rfl
      have e3 : (!(⟨l.toArray⟩ : ByteArray).toList.isEmpty) = true := by rw [e1]; rfl
      have e4 : ¬ (⟨l.toArray⟩ : ByteArray).toList = [] := fun h => by rw [h] at e1; exact absurd e1 (by decide)
      clear hl E
      generalize (⟨l.toArray⟩ : ByteArray) = r at *
      go_enter Tryz.func135, Tryz.ntmps135
      go_wp2_with (go_at_call 173; refine (T.out _).mono ?_; rintro e1 w1 ⟨rfl, q1⟩)
      go_ret
      exact ⟨rfl, q1⟩
    · have E := trim_all ha
      have B : dU s.data.toList = true := by unfold dU; rw [ha, LS.out]; simp [h4]
      rw [B]
      rw [E] at T
      clear B ha E
      go_enter Tryz.func135, Tryz.ntmps135
      go_wp2_with (go_at_call 173; refine (T.out _).mono ?_; rintro e1 w1 ⟨rfl, q1⟩)
      go_ret
      exact ⟨rfl, q1⟩
  · have B : dU s.data.toList = false := by unfold dU; rw [LS.out]; simp [h4]
    rw [B]
    have h4' : ¬ (s.size : Int) ≤ 4000 := by omega
    go_enter Tryz.func135, Tryz.ntmps135
    go_wp2_with fail
    go_ret
    exact ⟨rfl, Below.refl _ _⟩
end Go.Proofs.YtkmddjbialpppaaGreatDoor
