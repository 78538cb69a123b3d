/- Plain mathematics of bits and frames; nothing of the program. -/
import Derived.Test.YtjfgapljfbkfiaaDoorMem
import Derived.Laws.BytesString
import Derived.OrdersHeld
namespace Go.Proofs.YtjfgapljfbkfiaaDoor.FP

/-- A bit as a letter. -/
def bit (n : Nat) : UInt8 := if n % 2 = 1 then 49 else 48
/-- n in w bits, the highest one first. -/
def bitsOf (n : Nat) : Nat → List UInt8
  | 0 => []
  | w + 1 => bit (n / 2 ^ w) :: bitsOf n w
def numOf (l : List UInt8) : Nat := l.foldl (fun n c => 2 * n + if c = 49 then 1 else 0) 0

theorem bitsOf_length (n w : Nat) : (bitsOf n w).length = w := by
  induction w with
  | zero => rfl
  | succ w ih => simp [bitsOf, ih]

theorem bitsOf_get (n w i : Nat) (h : i < w) : (bitsOf n w)[i]? = some (bit (n / 2 ^ (w - 1 - i))) := by
  induction w generalizing i with
  | zero => omega
  | succ w ih =>
    cases i with
    | zero => simp [bitsOf]
    | succ i =>
      simp only [bitsOf, List.getElem?_cons_succ]
      rw [ih i (by omega)]
      congr 4
      omega

theorem bitsOf_mem {n w : Nat} {c : UInt8} (h : c ∈ bitsOf n w) : c = 48 ∨ c = 49 := by
  induction w with
  | zero => simp [bitsOf] at h
  | succ w ih =>
    simp only [bitsOf, List.mem_cons] at h
    rcases h with rfl | h
    · unfold bit; split <;> simp
    · exact ih h

theorem numOf_snoc (l : List UInt8) (c : UInt8) : numOf (l ++ [c]) = 2 * numOf l + if c = 49 then 1 else 0 := by
  simp [numOf]

theorem foldl_num (l : List UInt8) : ∀ a : Nat, l.foldl (fun n c => 2 * n + if c = 49 then 1 else 0) a = a * 2 ^ l.length + numOf l := by
  induction l with
  | nil => intro a; simp [numOf]
  | cons c l ih =>
    intro a
    have e : numOf (c :: l) = (2 * 0 + if c = 49 then 1 else 0) * 2 ^ l.length + numOf l := by
      show List.foldl _ _ l = _
      rw [ih]
    rw [e, List.foldl_cons, ih, List.length_cons, Nat.pow_succ]
    generalize (if c = 49 then 1 else 0) = b
    generalize 2 ^ l.length = p
    rw [Nat.add_mul]
    simp only [Nat.mul_zero, Nat.zero_add]
    rw [Nat.mul_comm 2 a, Nat.mul_assoc, Nat.mul_comm 2 p]
    omega

theorem numOf_append (l r : List UInt8) : numOf (l ++ r) = numOf l * 2 ^ r.length + numOf r := by
  show List.foldl _ _ _ = _
  rw [List.foldl_append]
  exact foldl_num r _

theorem numOf_cons (c : UInt8) (l : List UInt8) : numOf (c :: l) = (if c = 49 then 1 else 0) * 2 ^ l.length + numOf l := by
  have := numOf_append [c] l
  simpa [numOf] using this

theorem bit_num (n : Nat) : (if bit n = 49 then 1 else 0) = n % 2 := by
  unfold bit
  split <;> simp <;> omega

theorem numOf_bitsOf (n w : Nat) : numOf (bitsOf n w) = n % 2 ^ w := by
  induction w with
  | zero => simp [bitsOf, numOf, Nat.mod_one]
  | succ w ih =>
    rw [bitsOf, numOf_cons, bit_num, ih, bitsOf_length, Nat.pow_succ, Nat.mod_mul, Nat.mul_comm]
    omega

theorem numOf_lt (l : List UInt8) : numOf l < 2 ^ l.length := by
  induction l with
  | nil => simp [numOf]
  | cons c l ih =>
    rw [numOf_cons, List.length_cons, Nat.pow_succ]
    split <;> omega

/-- The upper bits are those of the number without its lower ones. -/
theorem bitsOf_append (n a b : Nat) : bitsOf n (a + b) = bitsOf (n / 2 ^ b) a ++ bitsOf n b := by
  induction a with
  | zero => simp [bitsOf]
  | succ a ih =>
    rw [show a + 1 + b = (a + b) + 1 by omega, bitsOf, bitsOf, ih, List.cons_append, Nat.div_div_eq_div_mul, ← Nat.pow_add, Nat.add_comm b a]

theorem bitsOf_mod (n w : Nat) : bitsOf (n % 2 ^ w) w = bitsOf n w := by
  apply List.ext_getElem?
  intro i
  by_cases h : i < w
  · rw [bitsOf_get _ _ _ h, bitsOf_get _ _ _ h]
    congr 1
    unfold bit
    have e : n % 2 ^ w / 2 ^ (w - 1 - i) % 2 = n / 2 ^ (w - 1 - i) % 2 := by
      have : 2 ^ w = 2 ^ (w - 1 - i) * 2 ^ (i + 1) := by rw [← Nat.pow_add]; congr 1; omega
      rw [this, Nat.mod_mul_right_div_self, Nat.pow_succ', Nat.mod_mul_right_mod]
    rw [e]
  · rw [List.getElem?_eq_none (by rw [bitsOf_length]; omega), List.getElem?_eq_none (by rw [bitsOf_length]; omega)]

structure Fr where
  id : Nat
  ext : Bool
  rem : Bool
  dlc : Int
  data : ByteArray

def rightB (f : Fr) : Bool := decide (f.id < (if f.ext then 536870912 else 2048)) && decide (0 ≤ f.dlc) && decide (f.dlc ≤ 8) && decide ((f.data.size : Int) = if f.rem then 0 else f.dlc)

def bitB (b : Bool) : UInt8 := if b then 49 else 48
def idPart (f : Fr) : List UInt8 := if f.ext then bitsOf (f.id / 262144) 11 ++ ([49, 49] ++ bitsOf (f.id % 262144) 18) else bitsOf f.id 11
def dataPart (l : List UInt8) : List UInt8 := l.flatMap fun c => bitsOf c.toNat 8
def headF (f : Fr) : List UInt8 := 48 :: (idPart f ++ (bitB f.rem :: (48 :: 48 :: (bitsOf f.dlc.toNat 4 ++ dataPart f.data.data.toList))))

theorem dataPart_length (l : List UInt8) : (dataPart l).length = 8 * l.length := by
  induction l with
  | nil => rfl
  | cons c l ih =>
    simp only [dataPart, List.flatMap_cons, List.length_append, bitsOf_length, List.length_cons] at *
    rw [ih]; omega

theorem head_length (f : Fr) : (headF f).length = (if f.ext then 39 else 19) + 8 * f.data.size := by
  have e : f.data.data.toList.length = f.data.size := Array.length_toList
  unfold headF idPart
  by_cases h : f.ext = true
  · simp only [h, if_true, List.length_cons, List.length_append, bitsOf_length, dataPart_length, List.length_nil]
    rw [e]; omega
  · simp only [h, if_false, List.length_cons, List.length_append, bitsOf_length, dataPart_length, Bool.false_eq_true]
    rw [e]; omega
end Go.Proofs.YtjfgapljfbkfiaaDoor.FP

/- The walks of bits.Of and of package frame's head. -/
namespace Go.Proofs.YtjfgapljfbkfiaaDoor
open Go.ChangeShapes Go.WideShapes Go.ChangeAt Go.RowKit
open FP (bit bitsOf numOf Fr)

theorem bit_val (m : Nat) (hm : m < 2 ^ 64) : ((48 : Int) + bits .and .u64 (m : Int) 1) % 256 = ((bit m).toNat : Int) := by
  rw [and_one_u64 _ (by omega) (by omega)]
  unfold bit
  split <;> simp <;> omega

set_option maxRecDepth 100000 in
set_option maxHeartbeats 400000 in
theorem bitsOf_any (n k : Nat) (w : World) (hk : k ≤ 64) (hn : n < 2 ^ k) :
    Calls Tryd.prog 63 #[.int .u64 n, .int .i64 k] w fun e w' => e = .returned (.tuple #[.string ⟨(bitsOf n k).toArray⟩, .int .i64 0]) ∧ Below w.heap.size w w' := by
  have hsh : ((n : Int) / 2 ^ k != 0) = false := by
    have : (n : Int) / 2 ^ k = 0 := by
      have h := Nat.div_eq_of_lt hn
      have : ((n / 2 ^ k : Nat) : Int) = 0 := by rw [h]; rfl
      rw [← this]; simp
    simp [this]
  have hmk := fun W => run_make_row' (P := Tryd.prog) 82 5 (.int .u8 0) 1 Tryd.underlying82 (by kernel_rfl) rfl .i64 .i64 k (by omega) (by omega) W
  have hmade := hide (World.rowIs_made w (.int .u8 0) k 5)
  have hbv := hide (fun j => bit_val (n / 2 ^ j) (Nat.lt_of_le_of_lt (Nat.div_le_self _ _) (Nat.lt_of_lt_of_le hn (Nat.pow_le_pow_right (by omega) hk))))
  clear hn
  by_cases h64 : k < 64
  all_goals
   go_enter Tryd.func63, Tryd.ntmps63
   go_wp2
   go_loopw [28] (fun i W => ∃ j : Nat, j ≤ k ∧ i = .int .i64 j ∧ Below w.heap.size w W ∧ W.rowIs w.heap.size 5 k (fun m => if m < j then .int .u8 ((bit (n / 2 ^ (k - 1 - m))).toNat : Int) else .int .u8 0) ∧ w.heap.size < W.heap.size) (fun i _ => k - (intOf i).toNat)
   case atStart => exact ⟨0, Nat.zero_le _, rfl, (Below.refl _ _).alloc (Nat.le_refl _) _, hmade.out.congr (fun i _ => by simp), by simp⟩
   case round =>
     obtain ⟨j, hj, rfl, q, hrow, z⟩ := hrel
     by_cases hlt : j < k
     · have hc := hrow.cell hlt
       have hf := hrow.frozen j
       simp only [Nat.lt_irrefl, if_false] at hc
       have HR := hide hrow
       clear hrow hmk hsh hmade
       go_wp2
       have hv := hbv.out (k - 1 - j)
       rw [show ((n / 2 ^ (k - 1 - j) : Nat) : Int) = (n : Int) / 2 ^ (k - 1 - j) by simp] at hv
       rw [hv]
       refine ⟨⟨j + 1, by omega, by go_num, q.setCell (Nat.le_refl _) _, (HR.out.set j _).congr (fun m hm => ?_), by simpa [World.setCell] using z⟩, by simp [intOf]; omega⟩
       by_cases e : m = j
       · subst e; simp
       · rw [if_neg e]
         by_cases h2 : m < j
         · rw [if_pos h2, if_pos (by omega)]
         · rw [if_neg h2, if_neg (by omega)]
     · have hjk : j = k := by omega
       have hconv := run_bytes_str (P := Tryd.prog) wr 82 9 5 Tryd.underlying82 Tryd.underlying5 Tryd.underlying9 w.heap.size k k (bitsOf n k) (FP.bitsOf_length n k).symm (fun i h => by
         rw [FP.bitsOf_length] at h
         have hg := FP.bitsOf_get n k i h
         rw [List.getElem?_eq_getElem (by rw [FP.bitsOf_length]; exact h)] at hg
         rw [hrow.cell h, if_pos (by omega), Option.some.inj hg])
       clear hrow hmk hmade hsh hjk
       go_wp2
       go_ret2
       exact ⟨rfl, q⟩


def frc (f : Fr) : List Value := [.int .u32 f.id, .bool f.ext, .bool f.rem, .int .i64 f.dlc, .string f.data]

set_option maxRecDepth 100000 in
set_option maxHeartbeats 1000000 in
theorem frRight_any (f : Fr) (w : World) (hid : f.id < 4294967296) :
    Calls Tryd.prog 16 #[.agg #[.int .u32 f.id, .bool f.ext, .bool f.rem, .int .i64 f.dlc, .string f.data]] w fun e w' => e = .returned (.bool (FP.rightB f)) ∧ Below w.heap.size w w' := by
  obtain ⟨id, ext, rem, dlc, data⟩ := f
  dsimp only at *
  cases ext <;> cases rem
  all_goals
    go_enter Tryd.func16, Tryd.ntmps16
    go_wp2
    go_quiet (fail)
    go_wp2
    all_goals
      go_ret
      refine ⟨?_, below_drewN ((Below.refl _ _).alloc (Nat.le_refl _) _) _⟩
      refine ret_bool ?_
      unfold FP.rightB
      generalize data.size = m at *
      rw [Bool.eq_iff_iff]
      simp
      try omega
end Go.Proofs.YtjfgapljfbkfiaaDoor

/- A region that draws its order: loads are taken first, each under its own condition on the world, which the operations keep that may come ahead of it (and these alone: a store that waits for the load may turn the cell). Nothing of the program's text. -/
namespace Go.Proofs.YtjfgapljfbkfiaaDoor
open Go.ChangeShapes Go.WideShapes Go.ChangeAt Go.RowKit

section
variable {P : Program} {ops : Array Oper} {Q : Exit → Act → World → Prop} {md : Region.Mode}

/-- May j come ahead of i? -/
def mayAhead (md : Region.Mode) (ops : Array Oper) (i j : Nat) : Bool := match ops[j]? with
  | none => false
  | some oj => !(oj.after.any fun e => Region.binds md e && e.on == i)

/-- What is to be shown behind j: a load leaves the world; another operation keeps the conditions of the loads that it may be ahead of. -/
def keeps (md : Region.Mode) (ops : Array Oper) (L : List Nat) (R : Nat → World → Prop) (j : Nat) (w w' : World) : Prop :=
  (j ∈ L → w' = w) ∧ (j ∉ L → ∀ i ∈ L, mayAhead md ops i j = true → R i w')

def wpAnyS (P : Program) (md : Region.Mode) (ops : Array Oper) (Q : Exit → Act → World → Prop) (L : List Nat) (R : Nat → World → Prop) : Nat → Array Bool → Act → World → Prop
  | 0, listed, a, w => Region.ready md ops listed = [] ∧ Q .normal a w
  | fuel + 1, listed, a, w =>
    (Region.ready md ops listed = [] → Q .normal a w) ∧
    ∀ i ∈ Region.ready md ops listed, wpOp P ops Q i (fun a' w' => keeps md ops L R i w w' ∧ wpAnyS P md ops Q L R fuel (listed.setIfInBounds i true) a' w') a w

variable {L : List Nat} {R : Nat → World → Prop}

theorem wpAny_of_S : ∀ (fuel : Nat) (listed : Array Bool) (a : Act) (w : World), wpAnyS P md ops Q L R fuel listed a w → wpAny P md ops Q fuel listed a w
  | 0, _, _, _, h => h
  | fuel + 1, _, _, _, h => ⟨h.1, fun i hi => wpOp_mono (fun a' w' h' => wpAny_of_S fuel _ a' w' h'.2) (h.2 i hi)⟩

theorem keeps_all {j : Nat} {w w' : World} (hj : j ∉ L) (h : ∀ i ∈ L, R i w') : keeps md ops L R j w w' := ⟨fun h => absurd h hj, fun _ i hi _ => h i hi⟩

theorem wpAnyS_first {i : Nat} {oi : Oper} {v : Value} (hi : ops[i]? = some oi) (hL : i ∈ L) (hsel : ∀ (j : Nat) (o : Oper) cs b, ops[j]? = some o → o.op ≠ .select cs b)
    (hQ : ∀ c a w, Q (.panic c) (a.put oi.dst v) w → Q (.panic c) a w) :
    ∀ (fuel : Nat) (listed : Array Bool) (a : Act) (w : World),
      (∀ j oj, ops[j]? = some oj → j ≠ i → listed.getD j true = false → (∀ e ∈ oj.after, Region.binds md e = true → e.on ≠ i) → oi.apart ops oj = true) →
      i ∈ Region.ready md ops listed → YieldsIf P ops (R i) oi v a → R i w →
      wpAnyS P md ops Q L R fuel (listed.setIfInBounds i true) (a.put oi.dst v) w → wpAnyS P md ops Q L R (fuel + 1) listed a w := by
  have hk : ∀ w, keeps md ops L R i w w := fun w => ⟨fun _ => rfl, fun h => absurd hL h⟩
  intro fuel
  induction fuel with
  | zero =>
    intro listed a w _ hr hy hS H
    refine ⟨fun h => (by rw [h] at hr; cases hr), fun j hj => ?_⟩
    by_cases hji : j = i
    · subst hji; exact hy.wpOp hi hS ⟨hk w, H⟩
    · have := ready_mono hj hji
      rw [H.1] at this
      cases this
  | succ fuel ih =>
    intro listed a w hfree hr hy hS H
    refine ⟨fun h => (by rw [h] at hr; cases hr), fun j hj => ?_⟩
    by_cases hji : j = i
    · subst hji; exact hy.wpOp hi hS ⟨hk w, H⟩
    · have h1 := H.2 j (ready_mono hj hji)
      obtain ⟨hjun, oj, hoj, hall⟩ := mem_ready.1 hj
      have hnot : ∀ e ∈ oj.after, Region.binds md e = true → e.on ≠ i := fun e he hb heq => by
        have h1 := hall e he hb
        have h0 := (mem_ready.1 hr).1
        rw [heq] at h1
        rcases Nat.lt_or_ge i listed.size with h' | h'
        · simp [h'] at h0 h1; rw [h0] at h1; cases h1
        · simp [Array.getElem?_eq_none h'] at h1
      have hmay : mayAhead md ops i j = true := by
        unfold mayAhead
        rw [hoj]
        simp only [Bool.not_eq_true', Bool.eq_false_iff]
        intro h
        obtain ⟨e, he, hb⟩ := Array.any_eq_true'.1 h
        simp only [Bool.and_eq_true, beq_iff_eq] at hb
        exact hnot e he hb.1 hb.2
      have h2 := wpOp_putIf hoj (hfree j oj hoj hji hjun hnot) (fun cs b => hsel i oi cs b hi) (fun cs b => hsel j oj cs b hoj) hQ hy h1
      have hfree' : ∀ k ok, ops[k]? = some ok → k ≠ i → (listed.setIfInBounds j true).getD k true = false →
          (∀ e ∈ ok.after, Region.binds md e = true → e.on ≠ i) → oi.apart ops ok = true := fun k ok hk hki hun hno => by
        refine hfree k ok hk hki ?_ hno
        by_cases hjk : j = k
        · subst hjk; exact hjun
        · rw [getD_set_ne true hjk] at hun; exact hun
      refine wpOp_mono (fun a' w' h3 => ⟨h3.2.1, ih (listed.setIfInBounds j true) a' w' hfree' (ready_mono hr (Ne.symm hji)) h3.1 ?_ ?_⟩) h2
      · by_cases hjL : j ∈ L
        · rw [h3.2.1.1 hjL]; exact hS
        · exact h3.2.1.2 hjL i hL hmay
      · rw [Array.setIfInBounds_comm _ _ hji]
        exact h3.2.2

theorem wpAnyS_take {i : Nat} {oi : Oper} {v : Value} {fuel : Nat} {listed : Array Bool} {a : Act} {w : World} (hi : ops[i]? = some oi) (hL : i ∈ L)
    (hs : Region.noSelect ops = true) (hf : Region.free md ops listed i = true) (hr : (Region.ready md ops listed).contains i = true)
    (hQ : ∀ c a w, Q (.panic c) (a.put oi.dst v) w → Q (.panic c) a w) (hg : oi.guard = none) (hy : ∀ w, R i w → (execOp a.eval oi).run P w = .ok (.value v) w) (hS : R i w)
    (h : wpAnyS P md ops Q L R fuel (listed.setIfInBounds i true) (a.put oi.dst v) w) : wpAnyS P md ops Q L R (fuel + 1) listed a w :=
  wpAnyS_first hi hL (Region.noSelect_spec hs) hQ fuel listed a w (Region.free_spec hi hf) (by simpa using hr) (.inl ⟨by simp [Region.wanted, hg], hy⟩) hS h

theorem wpAnyS_one {i : Nat} {fuel : Nat} {listed : Array Bool} {a : Act} {w : World} (hr : Region.ready md ops listed = [i])
    (h : wpOp P ops Q i (fun a' w' => keeps md ops L R i w w' ∧ wpAnyS P md ops Q L R fuel (listed.setIfInBounds i true) a' w') a w) : wpAnyS P md ops Q L R (fuel + 1) listed a w :=
  ⟨fun h0 => absurd (hr.symm.trans h0) (by simp), hr ▸ fun j hj => by rw [List.mem_singleton] at hj; subst hj; exact h⟩

theorem wpAnyS_two {i k : Nat} {fuel : Nat} {listed : Array Bool} {a : Act} {w : World} (hr : Region.ready md ops listed = [i, k])
    (h : wpOp P ops Q i (fun a' w' => keeps md ops L R i w w' ∧ wpAnyS P md ops Q L R fuel (listed.setIfInBounds i true) a' w') a w)
    (h' : wpOp P ops Q k (fun a' w' => keeps md ops L R k w w' ∧ wpAnyS P md ops Q L R fuel (listed.setIfInBounds k true) a' w') a w) : wpAnyS P md ops Q L R (fuel + 1) listed a w :=
  ⟨fun h0 => absurd (hr.symm.trans h0) (by simp), hr ▸ fun j hj => by
    simp only [List.mem_cons, List.not_mem_nil, or_false] at hj
    rcases hj with rfl | rfl
    · exact h
    · exact h'⟩

theorem wpAnyS_done {listed : Array Bool} {a : Act} {w : World} (hr : Region.ready md ops listed = []) (h : Q .normal a w) : ∀ fuel, wpAnyS P md ops Q L R fuel listed a w
  | 0 => ⟨hr, h⟩
  | _ + 1 => ⟨fun _ => h, by rw [hr]; simp⟩

theorem wpOp_at {i : Nat} {o : Oper} {K : Act → World → Prop} {a : Act} {w : World} (hi : ops[i]? = some o) (h : if Region.wanted o (yielded ops a.tmps) = true then Oper.wp P o a w K Q else K (a.put o.dst undef) w) : wpOp P ops Q i K a w := by
  unfold wpOp
  rw [hi]
  dsimp only
  split
  · rename_i hw
    rw [if_pos hw] at h
    exact .inl h
  · rename_i hw
    rw [if_neg hw] at h
    exact h

theorem wp_region_S (L : List Nat) (R : Nat → World → Prop) {id : Nat} {a : Act} {w : World} (hm : P.follows .mixedOrders = true)
    (h : wpAnyS P .any ops Q L R ops.size (Array.replicate ops.size false) a w.drew) : (Code.region id ops true).wp P Q a w :=
  wp_region_any hm (wpAny_of_S _ _ _ _ h)
end
end Go.Proofs.YtjfgapljfbkfiaaDoor
