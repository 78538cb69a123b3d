/- Plain mathematics of bits and frames; nothing of the program. -/
import Derived.Test.YthkilodnghiocaaGreatDoorMgMem
import Derived.Laws.BytesString
import Derived.Test.YthkilodnghiocaaGreatDoorOrdL
namespace Go.Proofs.YthkilodnghiocaaGreatDoor.FP

/-- A bit as a letter. -/
def bit (n : Nat) : UInt8 := if n % 2 = 1 then 49 else 48
/-- n in w bits, the highest one first. -/
def bitsOf (n : Nat) : Nat → List UInt8
  | 0 => []
  | w + 1 => bit (n / 2 ^ w) :: bitsOf n w
def numOf (l : List UInt8) : Nat := l.foldl (fun n c => 2 * n + if c = 49 then 1 else 0) 0

theorem bitsOf_length (n w : Nat) : (bitsOf n w).length = w := by
  induction w with
  | zero => rfl
  | succ w ih => simp [bitsOf, ih]

theorem bitsOf_get (n w i : Nat) (h : i < w) : (bitsOf n w)[i]? = some (bit (n / 2 ^ (w - 1 - i))) := by
  induction w generalizing i with
  | zero => omega
  | succ w ih =>
    cases i with
    | zero => simp [bitsOf]
    | succ i =>
      simp only [bitsOf, List.getElem?_cons_succ]
      rw [ih i (by omega)]
      congr 4
      omega

theorem bitsOf_mem {n w : Nat} {c : UInt8} (h : c ∈ bitsOf n w) : c = 48 ∨ c = 49 := by
  induction w with
  | zero => simp [bitsOf] at h
  | succ w ih =>
    simp only [bitsOf, List.mem_cons] at h
    rcases h with rfl | h
    · unfold bit; split <;> simp
    · exact ih h

theorem numOf_snoc (l : List UInt8) (c : UInt8) : numOf (l ++ [c]) = 2 * numOf l + if c = 49 then 1 else 0 := by
  simp [numOf]

theorem foldl_num (l : List UInt8) : ∀ a : Nat, l.foldl (fun n c => 2 * n + if c = 49 then 1 else 0) a = a * 2 ^ l.length + numOf l := by
  induction l with
  | nil => intro a; simp [numOf]
  | cons c l ih =>
    intro a
    have e : numOf (c :: l) = (2 * 0 + if c = 49 then 1 else 0) * 2 ^ l.length + numOf l := by
      show List.foldl _ _ l = _
      rw [ih]
    rw [e, List.foldl_cons, ih, List.length_cons, Nat.pow_succ]
    generalize (if c = 49 then 1 else 0) = b
    generalize 2 ^ l.length = p
    rw [Nat.add_mul]
    simp only [Nat.mul_zero, Nat.zero_add]
    rw [Nat.mul_comm 2 a, Nat.mul_assoc, Nat.mul_comm 2 p]
    omega

theorem numOf_append (l r : List UInt8) : numOf (l ++ r) = numOf l * 2 ^ r.length + numOf r := by
  show List.foldl _ _ _ = _
  rw [List.foldl_append]
  exact foldl_num r _

theorem numOf_cons (c : UInt8) (l : List UInt8) : numOf (c :: l) = (if c = 49 then 1 else 0) * 2 ^ l.length + numOf l := by
  have := numOf_append [c] l
  simpa [numOf] using this

theorem bit_num (n : Nat) : (if bit n = 49 then 1 else 0) = n % 2 := by
  unfold bit
  split <;> simp <;> omega

theorem numOf_bitsOf (n w : Nat) : numOf (bitsOf n w) = n % 2 ^ w := by
  induction w with
  | zero => simp [bitsOf, numOf, Nat.mod_one]
  | succ w ih =>
    rw [bitsOf, numOf_cons, bit_num, ih, bitsOf_length, Nat.pow_succ, Nat.mod_mul, Nat.mul_comm]
    omega

theorem numOf_lt (l : List UInt8) : numOf l < 2 ^ l.length := by
  induction l with
  | nil => simp [numOf]
  | cons c l ih =>
    rw [numOf_cons, List.length_cons, Nat.pow_succ]
    split <;> omega

/-- The upper bits are those of the number without its lower ones. -/
theorem bitsOf_append (n a b : Nat) : bitsOf n (a + b) = bitsOf (n / 2 ^ b) a ++ bitsOf n b := by
  induction a with
  | zero => simp [bitsOf]
  | succ a ih =>
    rw [show a + 1 + b = (a + b) + 1 by omega, bitsOf, bitsOf, ih, List.cons_append, Nat.div_div_eq_div_mul, ← Nat.pow_add, Nat.add_comm b a]

theorem bitsOf_mod (n w : Nat) : bitsOf (n % 2 ^ w) w = bitsOf n w := by
  apply List.ext_getElem?
  intro i
  by_cases h : i < w
  · rw [bitsOf_get _ _ _ h, bitsOf_get _ _ _ h]
    congr 1
    unfold bit
    have e : n % 2 ^ w / 2 ^ (w - 1 - i) % 2 = n / 2 ^ (w - 1 - i) % 2 := by
      have : 2 ^ w = 2 ^ (w - 1 - i) * 2 ^ (i + 1) := by rw [← Nat.pow_add]; congr 1; omega
      rw [this, Nat.mod_mul_right_div_self, Nat.pow_succ', Nat.mod_mul_right_mod]
    rw [e]
  · rw [List.getElem?_eq_none (by rw [bitsOf_length]; omega), List.getElem?_eq_none (by rw [bitsOf_length]; omega)]

structure Fr where
  id : Nat
  ext : Bool
  rem : Bool
  dlc : Int
  data : ByteArray

def rightB (f : Fr) : Bool := decide (f.id < (if f.ext then 536870912 else 2048)) && decide (0 ≤ f.dlc) && decide (f.dlc ≤ 8) && decide ((f.data.size : Int) = if f.rem then 0 else f.dlc)

def bitB (b : Bool) : UInt8 := if b then 49 else 48
def idPart (f : Fr) : List UInt8 := if f.ext then bitsOf (f.id / 262144) 11 ++ ([49, 49] ++ bitsOf (f.id % 262144) 18) else bitsOf f.id 11
def dataPart (l : List UInt8) : List UInt8 := l.flatMap fun c => bitsOf c.toNat 8
def headF (f : Fr) : List UInt8 := 48 :: (idPart f ++ (bitB f.rem :: (48 :: 48 :: (bitsOf f.dlc.toNat 4 ++ dataPart f.data.data.toList))))

theorem dataPart_length (l : List UInt8) : (dataPart l).length = 8 * l.length := by
  induction l with
  | nil => rfl
  | cons c l ih =>
    simp only [dataPart, List.flatMap_cons, List.length_append, bitsOf_length, List.length_cons] at *
    rw [ih]; omega

theorem head_length (f : Fr) : (headF f).length = (if f.ext then 39 else 19) + 8 * f.data.size := by
  have e : f.data.data.toList.length = f.data.size := Array.length_toList
  unfold headF idPart
  by_cases h : f.ext = true
  · simp only [h, if_true, List.length_cons, List.length_append, bitsOf_length, dataPart_length, List.length_nil]
    rw [e]; omega
  · simp only [h, if_false, List.length_cons, List.length_append, bitsOf_length, dataPart_length, Bool.false_eq_true]
    rw [e]; omega
end Go.Proofs.YthkilodnghiocaaGreatDoor.FP

/- The walks of bits.Of and of package frame's head. -/
namespace Go.Proofs.YthkilodnghiocaaGreatDoor
open Go.ChangeShapes Go.WideShapes Go.ChangeAt Go.RowKit
open FP (bit bitsOf numOf Fr)

theorem bit_val (m : Nat) (hm : m < 2 ^ 64) : ((48 : Int) + bits .and .u64 (m : Int) 1) % 256 = ((bit m).toNat : Int) := by
  rw [and_one_u64 _ (by omega) (by omega)]
  unfold bit
  split <;> simp <;> omega

set_option maxRecDepth 100000 in
set_option maxHeartbeats 400000 in
theorem bitsOf_any (n k : Nat) (w : World) (hk : k ≤ 64) (hn : n < 2 ^ k) :
    Calls Tryz.prog 57 #[.int .u64 n, .int .i64 k] w fun e w' => e = .returned (.tuple #[.string ⟨(bitsOf n k).toArray⟩, .int .i64 0]) ∧ Below w.heap.size w w' := by
  have hsh : ((n : Int) / 2 ^ k != 0) = false := by
    have : (n : Int) / 2 ^ k = 0 := by
      have h := Nat.div_eq_of_lt hn
      have : ((n / 2 ^ k : Nat) : Int) = 0 := by rw [h]; rfl
      rw [← this]; simp
    simp [this]
  have hmk := fun W => run_make_row' (P := Tryz.prog) 110 5 (.int .u8 0) 1 Tryz.underlying110 (by kernel_rfl) rfl .i64 .i64 k (by omega) (by omega) W
  have hmade := hide (World.rowIs_made w (.int .u8 0) k 5)
  have hbv := hide (fun j => bit_val (n / 2 ^ j) (Nat.lt_of_le_of_lt (Nat.div_le_self _ _) (Nat.lt_of_lt_of_le hn (Nat.pow_le_pow_right (by omega) hk))))
  clear hn
  by_cases h64 : k < 64
  all_goals
   go_enter Tryz.func57, Tryz.ntmps57
   go_wp2
   go_loopw [28] (fun i W => ∃ j : Nat, j ≤ k ∧ i = .int .i64 j ∧ Below w.heap.size w W ∧ W.rowIs w.heap.size 5 k (fun m => if m < j then .int .u8 ((bit (n / 2 ^ (k - 1 - m))).toNat : Int) else .int .u8 0) ∧ w.heap.size < W.heap.size) (fun i _ => k - (intOf i).toNat)
   case atStart => exact ⟨0, Nat.zero_le _, rfl, (Below.refl _ _).alloc (Nat.le_refl _) _, hmade.out.congr (fun i _ => by simp), by simp⟩
   case round =>
     obtain ⟨j, hj, rfl, q, hrow, z⟩ := hrel
     by_cases hlt : j < k
     · have hc := hrow.cell hlt
       have hf := hrow.frozen j
       simp only [Nat.lt_irrefl, if_false] at hc
       have HR := hide hrow
       clear hrow hmk hsh hmade
       go_wp2
       have hv := hbv.out (k - 1 - j)
       rw [show ((n / 2 ^ (k - 1 - j) : Nat) : Int) = (n : Int) / 2 ^ (k - 1 - j) by simp] at hv
       rw [hv]
       refine ⟨⟨j + 1, by omega, by go_num, q.setCell (Nat.le_refl _) _, (HR.out.set j _).congr (fun m hm => ?_), by simpa [World.setCell] using z⟩, by simp [intOf]; omega⟩
       by_cases e : m = j
       · subst e; simp
       · rw [if_neg e]
         by_cases h2 : m < j
         · rw [if_pos h2, if_pos (by omega)]
         · rw [if_neg h2, if_neg (by omega)]
     · have hjk : j = k := by omega
       have hconv := run_bytes_str (P := Tryz.prog) wr 110 9 5 Tryz.underlying110 Tryz.underlying5 Tryz.underlying9 w.heap.size k k (bitsOf n k) (FP.bitsOf_length n k).symm (fun i h => by
         rw [FP.bitsOf_length] at h
         have hg := FP.bitsOf_get n k i h
         rw [List.getElem?_eq_getElem (by rw [FP.bitsOf_length]; exact h)] at hg
         rw [hrow.cell h, if_pos (by omega), Option.some.inj hg])
       clear hrow hmk hmade hsh hjk
       go_wp2
       go_ret2
       exact ⟨rfl, q⟩


def frc (f : Fr) : List Value := [.int .u32 f.id, .bool f.ext, .bool f.rem, .int .i64 f.dlc, .string f.data]

set_option maxRecDepth 100000 in
set_option maxHeartbeats 1000000 in
theorem frRight_any (f : Fr) (w : World) (hid : f.id < 4294967296) :
    Calls Tryz.prog 35 #[.agg #[.int .u32 f.id, .bool f.ext, .bool f.rem, .int .i64 f.dlc, .string f.data]] w fun e w' => e = .returned (.bool (FP.rightB f)) ∧ Below w.heap.size w w' := by
  obtain ⟨id, ext, rem, dlc, data⟩ := f
  dsimp only at *
  cases ext <;> cases rem
  all_goals
    go_enter Tryz.func35, Tryz.ntmps35
    go_wp2
    go_quiet (fail)
    go_wp2
    all_goals
      go_ret
      refine ⟨?_, below_drewN ((Below.refl _ _).alloc (Nat.le_refl _) _) _⟩
      refine ret_bool ?_
      unfold FP.rightB
      generalize data.size = m at *
      rw [Bool.eq_iff_iff]
      simp
      try omega
end Go.Proofs.YthkilodnghiocaaGreatDoor

/- Controllers: their cells; plain: what may be counted, what may be out of a frame. -/
namespace Go.Proofs.YthkilodnghiocaaGreatDoor
open Go.ChangeShapes Go.WideShapes Go.ChangeAt Go.RowKit
open FP (Fr)

structure Cl where
  tc : Int
  rc : Int
  off : Bool
  rs : Int
  st : Int
  n : Int
  was : Bool
  hard : Bool
  has : Bool
  f : Fr
  sends : Bool
  out : ByteArray
  at_ : Int
  last : Int
  sn : Int
  got : ByteArray
  en : Bool
  tail : Int
  good : Bool
def zFr : Fr := ⟨0, false, false, 0, ⟨#[]⟩⟩
def zCl : Cl := ⟨0, 0, false, 0, 0, 0, false, false, false, zFr, false, ⟨#[]⟩, 0, 0, 0, ⟨#[]⟩, false, 0, false⟩
def frL (f : Fr) : List Value := [.int .u32 f.id, .bool f.ext, .bool f.rem, .int .i64 f.dlc, .string f.data]
def Cl.cs (c : Cl) : List Value := [.int .i64 c.tc, .int .i64 c.rc, .bool c.off, .int .i64 c.rs, .int .i64 c.st, .int .i64 c.n, .bool c.was, .bool c.hard, .bool c.has, .int .u32 c.f.id, .bool c.f.ext, .bool c.f.rem, .int .i64 c.f.dlc, .string c.f.data, .bool c.sends, .string c.out, .int .i64 c.at_, .int .u8 c.last, .int .i64 c.sn, .string c.got, .bool c.en, .int .i64 c.tail, .bool c.good]
theorem cl_cells {W : World} {B : Nat} {c : Cl} {t : TypeId} {fz : Nat × Nat} (h : W.heap[B]? = some (.cells c.cs.toArray t fz)) :
    (W.cell? ⟨B, 0, none⟩ = some (.int .i64 c.tc) ∧ W.cell? ⟨B, 1, none⟩ = some (.int .i64 c.rc) ∧ W.cell? ⟨B, 2, none⟩ = some (.bool c.off) ∧ W.cell? ⟨B, 3, none⟩ = some (.int .i64 c.rs)) ∧
    (W.cell? ⟨B, 4, none⟩ = some (.int .i64 c.st) ∧ W.cell? ⟨B, 5, none⟩ = some (.int .i64 c.n) ∧ W.cell? ⟨B, 6, none⟩ = some (.bool c.was) ∧ W.cell? ⟨B, 7, none⟩ = some (.bool c.hard) ∧ W.cell? ⟨B, 8, none⟩ = some (.bool c.has)) ∧
    (W.cell? ⟨B, 9, none⟩ = some (.int .u32 c.f.id) ∧ W.cell? ⟨B, 10, none⟩ = some (.bool c.f.ext) ∧ W.cell? ⟨B, 11, none⟩ = some (.bool c.f.rem) ∧ W.cell? ⟨B, 12, none⟩ = some (.int .i64 c.f.dlc) ∧ W.cell? ⟨B, 13, none⟩ = some (.string c.f.data)) ∧
    (W.cell? ⟨B, 14, none⟩ = some (.bool c.sends) ∧ W.cell? ⟨B, 15, none⟩ = some (.string c.out) ∧ W.cell? ⟨B, 16, none⟩ = some (.int .i64 c.at_) ∧ W.cell? ⟨B, 17, none⟩ = some (.int .u8 c.last) ∧ W.cell? ⟨B, 18, none⟩ = some (.int .i64 c.sn) ∧ W.cell? ⟨B, 19, none⟩ = some (.string c.got) ∧ W.cell? ⟨B, 20, none⟩ = some (.bool c.en) ∧ W.cell? ⟨B, 21, none⟩ = some (.int .i64 c.tail) ∧ W.cell? ⟨B, 22, none⟩ = some (.bool c.good)) := by
  simp [World.cell?, h, Cl.cs]
theorem cl_froz {W : World} {B : Nat} {cs : Array Value} {t : TypeId} (h : W.heap[B]? = some (.cells cs t (0, 0))) (o : Nat) : W.frozen? ⟨B, o, none⟩ = false := by simp [World.frozen?, h]

/-- May it be counted? -/
def cntB (tc rc : Int) (off : Bool) (rs : Int) : Bool := if off = true then decide (tc = 0 ∧ rc = 0 ∧ 1 ≤ rs ∧ rs ≤ 128) else decide (0 ≤ tc ∧ tc ≤ 255 ∧ 0 ≤ rc ∧ rc ≤ 255 ∧ rs = 0)
/-- Is nothing of a frame kept? -/
def Cl.Out (c : Cl) : Prop := c.sends = false ∧ c.out = ⟨#[]⟩ ∧ c.at_ = 0 ∧ c.last = 0 ∧ c.sn = 0 ∧ c.got = ⟨#[]⟩ ∧ c.en = false ∧ c.tail = 0 ∧ c.good = false
/-- Out of any frame, in a state. -/
def Cl.to (c : Cl) (s : Int) : Cl := { c with st := s, n := 0, sends := false, out := ⟨#[]⟩, at_ := 0, last := 0, sn := 0, got := ⟨#[]⟩, en := false, tail := 0, good := false }

/-- A machine: a controller and what happened. -/
structure Mc where
  c : Cl
  kind : Int
  ef : Fr
  bad : Int
def Mc.cs (m : Mc) : List Value := m.c.cs ++ [.int .i64 m.kind, .int .u32 m.ef.id, .bool m.ef.ext, .bool m.ef.rem, .int .i64 m.ef.dlc, .string m.ef.data, .int .i64 m.bad]
def evL (kind : Int) (f : Fr) (bad : Int) : List Value := [.int .i64 kind, .int .u32 f.id, .bool f.ext, .bool f.rem, .int .i64 f.dlc, .string f.data, .int .i64 bad]
end Go.Proofs.YthkilodnghiocaaGreatDoor

/- The ends of a walk that answers a Bool. Nothing of the program's text. -/
namespace Go.Proofs.YthkilodnghiocaaGreatDoor
theorem r_true {r : Bool} {p : Prop} (h : r = true ↔ p) (hp : p) : true = r := (h.2 hp).symm
theorem r_false {r : Bool} {p : Prop} (h : r = true ↔ p) (hp : ¬ p) : false = r := by
  cases hr : r with
  | false => rfl
  | true => exact absurd (h.1 hr) hp
theorem r_dec {r : Bool} {p q : Prop} [Decidable q] (h : r = true ↔ p) (hq : p ↔ q) : decide q = r := by
  cases hr : r with
  | false => exact decide_eq_false (fun hq2 => by rw [h.2 (hq.2 hq2)] at hr; cases hr)
  | true => exact decide_eq_true (hq.1 (h.1 hr))
end Go.Proofs.YthkilodnghiocaaGreatDoor

/- Walks of count.Right, ctl.out, ctl.Right out of a frame. -/
namespace Go.Proofs.YthkilodnghiocaaGreatDoor
open Go.ChangeShapes Go.WideShapes Go.ChangeAt Go.RowKit
open FP (Fr)

theorem four_cells {W : World} {B : Nat} {a b c d : Value} {t : TypeId} {fz : Nat × Nat} (h : W.heap[B]? = some (.cells #[a, b, c, d] t fz)) : W.cell? ⟨B, 0, none⟩ = some a ∧ W.cell? ⟨B, 1, none⟩ = some b ∧ W.cell? ⟨B, 2, none⟩ = some c ∧ W.cell? ⟨B, 3, none⟩ = some d := by
  simp [World.cell?, h]

set_option maxRecDepth 100000 in
set_option maxHeartbeats 4000000 in
theorem cntRight_any (tc rc : Int) (off : Bool) (rs : Int) (w : World) : Calls Tryz.prog 50 #[.agg #[.int .i64 tc, .int .i64 rc, .bool off, .int .i64 rs]] w fun e w' => e = .returned (.bool (cntB tc rc off rs)) ∧ Below w.heap.size w w' := by
  obtain ⟨r, hr⟩ : ∃ r, r = cntB tc rc off rs := ⟨_, rfl⟩
  rw [← hr]
  unfold cntB at hr
  have q0 : Below w.heap.size w (w.alloc (.cells #[.int .i64 tc, .int .i64 rc, .bool off, .int .i64 rs] 69)) := (Below.refl _ _).alloc (Nat.le_refl _) _
  obtain ⟨c0, c1, c2, c3⟩ := four_cells (World.alloc_heap_new w (.cells #[.int .i64 tc, .int .i64 rc, .bool off, .int .i64 rs] 69))
  have Q0 := hide q0
  clear q0
  generalize hw0 : w.alloc (.cells #[.int .i64 tc, .int .i64 rc, .bool off, .int .i64 rs] 69) = w0 at *
  cases off with
  | true =>
    have HR := hide (show r = true ↔ (tc = 0 ∧ rc = 0 ∧ 1 ≤ rs ∧ rs ≤ 128) by rw [hr]; simp)
    clear hr
    go_enter Tryz.func50, Tryz.ntmps50
    go_upto_region 1 with fail
    clear hw0
    go_wp2_with fail
    all_goals go_ret
    all_goals refine ⟨ret_bool ?_, Q0.out⟩
    all_goals (first | exact r_true HR.out (by omega) | exact r_false HR.out (by omega) | exact r_dec HR.out (by omega))
  | false =>
    have HR := hide (show r = true ↔ (0 ≤ tc ∧ tc ≤ 255 ∧ 0 ≤ rc ∧ rc ≤ 255 ∧ rs = 0) by rw [hr]; simp)
    clear hr
    go_enter Tryz.func50, Tryz.ntmps50
    go_upto_region 1 with fail
    clear hw0
    go_wp2_with fail
    all_goals go_ret
    all_goals refine ⟨ret_bool ?_, Q0.out⟩
    all_goals (first | exact r_true HR.out (by omega) | exact r_false HR.out (by omega) | exact r_dec HR.out (by omega))

set_option maxRecDepth 100000 in
set_option maxHeartbeats 4000000 in
theorem ctlOut_ok (c : Cl) (w : World) (h : c.Out) : Calls Tryz.prog 52 #[.agg c.cs.toArray] w fun e w' => e = .returned (.bool true) ∧ Below w.heap.size w w' := by
  obtain ⟨w0, hw0⟩ : ∃ w0, w0 = w.alloc (.cells c.cs.toArray 73) := ⟨_, rfl⟩
  have B0 := hide (World.alloc_heap_new w (.cells c.cs.toArray 73))
  have Q0 : Hid (Below w.heap.size w w0) := by rw [hw0]; exact hide ((Below.refl _ _).alloc (Nat.le_refl _) _)
  rw [← hw0] at B0
  obtain ⟨_, _, _, d0, d1, d2, d3, d4, d5, d6, d7, d8⟩ := cl_cells B0.out
  obtain ⟨h0, h1, h2, h3, h4, h5, h6, h7, h8⟩ := h
  rw [h0] at d0
  rw [h1] at d1
  rw [h2] at d2
  rw [h3] at d3
  rw [h4] at d4
  rw [h5] at d5
  rw [h6] at d6
  rw [h7] at d7
  rw [h8] at d8
  clear h0 h1 h2 h3 h4 h5 h6 h7 h8 B0
  go_enter Tryz.func52, Tryz.ntmps52
  go_upto_region 1 with fail
  change Code.wp _ _ _ _ (w.alloc (.cells c.cs.toArray 73))
  rw [← hw0]
  clear hw0
  go_wp2_with fail
  go_ret
  exact ⟨rfl, Q0.out⟩

/-- A controller that may be, and joins or is idle. -/
structure Cl.Q (c : Cl) : Prop where
  cnt : cntB c.tc c.rc c.off c.rs = true
  offs : c.off = (c.st == 8)
  has : c.has = true → FP.rightB c.f = true
  hasn : c.has = false → c.f = zFr
  out : c.Out
  st : (c.st = 0 ∧ 0 ≤ c.n ∧ c.n ≤ 10) ∨ (c.st = 1 ∧ c.n = 0)
theorem right_id {f : Fr} (h : FP.rightB f = true) : f.id < 4294967296 := by
  unfold FP.rightB at h
  simp only [Bool.and_eq_true, decide_eq_true_eq] at h
  have := h.1.1.1
  split at this <;> omega

set_option maxRecDepth 100000 in
set_option maxHeartbeats 16000000 in
theorem ctlRight_q (c : Cl) (w : World) (h : c.Q) : Calls Tryz.prog 34 #[.agg c.cs.toArray] w fun e w' => e = .returned (.bool true) ∧ Below w.heap.size w w' := by
  obtain ⟨hcnt, hoff, hhas, hhasn, hout, hst⟩ := h
  have OU := hide (fun W => ctlOut_ok c W hout)
  clear hout
  obtain ⟨tc, rc, off, rs, st, n, was, hard, has, f, sends, out, at_, last, sn, got, en, tail, good⟩ := c
  dsimp only at *
  have HN := hide (show has = false → f = ⟨0, false, false, 0, ⟨#[]⟩⟩ from hhasn)
  have HR := hide hhas
  clear hhas hhasn
  rcases hst with ⟨rfl, hn1, hn2⟩ | ⟨rfl, rfl⟩
  all_goals (first | obtain rfl : off = true := hoff | obtain rfl : off = false := hoff)
  all_goals have CN := hide (fun W => hcnt ▸ cntRight_any tc rc _ rs W)
  all_goals clear hcnt
  all_goals cases has
  all_goals (first | obtain rfl := HN.out rfl | have FR := hide (fun W => HR.out rfl ▸ frRight_any f W (right_id (HR.out rfl))))
  all_goals clear HN HR
  all_goals generalize hc : (⟨tc, rc, _, rs, _, _, was, hard, _, _, sends, out, at_, last, sn, got, en, tail, good⟩ : Cl) = c at OU
  all_goals have HC := hide hc
  all_goals clear hc
  all_goals obtain ⟨w0, hw0⟩ : ∃ w0, w0 = w.alloc (.cells c.cs.toArray 73) := ⟨_, rfl⟩
  all_goals have B0 := hide (World.alloc_heap_new w (.cells c.cs.toArray 73))
  all_goals have Q0 : Hid (Below w.heap.size w w0) := by rw [hw0]; exact hide ((Below.refl _ _).alloc (Nat.le_refl _) _)
  all_goals rw [← hw0] at B0
  all_goals obtain ⟨⟨c0, c1, c2, c3⟩, ⟨c4, c5, c6, c7, c8⟩, ⟨c9, c10, c11, c12, c13⟩, _⟩ := cl_cells B0.out
  all_goals rw [← HC.out] at c0 c1 c2 c3 c4 c5 c8 c9 c10 c11 c12 c13
  all_goals dsimp only at c0 c1 c2 c3 c4 c5 c8 c9 c10 c11 c12 c13
  all_goals clear c6 c7
  all_goals
    go_enter Tryz.func34, Tryz.ntmps34
    go_upto_region 1 with fail
    change Code.wp _ _ _ _ (w.alloc (.cells c.cs.toArray 73))
    rw [← hw0]
    clear hw0
    go_wp2_with fail
    (with_reducible refine (CN.out _).mono ?_)
    rintro e1 w1 ⟨rfl, q1⟩
    have B1 := hide (heap_below B0.out q1)
    have Q1 := hide (below_next Q0.out Q0.out.size q1)
    clear q1 B0 Q0 CN c0 c1 c2 c3 c4 c5 c8 c9 c10 c11 c12 c13
    obtain ⟨⟨c0, c1, c2, c3⟩, ⟨c4, c5, c6, c7, c8⟩, ⟨c9, c10, c11, c12, c13⟩, _⟩ := cl_cells B1.out
    rw [← HC.out] at c0 c1 c2 c3 c4 c5 c8 c9 c10 c11 c12 c13
    dsimp only at c0 c1 c2 c3 c4 c5 c8 c9 c10 c11 c12 c13
    clear c6 c7
    first
    | (go_wp2_with fail
       (with_reducible refine (FR.out _).mono ?_)
       rintro e2 w2 ⟨rfl, q2⟩
       have B2 := hide (heap_below B1.out q2)
       have Q2 := hide (below_next Q1.out Q1.out.size q2)
       clear q2 B1 Q1 FR c0 c1 c2 c3 c4 c5 c8 c9 c10 c11 c12 c13
       obtain ⟨⟨c0, c1, c2, c3⟩, ⟨c4, c5, c6, c7, c8⟩, ⟨c9, c10, c11, c12, c13⟩, _⟩ := cl_cells B2.out
       rw [← HC.out] at c4 c8
       dsimp only at c4 c8
       clear c0 c1 c2 c3 c5 c6 c7 c9 c10 c11 c12 c13
       go_wp2_with (refine wpList_load_row rfl 73 (.tmp 1) (by rfl) w.heap.size (by rfl) 73 c.cs.toArray (0, 0) _ (by exact B2.out) Tryz.underlying73 (by rfl) (by kernel_rfl) ?_)
       (with_reducible refine (OU.out _).mono ?_)
       rintro e3 w3 ⟨rfl, q3⟩
       have Q3 := hide (below_next Q2.out Q2.out.size q3)
       go_wp2_with fail
       go_ret
       exact ⟨rfl, Q3.out⟩)
    | (go_wp2_with (refine wpList_load_row rfl 73 (.tmp 1) (by rfl) w.heap.size (by rfl) 73 c.cs.toArray (0, 0) _ (by exact B1.out) Tryz.underlying73 (by rfl) (by kernel_rfl) ?_)
       (with_reducible refine (OU.out _).mono ?_)
       rintro e3 w3 ⟨rfl, q3⟩
       have Q3 := hide (below_next Q1.out Q1.out.size q3)
       go_wp2_with fail
       go_ret
       exact ⟨rfl, Q3.out⟩)
end Go.Proofs.YthkilodnghiocaaGreatDoor
