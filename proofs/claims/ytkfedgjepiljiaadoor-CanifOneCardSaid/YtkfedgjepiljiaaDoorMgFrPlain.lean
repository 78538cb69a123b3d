/- Plain mathematics of bits and frames; nothing of the program. -/
import Derived.Test.YtkfedgjepiljiaaDoorMgMem
import Derived.Laws.BytesString
import Derived.Lib.Strings
namespace Go.Proofs.YtkfedgjepiljiaaDoor.FP

/-- A bit as a letter. -/
def bit (n : Nat) : UInt8 := if n % 2 = 1 then 49 else 48
/-- n in w bits, the highest one first. -/
def bitsOf (n : Nat) : Nat → List UInt8
  | 0 => []
  | w + 1 => bit (n / 2 ^ w) :: bitsOf n w
def numOf (l : List UInt8) : Nat := l.foldl (fun n c => 2 * n + if c = 49 then 1 else 0) 0

theorem bitsOf_length (n w : Nat) : (bitsOf n w).length = w := by
  induction w with
  | zero => rfl
  | succ w ih => simp [bitsOf, ih]

theorem bitsOf_get (n w i : Nat) (h : i < w) : (bitsOf n w)[i]? = some (bit (n / 2 ^ (w - 1 - i))) := by
  induction w generalizing i with
  | zero => omega
  | succ w ih =>
    cases i with
    | zero => simp [bitsOf]
    | succ i =>
      simp only [bitsOf, List.getElem?_cons_succ]
      rw [ih i (by omega)]
      congr 4
      omega

theorem bitsOf_mem {n w : Nat} {c : UInt8} (h : c ∈ bitsOf n w) : c = 48 ∨ c = 49 := by
  induction w with
  | zero => simp [bitsOf] at h
  | succ w ih =>
    simp only [bitsOf, List.mem_cons] at h
    rcases h with rfl | h
    · unfold bit; split <;> simp
    · exact ih h

theorem numOf_snoc (l : List UInt8) (c : UInt8) : numOf (l ++ [c]) = 2 * numOf l + if c = 49 then 1 else 0 := by
  simp [numOf]

theorem foldl_num (l : List UInt8) : ∀ a : Nat, l.foldl (fun n c => 2 * n + if c = 49 then 1 else 0) a = a * 2 ^ l.length + numOf l := by
  induction l with
  | nil => intro a; simp [numOf]
  | cons c l ih =>
    intro a
    have e : numOf (c :: l) = (2 * 0 + if c = 49 then 1 else 0) * 2 ^ l.length + numOf l := by
      show List.foldl _ _ l = _
      rw [ih]
    rw [e, List.foldl_cons, ih, List.length_cons, Nat.pow_succ]
    generalize (if c = 49 then 1 else 0) = b
    generalize 2 ^ l.length = p
    rw [Nat.add_mul]
    simp only [Nat.mul_zero, Nat.zero_add]
    rw [Nat.mul_comm 2 a, Nat.mul_assoc, Nat.mul_comm 2 p]
    omega

theorem numOf_append (l r : List UInt8) : numOf (l ++ r) = numOf l * 2 ^ r.length + numOf r := by
  show List.foldl _ _ _ = _
  rw [List.foldl_append]
  exact foldl_num r _

theorem numOf_cons (c : UInt8) (l : List UInt8) : numOf (c :: l) = (if c = 49 then 1 else 0) * 2 ^ l.length + numOf l := by
  have := numOf_append [c] l
  simpa [numOf] using this

theorem bit_num (n : Nat) : (if bit n = 49 then 1 else 0) = n % 2 := by
  unfold bit
  split <;> simp <;> omega

theorem numOf_bitsOf (n w : Nat) : numOf (bitsOf n w) = n % 2 ^ w := by
  induction w with
  | zero => simp [bitsOf, numOf, Nat.mod_one]
  | succ w ih =>
    rw [bitsOf, numOf_cons, bit_num, ih, bitsOf_length, Nat.pow_succ, Nat.mod_mul, Nat.mul_comm]
    omega

theorem numOf_lt (l : List UInt8) : numOf l < 2 ^ l.length := by
  induction l with
  | nil => simp [numOf]
  | cons c l ih =>
    rw [numOf_cons, List.length_cons, Nat.pow_succ]
    split <;> omega

/-- The upper bits are those of the number without its lower ones. -/
theorem bitsOf_append (n a b : Nat) : bitsOf n (a + b) = bitsOf (n / 2 ^ b) a ++ bitsOf n b := by
  induction a with
  | zero => simp [bitsOf]
  | succ a ih =>
    rw [show a + 1 + b = (a + b) + 1 by omega, bitsOf, bitsOf, ih, List.cons_append, Nat.div_div_eq_div_mul, ← Nat.pow_add, Nat.add_comm b a]

theorem bitsOf_mod (n w : Nat) : bitsOf (n % 2 ^ w) w = bitsOf n w := by
  apply List.ext_getElem?
  intro i
  by_cases h : i < w
  · rw [bitsOf_get _ _ _ h, bitsOf_get _ _ _ h]
    congr 1
    unfold bit
    have e : n % 2 ^ w / 2 ^ (w - 1 - i) % 2 = n / 2 ^ (w - 1 - i) % 2 := by
      have : 2 ^ w = 2 ^ (w - 1 - i) * 2 ^ (i + 1) := by rw [← Nat.pow_add]; congr 1; omega
      rw [this, Nat.mod_mul_right_div_self, Nat.pow_succ', Nat.mod_mul_right_mod]
    rw [e]
  · rw [List.getElem?_eq_none (by rw [bitsOf_length]; omega), List.getElem?_eq_none (by rw [bitsOf_length]; omega)]

structure Fr where
  id : Nat
  ext : Bool
  rem : Bool
  dlc : Int
  data : ByteArray

def rightB (f : Fr) : Bool := decide (f.id < (if f.ext then 536870912 else 2048)) && decide (0 ≤ f.dlc) && decide (f.dlc ≤ 8) && decide ((f.data.size : Int) = if f.rem then 0 else f.dlc)

def bitB (b : Bool) : UInt8 := if b then 49 else 48
def idPart (f : Fr) : List UInt8 := if f.ext then bitsOf (f.id / 262144) 11 ++ ([49, 49] ++ bitsOf (f.id % 262144) 18) else bitsOf f.id 11
def dataPart (l : List UInt8) : List UInt8 := l.flatMap fun c => bitsOf c.toNat 8
def headF (f : Fr) : List UInt8 := 48 :: (idPart f ++ (bitB f.rem :: (48 :: 48 :: (bitsOf f.dlc.toNat 4 ++ dataPart f.data.data.toList))))

theorem dataPart_length (l : List UInt8) : (dataPart l).length = 8 * l.length := by
  induction l with
  | nil => rfl
  | cons c l ih =>
    simp only [dataPart, List.flatMap_cons, List.length_append, bitsOf_length, List.length_cons] at *
    rw [ih]; omega

theorem head_length (f : Fr) : (headF f).length = (if f.ext then 39 else 19) + 8 * f.data.size := by
  have e : f.data.data.toList.length = f.data.size := Array.length_toList
  unfold headF idPart
  by_cases h : f.ext = true
  · simp only [h, if_true, List.length_cons, List.length_append, bitsOf_length, dataPart_length, List.length_nil]
    rw [e]; omega
  · simp only [h, if_false, List.length_cons, List.length_append, bitsOf_length, dataPart_length, Bool.false_eq_true]
    rw [e]; omega
end Go.Proofs.YtkfedgjepiljiaaDoor.FP

/- The walks of bits.Of and of package frame's head. -/
namespace Go.Proofs.YtkfedgjepiljiaaDoor
open Go.ChangeShapes Go.WideShapes Go.ChangeAt Go.RowKit
open FP (bit bitsOf numOf Fr)

theorem bit_val (m : Nat) (hm : m < 2 ^ 64) : ((48 : Int) + bits .and .u64 (m : Int) 1) % 256 = ((bit m).toNat : Int) := by
  rw [and_one_u64 _ (by omega) (by omega)]
  unfold bit
  split <;> simp <;> omega

set_option maxRecDepth 100000 in
set_option maxHeartbeats 400000 in
theorem bitsOf_any (n k : Nat) (w : World) (hk : k ≤ 64) (hn : n < 2 ^ k) :
    Calls Tryd.prog 72 #[.int .u64 n, .int .i64 k] w fun e w' => e = .returned (.tuple #[.string ⟨(bitsOf n k).toArray⟩, .int .i64 0]) ∧ Below w.heap.size w w' := by
  have hsh : ((n : Int) / 2 ^ k != 0) = false := by
    have : (n : Int) / 2 ^ k = 0 := by
      have h := Nat.div_eq_of_lt hn
      have : ((n / 2 ^ k : Nat) : Int) = 0 := by rw [h]; rfl
      rw [← this]; simp
    simp [this]
  have hmk := fun W => run_make_row' (P := Tryd.prog) 108 5 (.int .u8 0) 1 Tryd.underlying108 (by kernel_rfl) rfl .i64 .i64 k (by omega) (by omega) W
  have hmade := hide (World.rowIs_made w (.int .u8 0) k 5)
  have hbv := hide (fun j => bit_val (n / 2 ^ j) (Nat.lt_of_le_of_lt (Nat.div_le_self _ _) (Nat.lt_of_lt_of_le hn (Nat.pow_le_pow_right (by omega) hk))))
  clear hn
  by_cases h64 : k < 64
  all_goals
   go_enter Tryd.func72, Tryd.ntmps72
   go_wp2
   go_loopw [28] (fun i W => ∃ j : Nat, j ≤ k ∧ i = .int .i64 j ∧ Below w.heap.size w W ∧ W.rowIs w.heap.size 5 k (fun m => if m < j then .int .u8 ((bit (n / 2 ^ (k - 1 - m))).toNat : Int) else .int .u8 0) ∧ w.heap.size < W.heap.size) (fun i _ => k - (intOf i).toNat)
   case atStart => exact ⟨0, Nat.zero_le _, rfl, (Below.refl _ _).alloc (Nat.le_refl _) _, hmade.out.congr (fun i _ => by simp), by simp⟩
   case round =>
     obtain ⟨j, hj, rfl, q, hrow, z⟩ := hrel
     by_cases hlt : j < k
     · have hc := hrow.cell hlt
       have hf := hrow.frozen j
       simp only [Nat.lt_irrefl, if_false] at hc
       have HR := hide hrow
       clear hrow hmk hsh hmade
       go_wp2
       have hv := hbv.out (k - 1 - j)
       rw [show ((n / 2 ^ (k - 1 - j) : Nat) : Int) = (n : Int) / 2 ^ (k - 1 - j) by simp] at hv
       rw [hv]
       refine ⟨⟨j + 1, by omega, by go_num, q.setCell (Nat.le_refl _) _, (HR.out.set j _).congr (fun m hm => ?_), by simpa [World.setCell] using z⟩, by simp [intOf]; omega⟩
       by_cases e : m = j
       · subst e; simp
       · rw [if_neg e]
         by_cases h2 : m < j
         · rw [if_pos h2, if_pos (by omega)]
         · rw [if_neg h2, if_neg (by omega)]
     · have hjk : j = k := by omega
       have hconv := run_bytes_str (P := Tryd.prog) wr 108 9 5 Tryd.underlying108 Tryd.underlying5 Tryd.underlying9 w.heap.size k k (bitsOf n k) (FP.bitsOf_length n k).symm (fun i h => by
         rw [FP.bitsOf_length] at h
         have hg := FP.bitsOf_get n k i h
         rw [List.getElem?_eq_getElem (by rw [FP.bitsOf_length]; exact h)] at hg
         rw [hrow.cell h, if_pos (by omega), Option.some.inj hg])
       clear hrow hmk hmade hsh hjk
       go_wp2
       go_ret2
       exact ⟨rfl, q⟩


def frc (f : Fr) : List Value := [.int .u32 f.id, .bool f.ext, .bool f.rem, .int .i64 f.dlc, .string f.data]

set_option maxRecDepth 100000 in
set_option maxHeartbeats 1000000 in
theorem frRight_any (f : Fr) (w : World) (hid : f.id < 4294967296) :
    Calls Tryd.prog 30 #[.agg #[.int .u32 f.id, .bool f.ext, .bool f.rem, .int .i64 f.dlc, .string f.data]] w fun e w' => e = .returned (.bool (FP.rightB f)) ∧ Below w.heap.size w w' := by
  obtain ⟨id, ext, rem, dlc, data⟩ := f
  dsimp only at *
  cases ext <;> cases rem
  all_goals
    go_enter Tryd.func30, Tryd.ntmps30
    go_wp2
    go_quiet (fail)
    go_wp2
    all_goals
      go_ret
      refine ⟨?_, below_drewN ((Below.refl _ _).alloc (Nat.le_refl _) _) _⟩
      refine ret_bool ?_
      unfold FP.rightB
      generalize data.size = m at *
      rw [Bool.eq_iff_iff]
      simp
      try omega
end Go.Proofs.YtkfedgjepiljiaaDoor

/- The walks of package prio: of, field, Less, well. -/
namespace Go.Proofs.YtkfedgjepiljiaaDoor
open Go.ChangeShapes Go.WideShapes Go.ChangeAt Go.RowKit
open FP (bit bitsOf Fr bitB)

def fieldF (f : Fr) : List UInt8 := if f.ext then (bitsOf f.id 29).take 11 ++ [49, 49] ++ (bitsOf f.id 29).drop 11 ++ [bitB f.rem] else bitsOf f.id 11 ++ [bitB f.rem] ++ [48]
def lessB (f g : Fr) : Bool := FP.rightB f && FP.rightB g && Op.bytesLess (fieldF f) (fieldF g)

set_option maxRecDepth 100000 in
theorem prOf_any (N K : Int) (n k : Nat) (hN : N = n) (hK : K = k) (hk : k ≤ 64) (hn : n < 2 ^ k) (h32 : n < 4294967296) (w : World) :
    Calls Tryd.prog 88 #[.int .u32 N, .int .i64 K] w fun e w' => e = .returned (.string ⟨(bitsOf n k).toArray⟩) ∧ Below w.heap.size w w' := by
  subst hN
  subst hK
  have O := hide (bitsOf_any n k w hk hn)
  have wn : IntKind.u64.wrap (n : Int) = (n : Int) := IntWalk.u64_in _ (by omega)
  go_enter Tryd.func88, Tryd.ntmps88
  go_wp2_with fail
  refine O.out.mono ?_
  rintro e w1 ⟨rfl, q⟩
  go_wp2
  go_ret
  exact ⟨rfl, q⟩

theorem str_cut (l : List UInt8) (a b : Nat) : (⟨l.toArray⟩ : ByteArray).extract a b = ⟨(l.extract a b).toArray⟩ := by
  rw [ByteArray.ext_iff]
  simp [ByteArray.data_extract]
theorem str_appP (l r : List UInt8) : (⟨l.toArray⟩ : ByteArray) ++ ⟨r.toArray⟩ = ⟨(l ++ r).toArray⟩ := by
  rw [ByteArray.ext_iff]
  simp

set_option maxRecDepth 100000 in
set_option maxHeartbeats 1000000 in
theorem field_any (f : Fr) (w : World) (hr : FP.rightB f = true) :
    Calls Tryd.prog 80 #[.agg #[.int .u32 f.id, .bool f.ext, .bool f.rem, .int .i64 f.dlc, .string f.data]] w fun e w' => e = .returned (.string ⟨(fieldF f).toArray⟩) ∧ Below w.heap.size w w' := by
  obtain ⟨id, ext, rem, dlc, data⟩ := f
  have hid : id < (if ext then 536870912 else 2048) := by simp [FP.rightB] at hr; exact hr.1.1.1
  clear hr
  dsimp only
  have q0 : Below w.heap.size w (w.alloc (.cells #[.int .u32 id, .bool ext, .bool rem, .int .i64 dlc, .string data] 24)) := (Below.refl _ _).alloc (Nat.le_refl _) _
  cases ext
  · have hid' : id < 2048 := by simpa using hid
    clear hid
    have O := hide (fun W => prOf_any id 11 id 11 rfl rfl (by omega) (by omega) (by omega) W)
    have hl : (⟨(bitsOf id 11).toArray⟩ : ByteArray).size = 11 := by simp [ByteArray.size, FP.bitsOf_length]
    have hE : fieldF ⟨id, false, rem, dlc, data⟩ = bitsOf id 11 ++ [bitB rem] ++ [48] := rfl
    have HE := hide hE
    have SA := hide str_appP
    clear hE
    cases rem
    all_goals
      go_enter Tryd.func80, Tryd.ntmps80
      go_wp2_with fail
      refine (O.out _).mono ?_
      rintro e1 w1 ⟨rfl, q1⟩
      go_wp2
      go_ret
      refine ⟨?_, below_next q0 q0.size q1⟩
      rw [HE.out]
      simp [bitB, ByteArray.ext_iff]
      done
  · have hid' : id < 536870912 := by simpa using hid
    clear hid
    have O := hide (fun W => prOf_any id 29 id 29 rfl rfl (by omega) (by omega) (by omega) W)
    have hE : (⟨(fieldF ⟨id, true, rem, dlc, data⟩).toArray⟩ : ByteArray) = (⟨(bitsOf id 29).toArray⟩ : ByteArray).extract 0 11 ++ ⟨#[49, 49]⟩ ++ (⟨(bitsOf id 29).toArray⟩ : ByteArray).extract 11 29 ++ ⟨#[bitB rem]⟩ := by
      have e : fieldF ⟨id, true, rem, dlc, data⟩ = (bitsOf id 29).take 11 ++ [49, 49] ++ (bitsOf id 29).drop 11 ++ [bitB rem] := rfl
      rw [e, str_cut, str_cut, show (⟨#[49, 49]⟩ : ByteArray) = ⟨([49, 49] : List UInt8).toArray⟩ from rfl, show (⟨#[bitB rem]⟩ : ByteArray) = ⟨([bitB rem] : List UInt8).toArray⟩ from rfl, str_appP, str_appP, str_appP]
      simp only [List.extract_eq_take_drop, List.drop_zero]
      rw [show (29 - 11 : Nat) = (List.drop 11 (bitsOf id 29)).length by simp [FP.bitsOf_length], List.take_length]
    rw [hE]
    clear hE
    have hsz : (⟨(bitsOf id 29).toArray⟩ : ByteArray).size = 29 := by simp [ByteArray.size, FP.bitsOf_length]
    generalize (⟨(bitsOf id 29).toArray⟩ : ByteArray) = S at *
    have h11 : (11 : Int) ≤ (S.size : Int) := by omega
    have h11' : 11 ≤ S.size := by omega
    have h29 : S.size ≤ 29 := by omega
    have hx : S.extract 11 S.size = S.extract 11 29 := by rw [hsz]
    have x1 : (S.extract 0 11).size ≤ 29 := by rw [ByteArray.size_extract]; omega
    have x2 : (S.extract 11 29).size ≤ 29 := by rw [ByteArray.size_extract]; omega
    generalize S.extract 11 29 = T2 at *
    obtain ⟨T1, hT1⟩ : ∃ T, S.extract 0 11 = T := ⟨_, rfl⟩
    rw [hT1] at x1 ⊢
    clear hsz
    cases rem
    all_goals
      go_enter Tryd.func80, Tryd.ntmps80
      go_wp2_with fail
      refine (O.out _).mono ?_
      rintro e1 w1 ⟨rfl, q1⟩
      go_wp2_with fail
      go_quiet (fail)
      go_wp2
      go_ret
      exact ⟨rfl, below_drewN (below_next q0 q0.size q1) _⟩

theorem lessB_str (f g : Fr) (hf : FP.rightB f = true) (hg : FP.rightB g = true) : lessB f g = Op.bytesLess (⟨(fieldF f).toArray⟩ : ByteArray).toList (⟨(fieldF g).toArray⟩ : ByteArray).toList := by
  unfold lessB
  rw [hf, hg, Lib.toList_data, Lib.toList_data]
  rfl

set_option maxRecDepth 100000 in
set_option maxHeartbeats 2000000 in
theorem Less_any (f g : Fr) (w : World) (hf : f.id < 4294967296) (hg : g.id < 4294967296) :
    Calls Tryd.prog 64 #[.agg #[.int .u32 f.id, .bool f.ext, .bool f.rem, .int .i64 f.dlc, .string f.data], .agg #[.int .u32 g.id, .bool g.ext, .bool g.rem, .int .i64 g.dlc, .string g.data]] w fun e w' => e = .returned (.bool (lessB f g)) ∧ Below w.heap.size w w' := by
  have RF := hide (fun W => frRight_any f W hf)
  have RG := hide (fun W => frRight_any g W hg)
  have FF := hide (fun W => field_any f W)
  have FG := hide (fun W => field_any g W)
  have q0 : Below w.heap.size w ((w.alloc (.cells #[.int .u32 f.id, .bool f.ext, .bool f.rem, .int .i64 f.dlc, .string f.data] 24)).alloc (.cells #[.int .u32 g.id, .bool g.ext, .bool g.rem, .int .i64 g.dlc, .string g.data] 24)) := ((Below.refl _ _).alloc (Nat.le_refl _) _).alloc (by simp) _
  have HE : Hid (FP.rightB f = true → FP.rightB g = true → lessB f g = Op.bytesLess (⟨(fieldF f).toArray⟩ : ByteArray).toList (⟨(fieldF g).toArray⟩ : ByteArray).toList) := lessB_str f g
  have HN : Hid (FP.rightB f = false ∨ FP.rightB g = false → lessB f g = false) := fun h => by unfold lessB; rcases h with h | h <;> simp [h]
  generalize (⟨(fieldF f).toArray⟩ : ByteArray) = SF at *
  generalize (⟨(fieldF g).toArray⟩ : ByteArray) = SG at *
  generalize lessB f g = L at *
  rcases h1 : FP.rightB f with _ | _
  · have hL := HN.out (.inl h1)
    rw [h1] at RF
    subst hL
    clear HE HN FF FG RG h1
    obtain ⟨id, ext, rem, dlc, data⟩ := f
    obtain ⟨id', ext', rem', dlc', data'⟩ := g
    dsimp only at *
    go_enter Tryd.func64, Tryd.ntmps64
    go_wp2_with fail
    refine wp_region_tame (by kernel_rfl) (by kernel_rfl) ?_
    generalize hW : (w.alloc (.cells #[.int .u32 id, .bool ext, .bool rem, .int .i64 dlc, .string data] 24)).alloc (.cells #[.int .u32 id', .bool ext', .bool rem', .int .i64 dlc', .string data'] 24) = W0 at *
    have z0 : W0.heap.size = w.heap.size + 2 := by rw [← hW]; simp
    have m00 := fun s : InW W0 => s.cell (b := w.heap.size) (o := 0) (v := .int .u32 id) (by omega) (by rw [← hW]; simp [go_sem])
    have m01 := fun s : InW W0 => s.cell (b := w.heap.size) (o := 1) (v := .bool ext) (by omega) (by rw [← hW]; simp [go_sem])
    have m02 := fun s : InW W0 => s.cell (b := w.heap.size) (o := 2) (v := .bool rem) (by omega) (by rw [← hW]; simp [go_sem])
    have m03 := fun s : InW W0 => s.cell (b := w.heap.size) (o := 3) (v := .int .i64 dlc) (by omega) (by rw [← hW]; simp [go_sem])
    have m04 := fun s : InW W0 => s.cell (b := w.heap.size) (o := 4) (v := .string data) (by omega) (by rw [← hW]; simp [go_sem])
    have m10 := fun s : InW W0 => s.cell (b := w.heap.size + 1) (o := 0) (v := .int .u32 id') (by omega) (by rw [← hW]; simp [go_sem])
    have m11 := fun s : InW W0 => s.cell (b := w.heap.size + 1) (o := 1) (v := .bool ext') (by omega) (by rw [← hW]; simp [go_sem])
    have m12 := fun s : InW W0 => s.cell (b := w.heap.size + 1) (o := 2) (v := .bool rem') (by omega) (by rw [← hW]; simp [go_sem])
    have m13 := fun s : InW W0 => s.cell (b := w.heap.size + 1) (o := 3) (v := .int .i64 dlc') (by omega) (by rw [← hW]; simp [go_sem])
    have m14 := fun s : InW W0 => s.cell (b := w.heap.size + 1) (o := 4) (v := .string data') (by omega) (by rw [← hW]; simp [go_sem])
    have Z0 := hide z0
    clear hW z0
    repeat (go_big_quiet_step (first | (go_at_call 30; exact tame_of (RF.out _))))
    refine wpQuiet_nil ?_
    rintro _ ⟨s, rfl⟩
    have hs := s.h
    clear m00 m01 m02 m03 m04 m10 m11 m12 m13 m14
    go_wp2
    go_ret
    exact ⟨rfl, q0.trans (hs.mono (by have := Z0.out; omega))⟩
  · rw [h1] at RF
    have FF' := hide (fun W => FF.out W h1)
    rcases h2 : FP.rightB g with _ | _
    · have hL := HN.out (.inr h2)
      rw [h2] at RG
      subst hL
      clear HE HN FF FG FF' h1 h2
      obtain ⟨id, ext, rem, dlc, data⟩ := f
      obtain ⟨id', ext', rem', dlc', data'⟩ := g
      dsimp only at *
      go_enter Tryd.func64, Tryd.ntmps64
      go_wp2_with fail
      refine wp_region_tame (by kernel_rfl) (by kernel_rfl) ?_
      generalize hW : (w.alloc (.cells #[.int .u32 id, .bool ext, .bool rem, .int .i64 dlc, .string data] 24)).alloc (.cells #[.int .u32 id', .bool ext', .bool rem', .int .i64 dlc', .string data'] 24) = W0 at *
      have z0 : W0.heap.size = w.heap.size + 2 := by rw [← hW]; simp
      have m00 := fun s : InW W0 => s.cell (b := w.heap.size) (o := 0) (v := .int .u32 id) (by omega) (by rw [← hW]; simp [go_sem])
      have m01 := fun s : InW W0 => s.cell (b := w.heap.size) (o := 1) (v := .bool ext) (by omega) (by rw [← hW]; simp [go_sem])
      have m02 := fun s : InW W0 => s.cell (b := w.heap.size) (o := 2) (v := .bool rem) (by omega) (by rw [← hW]; simp [go_sem])
      have m03 := fun s : InW W0 => s.cell (b := w.heap.size) (o := 3) (v := .int .i64 dlc) (by omega) (by rw [← hW]; simp [go_sem])
      have m04 := fun s : InW W0 => s.cell (b := w.heap.size) (o := 4) (v := .string data) (by omega) (by rw [← hW]; simp [go_sem])
      have m10 := fun s : InW W0 => s.cell (b := w.heap.size + 1) (o := 0) (v := .int .u32 id') (by omega) (by rw [← hW]; simp [go_sem])
      have m11 := fun s : InW W0 => s.cell (b := w.heap.size + 1) (o := 1) (v := .bool ext') (by omega) (by rw [← hW]; simp [go_sem])
      have m12 := fun s : InW W0 => s.cell (b := w.heap.size + 1) (o := 2) (v := .bool rem') (by omega) (by rw [← hW]; simp [go_sem])
      have m13 := fun s : InW W0 => s.cell (b := w.heap.size + 1) (o := 3) (v := .int .i64 dlc') (by omega) (by rw [← hW]; simp [go_sem])
      have m14 := fun s : InW W0 => s.cell (b := w.heap.size + 1) (o := 4) (v := .string data') (by omega) (by rw [← hW]; simp [go_sem])
      have Z0 := hide z0
      clear hW z0
      repeat (go_big_quiet_step (first | (go_at_call 30; with_reducible exact tame_of (RF.out _)) | (go_at_call 30; exact tame_of (RG.out _))))
      refine wpQuiet_nil ?_
      rintro _ ⟨s, rfl⟩
      have hs := s.h
      clear m00 m01 m02 m03 m04 m10 m11 m12 m13 m14
      go_wp2
      go_ret
      exact ⟨rfl, q0.trans (hs.mono (by have := Z0.out; omega))⟩
    · have hL := HE.out h1 h2
      have FG' := hide (fun W => FG.out W h2)
      rw [h2] at RG
      subst hL
      clear HE HN FF FG h1 h2
      obtain ⟨id, ext, rem, dlc, data⟩ := f
      obtain ⟨id', ext', rem', dlc', data'⟩ := g
      dsimp only at *
      go_enter Tryd.func64, Tryd.ntmps64
      go_wp2_with fail
      refine wp_region_tame (by kernel_rfl) (by kernel_rfl) ?_
      generalize hW : (w.alloc (.cells #[.int .u32 id, .bool ext, .bool rem, .int .i64 dlc, .string data] 24)).alloc (.cells #[.int .u32 id', .bool ext', .bool rem', .int .i64 dlc', .string data'] 24) = W0 at *
      have z0 : W0.heap.size = w.heap.size + 2 := by rw [← hW]; simp
      have m00 := fun s : InW W0 => s.cell (b := w.heap.size) (o := 0) (v := .int .u32 id) (by omega) (by rw [← hW]; simp [go_sem])
      have m01 := fun s : InW W0 => s.cell (b := w.heap.size) (o := 1) (v := .bool ext) (by omega) (by rw [← hW]; simp [go_sem])
      have m02 := fun s : InW W0 => s.cell (b := w.heap.size) (o := 2) (v := .bool rem) (by omega) (by rw [← hW]; simp [go_sem])
      have m03 := fun s : InW W0 => s.cell (b := w.heap.size) (o := 3) (v := .int .i64 dlc) (by omega) (by rw [← hW]; simp [go_sem])
      have m04 := fun s : InW W0 => s.cell (b := w.heap.size) (o := 4) (v := .string data) (by omega) (by rw [← hW]; simp [go_sem])
      have m10 := fun s : InW W0 => s.cell (b := w.heap.size + 1) (o := 0) (v := .int .u32 id') (by omega) (by rw [← hW]; simp [go_sem])
      have m11 := fun s : InW W0 => s.cell (b := w.heap.size + 1) (o := 1) (v := .bool ext') (by omega) (by rw [← hW]; simp [go_sem])
      have m12 := fun s : InW W0 => s.cell (b := w.heap.size + 1) (o := 2) (v := .bool rem') (by omega) (by rw [← hW]; simp [go_sem])
      have m13 := fun s : InW W0 => s.cell (b := w.heap.size + 1) (o := 3) (v := .int .i64 dlc') (by omega) (by rw [← hW]; simp [go_sem])
      have m14 := fun s : InW W0 => s.cell (b := w.heap.size + 1) (o := 4) (v := .string data') (by omega) (by rw [← hW]; simp [go_sem])
      have Z0 := hide z0
      clear hW z0
      repeat (go_big_quiet_step (first | (go_at_call 30; with_reducible exact tame_of (RF.out _)) | (go_at_call 30; exact tame_of (RG.out _)) | (go_at_call 80; with_reducible exact tame_of (FF'.out _)) | (go_at_call 80; exact tame_of (FG'.out _))))
      refine wpQuiet_nil ?_
      rintro _ ⟨s, rfl⟩
      have hs := s.h
      clear m00 m01 m02 m03 m04 m10 m11 m12 m13 m14
      go_wp2
      go_ret
      exact ⟨rfl, q0.trans (hs.mono (by have := Z0.out; omega))⟩

def FrR (w : World) (B : Nat) (A : Option Addr) (l : List Fr) : Prop := Rd w B A 5 (l.map frc)
theorem FrR.at_ {w : World} {B : Nat} {A : Option Addr} {l : List Fr} (h : FrR w B A l) {k : Nat} (hk : k < l.length) :
    ∃ b off, A = some ⟨b, off, none⟩ ∧ b < B ∧ w.cell? ⟨b, off + k * 5, none⟩ = some (.int .u32 l[k].id) ∧ w.cell? ⟨b, off + k * 5 + 1, none⟩ = some (.bool l[k].ext) ∧ w.cell? ⟨b, off + k * 5 + 2, none⟩ = some (.bool l[k].rem) ∧
      w.cell? ⟨b, off + k * 5 + 3, none⟩ = some (.int .i64 l[k].dlc) ∧ w.cell? ⟨b, off + k * 5 + 4, none⟩ = some (.string l[k].data) := by
  obtain ⟨b, off, e, hb, hc⟩ := h (by rw [List.length_map]; omega)
  have hx : (l.map frc)[k]? = some (frc l[k]) := by simp [hk]
  exact ⟨b, off, e, hb, hc k _ 0 _ hx rfl, hc k _ 1 _ hx rfl, hc k _ 2 _ hx rfl, hc k _ 3 _ hx rfl, hc k _ 4 _ hx rfl⟩
theorem FrR.next {w w' : World} {B : Nat} {A : Option Addr} {l : List Fr} (h : FrR w B A l) (hb : Below B w w') (hB : B ≤ w'.heap.size) : FrR w' w'.heap.size A l := Rd.next h hb hB

def wellB (l : List Fr) : Bool := l.all FP.rightB

/-- The first place; -1: none. -/
def idxF (p : Fr → Bool) (l : List Fr) : Int := if l.all (fun f => !p f) then -1 else ((l.findIdx p : Nat) : Int)

theorem idxF_nonneg (p : Fr → Bool) (l : List Fr) : 0 ≤ idxF p l ↔ l.any p = true := by
  unfold idxF
  by_cases h : l.all (fun f => !p f) = true
  · rw [if_pos h]
    have : l.any p = false := by
      rw [List.any_eq_false]
      intro x hx
      have := List.all_eq_true.1 h x hx
      simpa using this
    simp [this]
  · rw [if_neg h]
    have h' : l.all (fun f => !p f) = false := by simpa using h
    obtain ⟨x, hx, hp⟩ := List.all_eq_false.1 h'
    have : l.any p = true := List.any_eq_true.2 ⟨x, hx, by simpa using hp⟩
    simp [this]

theorem well_not (l : List Fr) : (l.any fun f => !FP.rightB f) = !wellB l := by
  unfold wellB
  induction l with
  | nil => rfl
  | cons x l ih => simp only [List.any_cons, List.all_cons, ih]; cases FP.rightB x <;> simp

end Go.Proofs.YtkfedgjepiljiaaDoor
