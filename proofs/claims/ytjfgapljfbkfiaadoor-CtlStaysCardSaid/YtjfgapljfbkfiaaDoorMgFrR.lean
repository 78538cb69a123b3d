/- The reference's Right of a frame. -/
import Derived.Test.YtjfgapljfbkfiaaDoorMgFrPlain
import Derived.Test.YtjfgapljfbkfiaaDoorFrB
import Derived.Test.YtjfgapljfbkfiaaDoorMgIfP
import Derived.Test.YtjfgapljfbkfiaaDoorMgCrP
import Derived.Test.YtjfgapljfbkfiaaDoorOrdL
import Derived.Test.YtjfgapljfbkfiaaDoorOwS
import Derived.Laws.BitsAllLaws
namespace Go.Proofs.YtjfgapljfbkfiaaDoor
open Go.ChangeShapes Go.WideShapes Go.ChangeAt Go.RowKit
open FP (Fr)

theorem empty_iff (s : ByteArray) : s.toList = [] ↔ s.size = 0 := by
  rw [ByteArray.toList_eq]
  have : s.data.toList.length = s.size := Array.length_toList
  rw [← this, List.length_eq_zero_iff]

set_option maxRecDepth 100000 in
set_option maxHeartbeats 1000000 in
theorem refRight04_any (f : Fr) (w : World) (hid : f.id < 4294967296) :
    Calls Tryd.prog 9 #[.agg #[.int .u32 f.id, .bool f.ext, .bool f.rem, .int .i64 f.dlc, .string f.data]] w fun e w' => e = .returned (.bool (FP.rightB f)) ∧ Below w.heap.size w w' := by
  obtain ⟨id, ext, rem, dlc, data⟩ := f
  dsimp only at *
  cases ext <;> cases rem
  all_goals
    go_enter Tryd.func9, Tryd.ntmps9
    go_wp2
    all_goals
      go_ret
      refine ⟨?_, (Below.refl _ _).alloc (Nat.le_refl _) _⟩
      refine ret_bool ?_
      have hsz := empty_iff data
      unfold FP.rightB
      generalize data.size = m at *
      rw [Bool.eq_iff_iff]
      simp at *
      try (first | omega | (simp_all; done) | (simp_all; omega))

end Go.Proofs.YtjfgapljfbkfiaaDoor

/- The walks of frame.Head, and of the reference's Of, Number, Right; few and alive of the statements' package. -/
namespace Go.Proofs.YtjfgapljfbkfiaaDoor
open Go.ChangeShapes Go.WideShapes Go.ChangeAt Go.RowKit
open FP (bit bitsOf numOf Fr bitB idPart dataPart headF)

theorem str_empty : (⟨([] : List UInt8).toArray⟩ : ByteArray) = ⟨#[]⟩ := rfl

def headV (f : Fr) : ByteArray := if FP.rightB f = true then ⟨(headF f).toArray⟩ else ⟨#[]⟩
def headE (f : Fr) : Int := if FP.rightB f = true then 0 else 1

theorem bitsOf_succ (n j : Nat) : bitsOf n (j + 1) = bit (n / 2 ^ j) :: bitsOf n j := rfl
theorem div_pow (n j : Nat) : n / 2 ^ (j + 1) = n / 2 ^ j / 2 := by rw [Nat.pow_succ, Nat.div_div_eq_div_mul]

end Go.Proofs.YtjfgapljfbkfiaaDoor

/- few and alive of the frame statements. -/
namespace Go.Proofs.YtjfgapljfbkfiaaDoor
open Go.ChangeShapes Go.WideShapes Go.ChangeAt Go.RowKit
open FP (bit bitsOf Fr bitB idPart dataPart headF)

def cutF (f : Fr) : Fr := { f with data := f.data.extract 0 (min f.data.size 12) }

end Go.Proofs.YtjfgapljfbkfiaaDoor

/- The walks of package bits' Right and Number. -/
namespace Go.Proofs.YtjfgapljfbkfiaaDoor
open Go.ChangeShapes Go.WideShapes Go.ChangeAt Go.RowKit
open FP (numOf)

/-- A row of bits. -/
def bitRow (l : List UInt8) : Bool := decide (l.length ≤ 4000) && l.all (fun c => c == 48 || c == 49)
theorem bitRow_iff {l : List UInt8} : bitRow l = true ↔ l.length ≤ 4000 ∧ ∀ c ∈ l, c = 48 ∨ c = 49 := by
  unfold bitRow
  simp
theorem dropWhile_nil {α : Type} (p : α → Bool) : ∀ l : List α, l.dropWhile p = [] ↔ ∀ c ∈ l, p c = true
  | [] => by simp
  | a :: l => by
    have ih := dropWhile_nil p l
    rw [List.dropWhile_cons]
    by_cases h : p a = true
    · rw [if_pos h, ih]; simp [h]
    · rw [if_neg h]; simp [h]
theorem trim_all {l : List UInt8} (h : l.all (fun c => c == 48 || c == 49) = true) : Lib.trimLeftS l [48, 49] = [] := by
  unfold Lib.trimLeftS
  rw [dropWhile_nil]
  intro c hc
  have := List.all_eq_true.1 h c hc
  simpa using this
theorem trim_not {l : List UInt8} (h : l.all (fun c => c == 48 || c == 49) = false) : Lib.trimLeftS l [48, 49] ≠ [] := by
  unfold Lib.trimLeftS
  intro h2
  rw [dropWhile_nil] at h2
  have : l.all (fun c => c == 48 || c == 49) = true := List.all_eq_true.2 fun c hc => by
    have := h2 c hc
    simpa using this
  rw [h] at this
  exact absurd this (by decide)

theorem trim_any (s : ByteArray) (w : World) :
    Calls Tryd.prog 45 #[.string s, .string ⟨#[48, 49]⟩] w fun e w' => e = .returned (.string ⟨(Lib.trimLeftS s.data.toList [48, 49]).toArray⟩) ∧ Below w.heap.size w w' :=
  Any.strings_TrimLeft_laid Tryd.lays161 (by kernel_rfl) s ⟨#[48, 49]⟩ w (by decide) (ascii_of_all (by decide))

set_option maxRecDepth 100000 in
set_option maxHeartbeats 1000000 in
theorem bitsRight_any (s : ByteArray) (w : World) (hs : s.size ≤ maxLen) :
    Calls Tryd.prog 32 #[.string s] w fun e w' => e = .returned (.bool (bitRow s.data.toList)) ∧ Below w.heap.size w w' := by
  unfold maxLen at hs
  have LS := hide (show s.data.toList.length = s.size from Array.length_toList)
  by_cases h4 : s.size ≤ 4000
  · have T := hide (fun W => trim_any s W)
    have h4' : (s.size : Int) ≤ 4000 := by omega
    rcases ha : s.data.toList.all (fun c => c == 48 || c == 49) with _ | _
    · have E := hide (trim_not ha)
      have B : bitRow s.data.toList = false := by unfold bitRow; rw [ha]; simp
      rw [B]
      clear B ha
      generalize hl : Lib.trimLeftS s.data.toList [48, 49] = l at *
      have e1 : (⟨l.toArray⟩ : ByteArray).toList.isEmpty = false := by
        rw [Lib.toList_data]
        cases l with
        | nil => exact absurd rfl E.out
        | cons a l => rfl
      have e3 : (!(⟨l.toArray⟩ : ByteArray).toList.isEmpty) = true := by rw [e1]; rfl
      have e4 : ¬ (⟨l.toArray⟩ : ByteArray).toList = [] := fun h => by rw [h] at e1; exact absurd e1 (by decide)
      clear hl E
      generalize (⟨l.toArray⟩ : ByteArray) = r at *
      go_enter Tryd.func32, Tryd.ntmps32
      go_wp2_with (go_at_call 45; refine (T.out _).mono ?_; rintro e1 w1 ⟨rfl, q1⟩)
      go_ret
      exact ⟨rfl, q1⟩
    · have E := trim_all ha
      have B : bitRow s.data.toList = true := by unfold bitRow; rw [ha, LS.out]; simp [h4]
      rw [B]
      rw [E] at T
      clear B ha E
      go_enter Tryd.func32, Tryd.ntmps32
      go_wp2_with (go_at_call 45; refine (T.out _).mono ?_; rintro e1 w1 ⟨rfl, q1⟩)
      go_ret
      exact ⟨rfl, q1⟩
  · have B : bitRow s.data.toList = false := by unfold bitRow; rw [LS.out]; simp [h4]
    rw [B]
    have h4' : ¬ (s.size : Int) ≤ 4000 := by omega
    go_enter Tryd.func32, Tryd.ntmps32
    go_wp2_with fail
    go_ret
    exact ⟨rfl, Below.refl _ _⟩
end Go.Proofs.YtjfgapljfbkfiaaDoor

/- The walks of package crc. -/
namespace Go.Proofs.YtjfgapljfbkfiaaDoor
open Go.ChangeShapes Go.WideShapes Go.ChangeAt Go.RowKit
open FP (bitsOf crcOf crcStep sumF)

theorem crcStep_lo (r : Nat) (c : UInt8) (h : (r.testBit 14) = (c == 49)) : crcStep r c = 2 * r % 32768 := by
  unfold crcStep; rw [h]; simp
theorem crcStep_hi (r : Nat) (c : UInt8) (h : (r.testBit 14) = !(c == 49)) : crcStep r c = (2 * r % 32768) ^^^ 17817 := by
  unfold crcStep; rw [h]; cases c == 49 <;> simp
theorem testBit14 (r : Nat) (h : r < 32768) : r.testBit 14 = decide (r / 16384 = 1) := by
  rw [Nat.testBit_eq_decide_div_mod_eq]
  apply decide_eq_decide.2
  have : (2 : Nat) ^ 14 = 16384 := rfl
  rw [this]
  omega

theorem grown_set (W : World) (b j : Nat) (v : Value) : W.grownBy (W.setCell ⟨b, j, none⟩ v) (some b) :=
  ⟨rfl, rfl, rfl, by simp [World.setCell], fun k _ hne => by
    have hk : k ≠ b := fun e => hne (by rw [e])
    simp [World.setCell, Array.getElem?_modify, Ne.symm hk]⟩
theorem and15 (r : Nat) (h : r < 32768) : bits .and .u32 ((r : Int) * 2) 32767 = ((2 * r % 32768 : Nat) : Int) := by
  have h := u32_and_nat (2 * r) 32767 (by omega) (by omega)
  rw [show ((32767 : Nat) : Int) = 32767 from rfl] at h
  rw [show (r : Int) * 2 = ((2 * r : Nat) : Int) by omega, h, show (32767 : Nat) = 2 ^ 15 - 1 by decide, Nat.and_two_pow_sub_one_eq_mod]
theorem xor15 (x : Nat) (h : x < 32768) : bits .xor .u32 (x : Int) 17817 = ((x ^^^ 17817 : Nat) : Int) := by
  have h := u32_xor_nat x 17817 (by omega) (by omega)
  rw [show ((17817 : Nat) : Int) = 17817 from rfl] at h
  exact h
theorem top15 (r : Nat) (h : r < 32768) : bits .and .u32 ((r : Int) / 16384) 1 = if r.testBit 14 then 1 else 0 := by
  have e := u32_and_nat (r / 16384) 1 (by omega) (by omega)
  rw [show ((1 : Nat) : Int) = 1 from rfl, show ((r / 16384 : Nat) : Int) = (r : Int) / 16384 by omega] at e
  rw [e, Nat.and_one_is_mod, testBit14 r h]
  by_cases h1 : r / 16384 = 1
  · rw [decide_eq_true h1, if_pos rfl]; omega
  · rw [decide_eq_false h1, if_neg (by decide)]; omega

set_option maxRecDepth 100000 in
set_option maxHeartbeats 1000000 in
theorem crcStep_any (r : Nat) (c : UInt8) (w : World) (hr : r < 32768) :
    Calls Tryd.prog 79 #[.int .u32 r, .int .u8 c.toNat] w fun e w' => e = .returned (.int .u32 (crcStep r c : Nat)) ∧ w = w' := by
  have T := top15 r hr
  have A := hide (and15 r hr)
  have X := hide (xor15 (2 * r % 32768) (by omega))
  have ec : ((c.toNat : Int) == 49) = (c == 49) := by
    rw [Bool.eq_iff_iff, beq_iff_eq, beq_iff_eq]
    constructor
    · intro e; exact UInt8.toNat_inj.1 (by simpa using (by omega : c.toNat = 49))
    · rintro rfl; rfl
  have LO := hide (crcStep_lo r c)
  have HI := hide (crcStep_hi r c)
  generalize crcStep r c = res at *
  rcases ht : r.testBit 14 with _ | _ <;> rcases hc : (c == 49) with _ | _
  all_goals
    rw [ht] at T
    rw [hc] at ec
    simp only [if_true, if_false, Bool.false_eq_true] at T
    have HT := hide ht
    have HC := hide hc
    clear ht hc
    go_enter Tryd.func79, Tryd.ntmps79
    go_wp2
    go_ret
    refine ⟨ret_int ?_, rfl⟩
    first
      | (rw [LO.out (by simp [HT.out, HC.out])]; exact A.out)
      | (rw [HI.out (by simp [HT.out, HC.out]), ← X.out, ← A.out])

/-- A sum's variable is one block; going through a row writes it alone. -/
def EachP (b : Nat) (l : List UInt8) (w : World) (e : Ending) (w' : World) : Prop :=
  e = .returned (.tuple #[]) ∧ w'.heap[b]? = some (.cells #[.int .u32 (crcOf l : Nat)] 28 (0, 0)) ∧ w.grownBy w' (some b)

set_option maxRecDepth 100000 in
set_option maxHeartbeats 1000000 in
theorem sumStep_any (b r : Nat) (c : UInt8) (w : World) (hr : r < 32768) (h : w.heap[b]? = some (.cells #[.int .u32 r] 28 (0, 0))) :
    Calls Tryd.prog 78 #[.int .u8 c.toNat, .pointer (some ⟨b, 0, none⟩)] w fun e w' => e = .returned (.tuple #[]) ∧ w' = w.setCell ⟨b, 0, none⟩ (.int .u32 (crcStep r c : Nat)) := by
  have c0 : w.cell? ⟨b, 0, none⟩ = some (.int .u32 r) := by simp [World.cell?, h]
  have fz : w.frozen? ⟨b, 0, none⟩ = false := by simp [World.frozen?, h]
  clear h
  go_enter Tryd.func78, Tryd.ntmps78
  go_wp2_with fail
  refine (crcStep_any r c w hr).mono ?_
  rintro e1 w1 ⟨rfl, rfl⟩
  go_wp2
  go_end0
  exact ⟨rfl, rfl⟩

set_option maxRecDepth 100000 in
set_option maxHeartbeats 1000000 in
theorem each_any (s : ByteArray) (b : Nat) (w : World) (hs : s.size ≤ 4000) (h : w.heap[b]? = some (.cells #[.int .u32 0] 28 (0, 0))) :
    Calls Tryd.prog 77 #[.string s, .func (Fn.func 78) #[] #[.pointer (some ⟨b, 0, none⟩)]] w (EachP b s.data.toList w) := by
  have LS := hide (show s.data.toList.length = s.size from Array.length_toList)
  have AT := hide (fun j (hj : j < s.size) => show crcOf (s.data.toList.take (j + 1)) = crcStep (crcOf (s.data.toList.take j)) s[j] from by rw [List.take_succ_eq_append_getElem (by rw [LS.out]; exact hj), FP.crcOf_snoc]; rfl)
  have E := hide (show s.data.toList.take s.size = s.data.toList from List.take_of_length_le (by rw [LS.out]; exact Nat.le_refl _))
  have H := hide h
  clear h
  go_enter Tryd.func77, Tryd.ntmps77
  go_wp2_with fail
  go_loopw [7] (fun i W => ∃ k : Nat, k ≤ s.size ∧ i = .int .i64 k ∧ Hid (W.heap[b]? = some (.cells #[.int .u32 (crcOf (s.data.toList.take k) : Nat)] 28 (0, 0)) ∧ w.grownBy W (some b))) (fun i _ => s.size - (intOf i).toNat)
  case atStart => exact ⟨0, Nat.zero_le _, rfl, hide ⟨H.out, grownBy_refl _ _⟩⟩
  case round =>
    clear H
    obtain ⟨k, hk, rfl, H⟩ := hrel
    by_cases hlt : k < s.size
    · have A := hide (AT.out k hlt)
      have L := hide (FP.crcOf_lt (s.data.toList.take k))
      go_wp2_with fail
      refine (sumStep_any b _ s[k] wr L.out H.out.1).mono ?_
      rintro e1 w1 ⟨rfl, rfl⟩
      have NX : Hid ((wr.setCell ⟨b, 0, none⟩ (.int .u32 (crcStep (crcOf (s.data.toList.take k)) s[k] : Nat))).heap[b]? = some (.cells #[.int .u32 (crcOf (s.data.toList.take (k + 1)) : Nat)] 28 (0, 0)) ∧ w.grownBy (wr.setCell ⟨b, 0, none⟩ (.int .u32 (crcStep (crcOf (s.data.toList.take k)) s[k] : Nat))) (some b)) := by
        rw [A.out]
        refine hide ⟨?_, grownBy_trans H.out.2 (grown_set _ _ _ _)⟩
        have := heap_setCell_same wr b 0 _ 28 (.int .u32 (crcStep (crcOf (s.data.toList.take k)) s[k] : Nat)) H.out.1
        simpa using this
      generalize wr.setCell ⟨b, 0, none⟩ (.int .u32 (crcStep (crcOf (s.data.toList.take k)) s[k] : Nat)) = w2 at *
      clear H A
      go_wp2
      go_roundw
      case rel => exact ⟨k + 1, by omega, by go_num, NX⟩
      case measure => simp [intOf]; omega
    · obtain rfl : k = s.size := by omega
      rw [E.out] at H
      go_wp2
      go_end0
      exact ⟨rfl, H.out⟩

set_option maxRecDepth 100000 in
set_option maxHeartbeats 1000000 in
theorem crcOf_any (s : ByteArray) (w : World) (hb : bitRow s.data.toList = true) (hs : s.size ≤ 4000) :
    Calls Tryd.prog 61 #[.string s] w fun e w' => e = .returned (.tuple #[.int .u32 (crcOf s.data.toList : Nat), .int .i64 0]) ∧ Below w.heap.size w w' := by
  have BR := hide (fun W => bitsRight_any s W (by unfold maxLen; omega))
  rw [hb] at BR
  clear hb
  go_enter Tryd.func61, Tryd.ntmps61
  go_wp2_with fail
  refine (BR.out _).mono ?_
  rintro e1 w1 ⟨rfl, q1⟩
  have Q1 := hide q1
  have H0 := hide (World.alloc_heap_new w1 (.cells #[.int .u32 0] 28))
  clear q1
  go_wp2_with fail
  refine (each_any s w1.heap.size _ hs H0.out).mono ?_
  rintro e2 w2 ⟨rfl, h2, g2⟩
  have Q2 := hide (Below.grown (Q1.out.alloc Q1.out.size (.cells #[.int .u32 0] 28)) g2 (by have := Q1.out.size; simp; omega) (fun k hk => by have := Q1.out.size; simp only [Option.some.injEq] at hk; omega))
  have c2 : w2.cell? ⟨w1.heap.size, 0, none⟩ = some (.int .u32 (crcOf s.data.toList : Nat)) := by simp [World.cell?, h2]
  clear h2 g2
  go_wp2_with fail
  go_ret2
  exact ⟨rfl, Q2.out⟩

set_option maxRecDepth 100000 in
set_option maxHeartbeats 1000000 in
theorem crcFrame_any (s : ByteArray) (w : World) (hb : bitRow s.data.toList = true) (hs : s.size ≤ 3985) :
    Calls Tryd.prog 49 #[.string s] w fun e w' => e = .returned (.tuple #[.string ⟨(sumF s.data.toList).toArray⟩, .int .i64 0]) ∧ Below w.heap.size w w' := by
  have CO := hide (fun W => crcOf_any s W hb (by omega))
  have L := FP.crcOf_lt s.data.toList
  have SF : sumF s.data.toList = s.data.toList ++ bitsOf (crcOf s.data.toList) 15 := rfl
  generalize sumF s.data.toList = sf at *
  generalize crcOf s.data.toList = r at *
  have R := hide SF
  have h39 : decide ((3985 : Int) < s.size) = false := decide_eq_false (by omega)
  clear hb SF
  have BO := hide (fun W => bitsOf_any r 15 W (by omega) (by omega))
  have hB : (⟨(bitsOf r 15).toArray⟩ : ByteArray).size = 15 := by simp [ByteArray.size, FP.bitsOf_length]
  have HB := hide (show (⟨sf.toArray⟩ : ByteArray) = s ++ ⟨(bitsOf r 15).toArray⟩ by rw [R.out]; simp [ByteArray.ext_iff])
  rw [HB.out]
  clear HB R
  generalize (⟨(bitsOf r 15).toArray⟩ : ByteArray) = bs at *
  go_enter Tryd.func49, Tryd.ntmps49
  go_wp2_with fail
  refine (CO.out _).mono ?_
  rintro e1 w1 ⟨rfl, q1⟩
  go_wp2_with fail
  refine (BO.out _).mono ?_
  rintro e2 w2 ⟨rfl, q2⟩
  have Q2 := hide (below_next q1 q1.size q2)
  clear q1 q2
  go_wp2_with fail
  go_ret2
  exact ⟨rfl, Q2.out⟩

set_option maxRecDepth 100000 in
set_option maxHeartbeats 1000000 in
theorem crcCheck_any (s : ByteArray) (w : World) (hb : bitRow s.data.toList = true) (hs : s.size ≤ 4000) :
    Calls Tryd.prog 47 #[.string s] w fun e w' => e = .returned (.bool (decide (15 ≤ s.size) && decide (crcOf s.data.toList = 0))) ∧ Below w.heap.size w w' := by
  have CO := hide (fun W => crcOf_any s W hb (by omega))
  generalize crcOf s.data.toList = r at *
  clear hb
  by_cases h15 : 15 ≤ s.size
  · have g1 : decide (15 ≤ s.size) = true := decide_eq_true h15
    rw [g1]
    have h15' : (15 : Int) ≤ s.size := by omega
    by_cases hr : r = 0
    · subst hr
      go_enter Tryd.func47, Tryd.ntmps47
      go_wp2_with fail
      refine (CO.out _).mono ?_
      rintro e1 w1 ⟨rfl, q1⟩
      go_wp2_with fail
      go_ret
      exact ⟨rfl, q1⟩
    · have g2 : decide (r = 0) = false := decide_eq_false hr
      have g3 : ((r : Int) == 0) = false := by rw [beq_eq_false_iff_ne]; omega
      rw [g2]
      clear hr
      go_enter Tryd.func47, Tryd.ntmps47
      go_wp2_with fail
      refine (CO.out _).mono ?_
      rintro e1 w1 ⟨rfl, q1⟩
      go_wp2_with fail
      go_ret
      exact ⟨rfl, q1⟩
  · have g1 : decide (15 ≤ s.size) = false := decide_eq_false h15
    rw [g1]
    have h15' : ¬ (15 : Int) ≤ s.size := by omega
    go_enter Tryd.func47, Tryd.ntmps47
    go_wp2_with fail
    refine (CO.out _).mono ?_
    rintro e1 w1 ⟨rfl, q1⟩
    go_wp2_with fail
    go_ret
    exact ⟨rfl, q1⟩
end Go.Proofs.YtjfgapljfbkfiaaDoor
