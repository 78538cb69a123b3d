/- Plain: what is known of a frame that comes, bit by bit; nothing of the program. -/
import Derived.Test.YtkfedgjepiljiaaDoorRdQ
import Derived.Ground.NamesProg
import Derived.Shelf.Strings.SlTrimAscii
import Derived.Test.YtkfedgjepiljiaaDoorChecked
import Derived.Test.YtkfedgjepiljiaaDoorMgBxL
import Derived.Test.YtkfedgjepiljiaaDoorMgCrP
import Derived.Test.YtkfedgjepiljiaaDoorOrdL
import Derived.Test.YtkfedgjepiljiaaDoorOwS
import Derived.Laws.BitsAllLaws
namespace Go.Proofs.YtkfedgjepiljiaaDoor.FP

structure RS where
  last : UInt8
  n : Nat
  got : List UInt8
def rsStep (s : RS) (c : UInt8) : RS := ⟨c, uN s.last s.n c, if uK s.last s.n c = 1 then s.got ++ [c] else s.got⟩
def rs0 : RS := ⟨0, 0, []⟩
def rsOf (l : List UInt8) : RS := l.foldl rsStep rs0
theorem rsOf_snoc (l : List UInt8) (c : UInt8) : rsOf (l ++ [c]) = rsStep (rsOf l) c := by simp [rsOf]
/-- Whether bits are a frame's, with its sum. -/
def goodB (l : List UInt8) : Bool := decide (15 ≤ l.length) && decide (crcOf l = 0) && readB (headOf l)
/-- A frame's bits that are stuffed. -/
def bodyF (f : Fr) : List UInt8 := stuffF (sumF (headF f))

/-- Behind a beginning of the stuffed bits of a whole row: what is known, and the next bit. -/
structure Fol (l : List UInt8) (r : RS) (nx : Option UInt8) : Prop where
  pre : ∃ m, r.got ++ m = l
  done : doneB r.got r.n = true ↔ nx = none
  all : nx = none → r.got = l
  err : ∀ c, nx = some c → uK r.last r.n c ≠ 3
  form : ∀ c, nx = some c → uK r.last r.n c = 1 → badB (r.got ++ [c]) = false

theorem fol_tl {l : List UInt8} (H : Full l) : ∀ (m b : List UInt8) (last : UInt8) (n j : Nat), b ++ m = l → n < 5 → j ≤ (tlF last n m).length → Fol l (((tlF last n m).take j).foldl rsStep ⟨last, n, b⟩) (tlF last n m)[j]?
  | [], b, last, n, j, e, hn, hj => by
    rw [List.append_nil] at e
    subst e
    have : j = 0 := by simpa [tlF] using hj
    subst this
    simp only [tlF, List.take_nil, List.foldl_nil]
    exact ⟨⟨[], by simp⟩, ⟨fun _ => rfl, fun _ => H.done hn⟩, fun _ => rfl, (fun c h => by simp at h), (fun c h => by simp at h)⟩
  | c :: m, b, last, n, j, e, hn, hj => by
    obtain ⟨h1, h2⟩ := H.notYet e n
    obtain ⟨u1, u2⟩ := uN_less hn (last := last) c
    have hc : c = 48 ∨ c = 49 := H.bits c (by rw [← e]; simp)
    have e' : (b ++ [c]) ++ m = l := by rw [← e]; simp
    have st : rsStep ⟨last, n, b⟩ c = ⟨c, if c = last then n + 1 else 1, b ++ [c]⟩ := by
      unfold rsStep
      rw [u1, u2, if_pos rfl]
    match j with
    | 0 =>
      have hx : (tlF last n (c :: m))[0]? = some c := by
        by_cases h5 : (if c = last then n + 1 else 1) = 5
        · rw [tlF_five h5]; rfl
        · rw [tlF_less h5]; rfl
      rw [hx, List.take_zero, List.foldl_nil]
      refine ⟨⟨c :: m, e⟩, ⟨(fun h => by rw [h1] at h; cases h), (fun h => by cases h)⟩, (fun h => by cases h), fun d hd => ?_, fun d hd _ => ?_⟩
      · cases hd; rw [u2]; decide
      · cases hd; exact h2
    | j + 1 =>
      by_cases h5 : (if c = last then n + 1 else 1) = 5
      · rw [tlF_five h5] at hj ⊢
        rw [List.take_succ_cons, List.foldl_cons, st, h5]
        obtain ⟨v1, v2⟩ := uN_five hc
        have hd : doneB (b ++ [c]) 5 = false := by unfold doneB; simp
        match j with
        | 0 =>
          rw [List.take_zero, List.foldl_nil]
          refine ⟨⟨m, e'⟩, ⟨(fun h => by rw [hd] at h; cases h), (fun h => by cases h)⟩, (fun h => by cases h), fun d hd => ?_, fun d hd hk => ?_⟩
          · cases hd; rw [v2]; decide
          · cases hd; rw [v2] at hk; cases hk
        | j + 1 =>
          have st2 : rsStep ⟨c, 5, b ++ [c]⟩ (oth c) = ⟨oth c, 1, b ++ [c]⟩ := by
            unfold rsStep
            rw [v1, v2, if_neg (by decide)]
          rw [List.take_succ_cons, List.foldl_cons, st2]
          have := fol_tl H m (b ++ [c]) (oth c) 1 j e' (by omega) (by simp only [List.length_cons] at hj; omega)
          simpa using this
      · rw [tlF_less h5] at hj ⊢
        rw [List.take_succ_cons, List.foldl_cons, st]
        have := fol_tl H m (b ++ [c]) c _ j e' (ite_lt5 hn h5) (by simp only [List.length_cons] at hj; omega)
        simpa using this

theorem fol_body {f : Fr} (hr : rightB f = true) {j : Nat} (hj : j ≤ (bodyF f).length) : Fol (sumF (headF f)) (rsOf ((bodyF f).take j)) (bodyF f)[j]? := by
  have := fol_tl (full_of hr) (sumF (headF f)) [] 0 0 j rfl (by omega) (by unfold bodyF at hj; rw [stuffF_tl] at hj; exact hj)
  unfold bodyF rsOf rs0
  rw [stuffF_tl]
  exact this
theorem body_take (f : Fr) (j : Nat) (hj : j ≤ (bodyF f).length) : (bitsF f).take j = (bodyF f).take j := by
  show (bodyF f ++ tenF).take j = _
  rw [List.take_append_of_le_length hj]
theorem body_get (f : Fr) (j : Nat) (hj : j < (bodyF f).length) : (bitsF f)[j]? = (bodyF f)[j]? := by
  show (bodyF f ++ tenF)[j]? = _
  rw [List.getElem?_append_left hj]
theorem body_len (f : Fr) : (bitsF f).length = (bodyF f).length + 10 := by
  show (bodyF f ++ tenF).length = _
  simp [tenF]
theorem body_first (f : Fr) : ∃ m, bodyF f = 48 :: m := by
  have hh : sumF (headF f) = 48 :: (sumF (headF f)).tail := by unfold sumF headF; rfl
  unfold bodyF
  rw [stuffF_tl, hh, tlF_less (by decide)]
  exact ⟨_, rfl⟩
theorem bits_first (f : Fr) : (bitsF f).take 1 = [48] := by
  obtain ⟨m, h⟩ := body_first f
  show (bodyF f ++ tenF).take 1 = _
  rw [h]; rfl
theorem body_ge {f : Fr} (hr : rightB f = true) : 34 ≤ (bodyF f).length := (bits_len hr).1
theorem body_le {f : Fr} (hr : rightB f = true) : (bodyF f).length ≤ 147 := by
  have h1 := (bits_len hr).2.1
  have h2 := head_le hr
  show (stuffF (sumF (headF f))).length ≤ 147
  omega

theorem uK_not3 {last : UInt8} {n : Nat} {c : UInt8} (h : n < 5) : uK last n c = 1 := (uN_less h c).2
theorem uK1_lt {last : UInt8} {n : Nat} {c : UInt8} (hn : n ≤ 5) (h : uK last n c = 1) : n < 5 := by
  unfold uK at h
  by_cases e : n = 5
  · rw [if_pos e] at h; split at h <;> omega
  · omega
theorem sizeE_or' (l : List UInt8) : sizeE l = 0 ∨ sizeE l = 3 ∨ sizeE l = 12 := by unfold sizeE; split; simp; split; simp; split <;> simp
theorem size3_short {l : List UInt8} (h : sizeE l = 3) : l.length < 14 ∨ l.length < fxN l := by
  unfold sizeE at h
  split at h
  · left; assumption
  · split at h
    · right; assumption
    · split at h <;> omega
/-- A bit more: how long it may be, where its size is told. -/
theorem le_snoc {l : List UInt8} {c : UInt8} {n : Nat} (hs : sizeE l ≠ 12) (hl : sizeE l = 0 → l.length ≤ sizeV l + 15) (hd : doneB l n = false) (hn : n < 5) (h0 : sizeE (l ++ [c]) = 0) : (l ++ [c]).length ≤ sizeV (l ++ [c]) + 15 := by
  rcases sizeE_or' l with h | h | h
  · have h1 := hl h
    have h2 := (size_append [c] (.inl h)).2
    rw [h2, List.length_append, List.length_singleton]
    have : l.length ≠ sizeV l + 15 := by
      intro e
      unfold doneB at hd
      rw [decide_eq_true h, decide_eq_true e, decide_eq_true hn] at hd
      cases hd
    omega
  · have h1 := size3_short h
    have h2 := sizeV_ge h0
    have h3 := fxN_or (l ++ [c])
    have h4 := fxN_or l
    rw [List.length_append, List.length_singleton]
    rcases h1 with h1 | h1
    · omega
    · by_cases h14 : 14 ≤ l.length
      · have := fxN_append (r := [c]) h14
        omega
      · omega
  · exact absurd h hs
theorem got_most {l : List UInt8} (hs : sizeE l ≠ 12) (hl : sizeE l = 0 → l.length ≤ sizeV l + 15) : l.length ≤ 118 := by
  rcases sizeE_or' l with h | h | h
  · have := hl h
    have := sizeV_bd l
    omega
  · have h1 := size3_short h
    have h4 := fxN_or l
    omega
  · exact absurd h hs
theorem done_one : doneB [48] 1 = false := by decide
theorem size_one : sizeE [48] = 3 := by decide
theorem good_sum {f : Fr} (hr : rightB f = true) : goodB (sumF (headF f)) = true := by
  have F := full_of hr
  have h15 : 15 ≤ (sumF (headF f)).length := by rw [sum_length]; omega
  unfold goodB
  rw [decide_eq_true h15, headOf_sum, read_head hr, decide_eq_true ((crc_law h15 F.bits).2 (by rw [headOf_sum]))]
  rfl
end Go.Proofs.YtkfedgjepiljiaaDoor.FP

/-
  DERIVED: THE SHELF's CONTRACTS AT THIS DUMP, IN PLAIN WORDS (tools/lay-plain.mjs out of 'TrydShelf.lean', which tools/lay-shelf.mjs wrote): THE SAME DECLARATIONS UNDER THE SAME NAMES: 'import', 'namespace', 'open', 'def', 'theorem' AND NOTHING ELSE: no command of the shelf's: FOR A HAND-IN. Each laying: the table of numbers ('.._ren') and one theorem, a field a fact of the dump's own or the kernel's comparison; each contract: ONE APPLICATION.
-/
namespace Go.Proofs
open Go.Shelf
def Tryd.lays161_ren : Go.Shelf.Ren := ⟨fun | 161 => 55 | 231 => 66 | 227 => 67 | 233 => 68 | 235 => 69 | 228 => 81 | 197 => 82 | 151 => 83 | 260 => 89 | 152 => 90 | 137 => 92 | 119 => 93 | 224 => 94 | 225 => 95 | 217 => 96 | 266 => 97 | n => n, fun | 9 => 9 | 4 => 4 | 3 => 3 | 5 => 5 | 117 => 118 | 116 => 117 | 0 => 0 | 124 => 121 | 105 => 145 | 21 => 21 | 119 => 155 | 46 => 114 | 139 => 158 | 138 => 157 | n => n, fun | 3 => 0 | 4 => 1 | n => n⟩
theorem Tryd.lays161 : Go.Proofs.Lays.n161 Tryd.prog Tryd.lays161_ren := {
  mixed := by kernel_rfl
  f119 := Tryd.func93.trans (congrArg some (by kernel_rfl))
  f137 := Tryd.func92.trans (congrArg some (by kernel_rfl))
  f151 := Tryd.func83.trans (congrArg some (by kernel_rfl))
  f152 := Tryd.func90.trans (congrArg some (by kernel_rfl))
  f161 := Tryd.func55.trans (congrArg some (by kernel_rfl))
  f197 := Tryd.func82.trans (congrArg some (by kernel_rfl))
  f217 := Tryd.func96.trans (congrArg some (by kernel_rfl))
  f224 := Tryd.func94.trans (congrArg some (by kernel_rfl))
  f225 := Tryd.func95.trans (congrArg some (by kernel_rfl))
  f227 := Tryd.func67.trans (congrArg some (by kernel_rfl))
  f228 := Tryd.func81.trans (congrArg some (by kernel_rfl))
  f231 := Tryd.func66.trans (congrArg some (by kernel_rfl))
  f233 := Tryd.func68.trans (congrArg some (by kernel_rfl))
  f235 := Tryd.func69.trans (congrArg some (by kernel_rfl))
  f260 := Tryd.func89.trans (congrArg some (by kernel_rfl))
  f266 := Tryd.func97.trans (congrArg some (by kernel_rfl))
  t0 := Tryd.underlying0
  a0 := Tryd.isAgg0
  z0 := Tryd.sizeOf0
  v0 := Tryd.zeroValue0
  t3 := Tryd.underlying3
  a3 := Tryd.isAgg3
  z3 := Tryd.sizeOf3
  v3 := Tryd.zeroValue3
  t4 := Tryd.underlying4
  a4 := Tryd.isAgg4
  z4 := Tryd.sizeOf4
  v4 := Tryd.zeroValue4
  t5 := Tryd.underlying5
  a5 := Tryd.isAgg5
  z5 := Tryd.sizeOf5
  v5 := Tryd.zeroValue5
  t9 := Tryd.underlying9
  a9 := Tryd.isAgg9
  z9 := Tryd.sizeOf9
  v9 := Tryd.zeroValue9
  t21 := Tryd.underlying21
  a21 := Tryd.isAgg21
  z21 := Tryd.sizeOf21
  v21 := Tryd.zeroValue21
  t46 := Tryd.underlying114
  a46 := Tryd.isAgg114
  z46 := Tryd.sizeOf114
  v46 := Tryd.zeroValue114
  t105 := Tryd.underlying145
  a105 := Tryd.isAgg145
  z105 := Tryd.sizeOf145
  v105 := Tryd.zeroValue145
  t116 := Tryd.underlying117
  a116 := Tryd.isAgg117
  z116 := Tryd.sizeOf117
  t117 := Tryd.underlying118
  a117 := Tryd.isAgg118
  z117 := Tryd.sizeOf118
  v117 := Tryd.zeroValue118
  t119 := Tryd.underlying155
  a119 := Tryd.isAgg155
  z119 := Tryd.sizeOf155
  t124 := Tryd.underlying121
  a124 := Tryd.isAgg121
  z124 := Tryd.sizeOf121
  v124 := Tryd.zeroValue121
  t138 := Tryd.underlying157
  a138 := Tryd.isAgg157
  z138 := Tryd.sizeOf157
  v138 := Tryd.zeroValue157
  t139 := Tryd.underlying158
  a139 := Tryd.isAgg158
  z139 := Tryd.sizeOf158
  v139 := Tryd.zeroValue158
  g3 := by kernel_rfl
  g4 := by kernel_rfl }
end Go.Proofs

/- The walks of package bits' Right and Number. -/
namespace Go.Proofs.YtkfedgjepiljiaaDoor
open Go.ChangeShapes Go.WideShapes Go.ChangeAt Go.RowKit
open FP (numOf)

/-- A row of bits. -/
def bitRow (l : List UInt8) : Bool := decide (l.length ≤ 4000) && l.all (fun c => c == 48 || c == 49)
theorem bitRow_iff {l : List UInt8} : bitRow l = true ↔ l.length ≤ 4000 ∧ ∀ c ∈ l, c = 48 ∨ c = 49 := by
  unfold bitRow
  simp
theorem dropWhile_nil {α : Type} (p : α → Bool) : ∀ l : List α, l.dropWhile p = [] ↔ ∀ c ∈ l, p c = true
  | [] => by simp
  | a :: l => by
    have ih := dropWhile_nil p l
    rw [List.dropWhile_cons]
    by_cases h : p a = true
    · rw [if_pos h, ih]; simp [h]
    · rw [if_neg h]; simp [h]
theorem trim_all {l : List UInt8} (h : l.all (fun c => c == 48 || c == 49) = true) : Lib.trimLeftS l [48, 49] = [] := by
  unfold Lib.trimLeftS
  rw [dropWhile_nil]
  intro c hc
  have := List.all_eq_true.1 h c hc
  simpa using this
theorem trim_not {l : List UInt8} (h : l.all (fun c => c == 48 || c == 49) = false) : Lib.trimLeftS l [48, 49] ≠ [] := by
  unfold Lib.trimLeftS
  intro h2
  rw [dropWhile_nil] at h2
  have : l.all (fun c => c == 48 || c == 49) = true := List.all_eq_true.2 fun c hc => by
    have := h2 c hc
    simpa using this
  rw [h] at this
  exact absurd this (by decide)

theorem trim_any (s : ByteArray) (w : World) :
    Calls Tryd.prog 55 #[.string s, .string ⟨#[48, 49]⟩] w fun e w' => e = .returned (.string ⟨(Lib.trimLeftS s.data.toList [48, 49]).toArray⟩) ∧ Below w.heap.size w w' :=
  Any.strings_TrimLeft_laid Tryd.lays161 (by kernel_rfl) s ⟨#[48, 49]⟩ w (by decide) (ascii_of_all (by decide))

set_option maxRecDepth 100000 in
set_option maxHeartbeats 1000000 in
theorem bitsRight_any (s : ByteArray) (w : World) (hs : s.size ≤ maxLen) :
    Calls Tryd.prog 42 #[.string s] w fun e w' => e = .returned (.bool (bitRow s.data.toList)) ∧ Below w.heap.size w w' := by
  unfold maxLen at hs
  have LS := hide (show s.data.toList.length = s.size from Array.length_toList)
  by_cases h4 : s.size ≤ 4000
  · have T := hide (fun W => trim_any s W)
    have h4' : (s.size : Int) ≤ 4000 := by omega
    rcases ha : s.data.toList.all (fun c => c == 48 || c == 49) with _ | _
    · have E := hide (trim_not ha)
      have B : bitRow s.data.toList = false := by unfold bitRow; rw [ha]; simp
      rw [B]
      clear B ha
      generalize hl : Lib.trimLeftS s.data.toList [48, 49] = l at *
      have e1 : (⟨l.toArray⟩ : ByteArray).toList.isEmpty = false := by
        rw [Lib.toList_data]
        cases l with
        | nil => exact absurd rfl E.out
        | cons a l => rfl
      have e3 : (!(⟨l.toArray⟩ : ByteArray).toList.isEmpty) = true := by rw [e1]; rfl
      have e4 : ¬ (⟨l.toArray⟩ : ByteArray).toList = [] := fun h => by rw [h] at e1; exact absurd e1 (by decide)
      clear hl E
      generalize (⟨l.toArray⟩ : ByteArray) = r at *
      go_enter Tryd.func42, Tryd.ntmps42
      go_wp2_with (go_at_call 55; refine (T.out _).mono ?_; rintro e1 w1 ⟨rfl, q1⟩)
      go_ret
      exact ⟨rfl, q1⟩
    · have E := trim_all ha
      have B : bitRow s.data.toList = true := by unfold bitRow; rw [ha, LS.out]; simp [h4]
      rw [B]
      rw [E] at T
      clear B ha E
      go_enter Tryd.func42, Tryd.ntmps42
      go_wp2_with (go_at_call 55; refine (T.out _).mono ?_; rintro e1 w1 ⟨rfl, q1⟩)
      go_ret
      exact ⟨rfl, q1⟩
  · have B : bitRow s.data.toList = false := by unfold bitRow; rw [LS.out]; simp [h4]
    rw [B]
    have h4' : ¬ (s.size : Int) ≤ 4000 := by omega
    go_enter Tryd.func42, Tryd.ntmps42
    go_wp2_with fail
    go_ret
    exact ⟨rfl, Below.refl _ _⟩
end Go.Proofs.YtkfedgjepiljiaaDoor

/- The walks of package crc. -/
namespace Go.Proofs.YtkfedgjepiljiaaDoor
open Go.ChangeShapes Go.WideShapes Go.ChangeAt Go.RowKit
open FP (bitsOf crcOf crcStep sumF)

theorem crcStep_lo (r : Nat) (c : UInt8) (h : (r.testBit 14) = (c == 49)) : crcStep r c = 2 * r % 32768 := by
  unfold crcStep; rw [h]; simp
theorem crcStep_hi (r : Nat) (c : UInt8) (h : (r.testBit 14) = !(c == 49)) : crcStep r c = (2 * r % 32768) ^^^ 17817 := by
  unfold crcStep; rw [h]; cases c == 49 <;> simp
theorem testBit14 (r : Nat) (h : r < 32768) : r.testBit 14 = decide (r / 16384 = 1) := by
  rw [Nat.testBit_eq_decide_div_mod_eq]
  apply decide_eq_decide.2
  have : (2 : Nat) ^ 14 = 16384 := rfl
  rw [this]
  omega

theorem grown_set (W : World) (b j : Nat) (v : Value) : W.grownBy (W.setCell ⟨b, j, none⟩ v) (some b) :=
  ⟨rfl, rfl, rfl, by simp [World.setCell], fun k _ hne => by
    have hk : k ≠ b := fun e => hne (by rw [e])
    simp [World.setCell, Array.getElem?_modify, Ne.symm hk]⟩
theorem and15 (r : Nat) (h : r < 32768) : bits .and .u32 ((r : Int) * 2) 32767 = ((2 * r % 32768 : Nat) : Int) := by
  have h := u32_and_nat (2 * r) 32767 (by omega) (by omega)
  rw [show ((32767 : Nat) : Int) = 32767 from rfl] at h
  rw [show (r : Int) * 2 = ((2 * r : Nat) : Int) by omega, h, show (32767 : Nat) = 2 ^ 15 - 1 by decide, Nat.and_two_pow_sub_one_eq_mod]
theorem xor15 (x : Nat) (h : x < 32768) : bits .xor .u32 (x : Int) 17817 = ((x ^^^ 17817 : Nat) : Int) := by
  have h := u32_xor_nat x 17817 (by omega) (by omega)
  rw [show ((17817 : Nat) : Int) = 17817 from rfl] at h
  exact h
theorem top15 (r : Nat) (h : r < 32768) : bits .and .u32 ((r : Int) / 16384) 1 = if r.testBit 14 then 1 else 0 := by
  have e := u32_and_nat (r / 16384) 1 (by omega) (by omega)
  rw [show ((1 : Nat) : Int) = 1 from rfl, show ((r / 16384 : Nat) : Int) = (r : Int) / 16384 by omega] at e
  rw [e, Nat.and_one_is_mod, testBit14 r h]
  by_cases h1 : r / 16384 = 1
  · rw [decide_eq_true h1, if_pos rfl]; omega
  · rw [decide_eq_false h1, if_neg (by decide)]; omega

set_option maxRecDepth 100000 in
set_option maxHeartbeats 1000000 in
theorem crcStep_any (r : Nat) (c : UInt8) (w : World) (hr : r < 32768) :
    Calls Tryd.prog 86 #[.int .u32 r, .int .u8 c.toNat] w fun e w' => e = .returned (.int .u32 (crcStep r c : Nat)) ∧ w = w' := by
  have T := top15 r hr
  have A := hide (and15 r hr)
  have X := hide (xor15 (2 * r % 32768) (by omega))
  have ec : ((c.toNat : Int) == 49) = (c == 49) := by
    rw [Bool.eq_iff_iff, beq_iff_eq, beq_iff_eq]
    constructor
    · intro e; exact UInt8.toNat_inj.1 (by simpa using (by omega : c.toNat = 49))
    · rintro rfl; rfl
  have LO := hide (crcStep_lo r c)
  have HI := hide (crcStep_hi r c)
  generalize crcStep r c = res at *
  rcases ht : r.testBit 14 with _ | _ <;> rcases hc : (c == 49) with _ | _
  all_goals
    rw [ht] at T
    rw [hc] at ec
    simp only [if_true, if_false, Bool.false_eq_true] at T
    have HT := hide ht
    have HC := hide hc
    clear ht hc
    go_enter Tryd.func86, Tryd.ntmps86
    go_wp2
    go_ret
    refine ⟨ret_int ?_, rfl⟩
    first
      | (rw [LO.out (by simp [HT.out, HC.out])]; exact A.out)
      | (rw [HI.out (by simp [HT.out, HC.out]), ← X.out, ← A.out])

/-- A sum's variable is one block; going through a row writes it alone. -/
def EachP (b : Nat) (l : List UInt8) (w : World) (e : Ending) (w' : World) : Prop :=
  e = .returned (.tuple #[]) ∧ w'.heap[b]? = some (.cells #[.int .u32 (crcOf l : Nat)] 22 (0, 0)) ∧ w.grownBy w' (some b)

set_option maxRecDepth 100000 in
set_option maxHeartbeats 1000000 in
theorem sumStep_any (b r : Nat) (c : UInt8) (w : World) (hr : r < 32768) (h : w.heap[b]? = some (.cells #[.int .u32 r] 22 (0, 0))) :
    Calls Tryd.prog 85 #[.int .u8 c.toNat, .pointer (some ⟨b, 0, none⟩)] w fun e w' => e = .returned (.tuple #[]) ∧ w' = w.setCell ⟨b, 0, none⟩ (.int .u32 (crcStep r c : Nat)) := by
  have c0 : w.cell? ⟨b, 0, none⟩ = some (.int .u32 r) := by simp [World.cell?, h]
  have fz : w.frozen? ⟨b, 0, none⟩ = false := by simp [World.frozen?, h]
  clear h
  go_enter Tryd.func85, Tryd.ntmps85
  go_wp2_with fail
  refine (crcStep_any r c w hr).mono ?_
  rintro e1 w1 ⟨rfl, rfl⟩
  go_wp2
  go_end0
  exact ⟨rfl, rfl⟩

set_option maxRecDepth 100000 in
set_option maxHeartbeats 1000000 in
theorem each_any (s : ByteArray) (b : Nat) (w : World) (hs : s.size ≤ 4000) (h : w.heap[b]? = some (.cells #[.int .u32 0] 22 (0, 0))) :
    Calls Tryd.prog 84 #[.string s, .func (Fn.func 85) #[] #[.pointer (some ⟨b, 0, none⟩)]] w (EachP b s.data.toList w) := by
  have LS := hide (show s.data.toList.length = s.size from Array.length_toList)
  have AT := hide (fun j (hj : j < s.size) => show crcOf (s.data.toList.take (j + 1)) = crcStep (crcOf (s.data.toList.take j)) s[j] from by rw [List.take_succ_eq_append_getElem (by rw [LS.out]; exact hj), FP.crcOf_snoc]; rfl)
  have E := hide (show s.data.toList.take s.size = s.data.toList from List.take_of_length_le (by rw [LS.out]; exact Nat.le_refl _))
  have H := hide h
  clear h
  go_enter Tryd.func84, Tryd.ntmps84
  go_wp2_with fail
  go_loopw [7] (fun i W => ∃ k : Nat, k ≤ s.size ∧ i = .int .i64 k ∧ Hid (W.heap[b]? = some (.cells #[.int .u32 (crcOf (s.data.toList.take k) : Nat)] 22 (0, 0)) ∧ w.grownBy W (some b))) (fun i _ => s.size - (intOf i).toNat)
  case atStart => exact ⟨0, Nat.zero_le _, rfl, hide ⟨H.out, grownBy_refl _ _⟩⟩
  case round =>
    clear H
    obtain ⟨k, hk, rfl, H⟩ := hrel
    by_cases hlt : k < s.size
    · have A := hide (AT.out k hlt)
      have L := hide (FP.crcOf_lt (s.data.toList.take k))
      go_wp2_with fail
      refine (sumStep_any b _ s[k] wr L.out H.out.1).mono ?_
      rintro e1 w1 ⟨rfl, rfl⟩
      have NX : Hid ((wr.setCell ⟨b, 0, none⟩ (.int .u32 (crcStep (crcOf (s.data.toList.take k)) s[k] : Nat))).heap[b]? = some (.cells #[.int .u32 (crcOf (s.data.toList.take (k + 1)) : Nat)] 22 (0, 0)) ∧ w.grownBy (wr.setCell ⟨b, 0, none⟩ (.int .u32 (crcStep (crcOf (s.data.toList.take k)) s[k] : Nat))) (some b)) := by
        rw [A.out]
        refine hide ⟨?_, grownBy_trans H.out.2 (grown_set _ _ _ _)⟩
        have := heap_setCell_same wr b 0 _ 22 (.int .u32 (crcStep (crcOf (s.data.toList.take k)) s[k] : Nat)) H.out.1
        simpa using this
      generalize wr.setCell ⟨b, 0, none⟩ (.int .u32 (crcStep (crcOf (s.data.toList.take k)) s[k] : Nat)) = w2 at *
      clear H A
      go_wp2
      go_roundw
      case rel => exact ⟨k + 1, by omega, by go_num, NX⟩
      case measure => simp [intOf]; omega
    · obtain rfl : k = s.size := by omega
      rw [E.out] at H
      go_wp2
      go_end0
      exact ⟨rfl, H.out⟩

set_option maxRecDepth 100000 in
set_option maxHeartbeats 1000000 in
theorem crcOf_any (s : ByteArray) (w : World) (hb : bitRow s.data.toList = true) (hs : s.size ≤ 4000) :
    Calls Tryd.prog 70 #[.string s] w fun e w' => e = .returned (.tuple #[.int .u32 (crcOf s.data.toList : Nat), .int .i64 0]) ∧ Below w.heap.size w w' := by
  have BR := hide (fun W => bitsRight_any s W (by unfold maxLen; omega))
  rw [hb] at BR
  clear hb
  go_enter Tryd.func70, Tryd.ntmps70
  go_wp2_with fail
  refine (BR.out _).mono ?_
  rintro e1 w1 ⟨rfl, q1⟩
  have Q1 := hide q1
  have H0 := hide (World.alloc_heap_new w1 (.cells #[.int .u32 0] 22))
  clear q1
  go_wp2_with fail
  refine (each_any s w1.heap.size _ hs H0.out).mono ?_
  rintro e2 w2 ⟨rfl, h2, g2⟩
  have Q2 := hide (Below.grown (Q1.out.alloc Q1.out.size (.cells #[.int .u32 0] 22)) g2 (by have := Q1.out.size; simp; omega) (fun k hk => by have := Q1.out.size; simp only [Option.some.injEq] at hk; omega))
  have c2 : w2.cell? ⟨w1.heap.size, 0, none⟩ = some (.int .u32 (crcOf s.data.toList : Nat)) := by simp [World.cell?, h2]
  clear h2 g2
  go_wp2_with fail
  go_ret2
  exact ⟨rfl, Q2.out⟩

set_option maxRecDepth 100000 in
set_option maxHeartbeats 1000000 in
theorem crcFrame_any (s : ByteArray) (w : World) (hb : bitRow s.data.toList = true) (hs : s.size ≤ 3985) :
    Calls Tryd.prog 59 #[.string s] w fun e w' => e = .returned (.tuple #[.string ⟨(sumF s.data.toList).toArray⟩, .int .i64 0]) ∧ Below w.heap.size w w' := by
  have CO := hide (fun W => crcOf_any s W hb (by omega))
  have L := FP.crcOf_lt s.data.toList
  have SF : sumF s.data.toList = s.data.toList ++ bitsOf (crcOf s.data.toList) 15 := rfl
  generalize sumF s.data.toList = sf at *
  generalize crcOf s.data.toList = r at *
  have R := hide SF
  have h39 : decide ((3985 : Int) < s.size) = false := decide_eq_false (by omega)
  clear hb SF
  have BO := hide (fun W => bitsOf_any r 15 W (by omega) (by omega))
  have hB : (⟨(bitsOf r 15).toArray⟩ : ByteArray).size = 15 := by simp [ByteArray.size, FP.bitsOf_length]
  have HB := hide (show (⟨sf.toArray⟩ : ByteArray) = s ++ ⟨(bitsOf r 15).toArray⟩ by rw [R.out]; simp [ByteArray.ext_iff])
  rw [HB.out]
  clear HB R
  generalize (⟨(bitsOf r 15).toArray⟩ : ByteArray) = bs at *
  go_enter Tryd.func59, Tryd.ntmps59
  go_wp2_with fail
  refine (CO.out _).mono ?_
  rintro e1 w1 ⟨rfl, q1⟩
  go_wp2_with fail
  refine (BO.out _).mono ?_
  rintro e2 w2 ⟨rfl, q2⟩
  have Q2 := hide (below_next q1 q1.size q2)
  clear q1 q2
  go_wp2_with fail
  go_ret2
  exact ⟨rfl, Q2.out⟩

set_option maxRecDepth 100000 in
set_option maxHeartbeats 1000000 in
theorem crcCheck_any (s : ByteArray) (w : World) (hb : bitRow s.data.toList = true) (hs : s.size ≤ 4000) :
    Calls Tryd.prog 57 #[.string s] w fun e w' => e = .returned (.bool (decide (15 ≤ s.size) && decide (crcOf s.data.toList = 0))) ∧ Below w.heap.size w w' := by
  have CO := hide (fun W => crcOf_any s W hb (by omega))
  generalize crcOf s.data.toList = r at *
  clear hb
  by_cases h15 : 15 ≤ s.size
  · have g1 : decide (15 ≤ s.size) = true := decide_eq_true h15
    rw [g1]
    have h15' : (15 : Int) ≤ s.size := by omega
    by_cases hr : r = 0
    · subst hr
      go_enter Tryd.func57, Tryd.ntmps57
      go_wp2_with fail
      refine (CO.out _).mono ?_
      rintro e1 w1 ⟨rfl, q1⟩
      go_wp2_with fail
      go_ret
      exact ⟨rfl, q1⟩
    · have g2 : decide (r = 0) = false := decide_eq_false hr
      have g3 : ((r : Int) == 0) = false := by rw [beq_eq_false_iff_ne]; omega
      rw [g2]
      clear hr
      go_enter Tryd.func57, Tryd.ntmps57
      go_wp2_with fail
      refine (CO.out _).mono ?_
      rintro e1 w1 ⟨rfl, q1⟩
      go_wp2_with fail
      go_ret
      exact ⟨rfl, q1⟩
  · have g1 : decide (15 ≤ s.size) = false := decide_eq_false h15
    rw [g1]
    have h15' : ¬ (15 : Int) ≤ s.size := by omega
    go_enter Tryd.func57, Tryd.ntmps57
    go_wp2_with fail
    refine (CO.out _).mono ?_
    rintro e1 w1 ⟨rfl, q1⟩
    go_wp2_with fail
    go_ret
    exact ⟨rfl, q1⟩
end Go.Proofs.YtkfedgjepiljiaaDoor
