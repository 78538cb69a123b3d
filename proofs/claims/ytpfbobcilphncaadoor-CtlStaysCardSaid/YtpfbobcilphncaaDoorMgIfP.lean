/- Plain: what is known of a frame that comes, bit by bit; nothing of the program. -/
import Derived.Test.YtpfbobcilphncaaDoorRdQ
import Derived.Ground.NamesProg
import Derived.Shelf.Strings.SlTrimAscii
import Derived.Test.YtpfbobcilphncaaDoorChecked
namespace Go.Proofs.YtpfbobcilphncaaDoor.FP

structure RS where
  last : UInt8
  n : Nat
  got : List UInt8
def rsStep (s : RS) (c : UInt8) : RS := ⟨c, uN s.last s.n c, if uK s.last s.n c = 1 then s.got ++ [c] else s.got⟩
def rs0 : RS := ⟨0, 0, []⟩
def rsOf (l : List UInt8) : RS := l.foldl rsStep rs0
theorem rsOf_snoc (l : List UInt8) (c : UInt8) : rsOf (l ++ [c]) = rsStep (rsOf l) c := by simp [rsOf]
/-- Whether bits are a frame's, with its sum. -/
def goodB (l : List UInt8) : Bool := decide (15 ≤ l.length) && decide (crcOf l = 0) && readB (headOf l)
/-- A frame's bits that are stuffed. -/
def bodyF (f : Fr) : List UInt8 := stuffF (sumF (headF f))

/-- Behind a beginning of the stuffed bits of a whole row: what is known, and the next bit. -/
structure Fol (l : List UInt8) (r : RS) (nx : Option UInt8) : Prop where
  pre : ∃ m, r.got ++ m = l
  done : doneB r.got r.n = true ↔ nx = none
  all : nx = none → r.got = l
  err : ∀ c, nx = some c → uK r.last r.n c ≠ 3
  form : ∀ c, nx = some c → uK r.last r.n c = 1 → badB (r.got ++ [c]) = false

theorem fol_tl {l : List UInt8} (H : Full l) : ∀ (m b : List UInt8) (last : UInt8) (n j : Nat), b ++ m = l → n < 5 → j ≤ (tlF last n m).length → Fol l (((tlF last n m).take j).foldl rsStep ⟨last, n, b⟩) (tlF last n m)[j]?
  | [], b, last, n, j, e, hn, hj => by
    rw [List.append_nil] at e
    subst e
    have : j = 0 := by simpa [tlF] using hj
    subst this
    simp only [tlF, List.take_nil, List.foldl_nil]
    exact ⟨⟨[], by simp⟩, ⟨fun _ => rfl, fun _ => H.done hn⟩, fun _ => rfl, (fun c h => by simp at h), (fun c h => by simp at h)⟩
  | c :: m, b, last, n, j, e, hn, hj => by
    obtain ⟨h1, h2⟩ := H.notYet e n
    obtain ⟨u1, u2⟩ := uN_less hn (last := last) c
    have hc : c = 48 ∨ c = 49 := H.bits c (by rw [← e]; simp)
    have e' : (b ++ [c]) ++ m = l := by rw [← e]; simp
    have st : rsStep ⟨last, n, b⟩ c = ⟨c, if c = last then n + 1 else 1, b ++ [c]⟩ := by
      unfold rsStep
      rw [u1, u2, if_pos rfl]
    match j with
    | 0 =>
      have hx : (tlF last n (c :: m))[0]? = some c := by
        by_cases h5 : (if c = last then n + 1 else 1) = 5
        · rw [tlF_five h5]; rfl
        · rw [tlF_less h5]; rfl
      rw [hx, List.take_zero, List.foldl_nil]
      refine ⟨⟨c :: m, e⟩, ⟨(fun h => by rw [h1] at h; cases h), (fun h => by cases h)⟩, (fun h => by cases h), fun d hd => ?_, fun d hd _ => ?_⟩
      · cases hd; rw [u2]; decide
      · cases hd; exact h2
    | j + 1 =>
      by_cases h5 : (if c = last then n + 1 else 1) = 5
      · rw [tlF_five h5] at hj ⊢
        rw [List.take_succ_cons, List.foldl_cons, st, h5]
        obtain ⟨v1, v2⟩ := uN_five hc
        have hd : doneB (b ++ [c]) 5 = false := by unfold doneB; simp
        match j with
        | 0 =>
          rw [List.take_zero, List.foldl_nil]
          refine ⟨⟨m, e'⟩, ⟨(fun h => by rw [hd] at h; cases h), (fun h => by cases h)⟩, (fun h => by cases h), fun d hd => ?_, fun d hd hk => ?_⟩
          · cases hd; rw [v2]; decide
          · cases hd; rw [v2] at hk; cases hk
        | j + 1 =>
          have st2 : rsStep ⟨c, 5, b ++ [c]⟩ (oth c) = ⟨oth c, 1, b ++ [c]⟩ := by
            unfold rsStep
            rw [v1, v2, if_neg (by decide)]
          rw [List.take_succ_cons, List.foldl_cons, st2]
          have := fol_tl H m (b ++ [c]) (oth c) 1 j e' (by omega) (by simp only [List.length_cons] at hj; omega)
          simpa using this
      · rw [tlF_less h5] at hj ⊢
        rw [List.take_succ_cons, List.foldl_cons, st]
        have := fol_tl H m (b ++ [c]) c _ j e' (ite_lt5 hn h5) (by simp only [List.length_cons] at hj; omega)
        simpa using this

theorem fol_body {f : Fr} (hr : rightB f = true) {j : Nat} (hj : j ≤ (bodyF f).length) : Fol (sumF (headF f)) (rsOf ((bodyF f).take j)) (bodyF f)[j]? := by
  have := fol_tl (full_of hr) (sumF (headF f)) [] 0 0 j rfl (by omega) (by unfold bodyF at hj; rw [stuffF_tl] at hj; exact hj)
  unfold bodyF rsOf rs0
  rw [stuffF_tl]
  exact this
theorem body_take (f : Fr) (j : Nat) (hj : j ≤ (bodyF f).length) : (bitsF f).take j = (bodyF f).take j := by
  show (bodyF f ++ tenF).take j = _
  rw [List.take_append_of_le_length hj]
theorem body_get (f : Fr) (j : Nat) (hj : j < (bodyF f).length) : (bitsF f)[j]? = (bodyF f)[j]? := by
  show (bodyF f ++ tenF)[j]? = _
  rw [List.getElem?_append_left hj]
theorem body_len (f : Fr) : (bitsF f).length = (bodyF f).length + 10 := by
  show (bodyF f ++ tenF).length = _
  simp [tenF]
theorem body_first (f : Fr) : ∃ m, bodyF f = 48 :: m := by
  have hh : sumF (headF f) = 48 :: (sumF (headF f)).tail := by unfold sumF headF; rfl
  unfold bodyF
  rw [stuffF_tl, hh, tlF_less (by decide)]
  exact ⟨_, rfl⟩
theorem bits_first (f : Fr) : (bitsF f).take 1 = [48] := by
  obtain ⟨m, h⟩ := body_first f
  show (bodyF f ++ tenF).take 1 = _
  rw [h]; rfl
theorem body_ge {f : Fr} (hr : rightB f = true) : 34 ≤ (bodyF f).length := (bits_len hr).1
theorem body_le {f : Fr} (hr : rightB f = true) : (bodyF f).length ≤ 147 := by
  have h1 := (bits_len hr).2.1
  have h2 := head_le hr
  show (stuffF (sumF (headF f))).length ≤ 147
  omega

theorem uK_not3 {last : UInt8} {n : Nat} {c : UInt8} (h : n < 5) : uK last n c = 1 := (uN_less h c).2
theorem uK1_lt {last : UInt8} {n : Nat} {c : UInt8} (hn : n ≤ 5) (h : uK last n c = 1) : n < 5 := by
  unfold uK at h
  by_cases e : n = 5
  · rw [if_pos e] at h; split at h <;> omega
  · omega
theorem sizeE_or' (l : List UInt8) : sizeE l = 0 ∨ sizeE l = 3 ∨ sizeE l = 12 := by unfold sizeE; split; simp; split; simp; split <;> simp
theorem size3_short {l : List UInt8} (h : sizeE l = 3) : l.length < 14 ∨ l.length < fxN l := by
  unfold sizeE at h
  split at h
  · left; assumption
  · split at h
    · right; assumption
    · split at h <;> omega
/-- A bit more: how long it may be, where its size is told. -/
theorem le_snoc {l : List UInt8} {c : UInt8} {n : Nat} (hs : sizeE l ≠ 12) (hl : sizeE l = 0 → l.length ≤ sizeV l + 15) (hd : doneB l n = false) (hn : n < 5) (h0 : sizeE (l ++ [c]) = 0) : (l ++ [c]).length ≤ sizeV (l ++ [c]) + 15 := by
  rcases sizeE_or' l with h | h | h
  · have h1 := hl h
    have h2 := (size_append [c] (.inl h)).2
    rw [h2, List.length_append, List.length_singleton]
    have : l.length ≠ sizeV l + 15 := by
      intro e
      unfold doneB at hd
      rw [decide_eq_true h, decide_eq_true e, decide_eq_true hn] at hd
      cases hd
    omega
  · have h1 := size3_short h
    have h2 := sizeV_ge h0
    have h3 := fxN_or (l ++ [c])
    have h4 := fxN_or l
    rw [List.length_append, List.length_singleton]
    rcases h1 with h1 | h1
    · omega
    · by_cases h14 : 14 ≤ l.length
      · have := fxN_append (r := [c]) h14
        omega
      · omega
  · exact absurd h hs
theorem got_most {l : List UInt8} (hs : sizeE l ≠ 12) (hl : sizeE l = 0 → l.length ≤ sizeV l + 15) : l.length ≤ 118 := by
  rcases sizeE_or' l with h | h | h
  · have := hl h
    have := sizeV_bd l
    omega
  · have h1 := size3_short h
    have h4 := fxN_or l
    omega
  · exact absurd h hs
theorem done_one : doneB [48] 1 = false := by decide
theorem size_one : sizeE [48] = 3 := by decide
theorem good_sum {f : Fr} (hr : rightB f = true) : goodB (sumF (headF f)) = true := by
  have F := full_of hr
  have h15 : 15 ≤ (sumF (headF f)).length := by rw [sum_length]; omega
  unfold goodB
  rw [decide_eq_true h15, headOf_sum, read_head hr, decide_eq_true ((crc_law h15 F.bits).2 (by rw [headOf_sum]))]
  rfl
end Go.Proofs.YtpfbobcilphncaaDoor.FP

/-
  DERIVED: THE SHELF's CONTRACTS AT THIS DUMP, IN PLAIN WORDS (tools/lay-plain.mjs out of 'TrydShelf.lean', which tools/lay-shelf.mjs wrote): THE SAME DECLARATIONS UNDER THE SAME NAMES: 'import', 'namespace', 'open', 'def', 'theorem' AND NOTHING ELSE: no command of the shelf's: FOR A HAND-IN. Each laying: the table of numbers ('.._ren') and one theorem, a field a fact of the dump's own or the kernel's comparison; each contract: ONE APPLICATION.
-/
namespace Go.Proofs
open Go.Shelf
def Tryd.lays161_ren : Go.Shelf.Ren := ⟨fun | 161 => 57 | 231 => 69 | 227 => 70 | 233 => 71 | 235 => 72 | 228 => 86 | 197 => 87 | 151 => 88 | 260 => 100 | 152 => 101 | 137 => 104 | 119 => 105 | 224 => 106 | 225 => 107 | 217 => 108 | 266 => 109 | n => n, fun | 9 => 9 | 4 => 4 | 3 => 3 | 5 => 5 | 117 => 101 | 116 => 100 | 0 => 0 | 124 => 104 | 105 => 132 | 21 => 21 | 119 => 142 | 46 => 97 | 139 => 145 | 138 => 144 | n => n, fun | 3 => 0 | 4 => 1 | n => n⟩
theorem Tryd.lays161 : Go.Proofs.Lays.n161 Tryd.prog Tryd.lays161_ren := {
  mixed := by kernel_rfl
  f119 := Tryd.func105.trans (congrArg some (by kernel_rfl))
  f137 := Tryd.func104.trans (congrArg some (by kernel_rfl))
  f151 := Tryd.func88.trans (congrArg some (by kernel_rfl))
  f152 := Tryd.func101.trans (congrArg some (by kernel_rfl))
  f161 := Tryd.func57.trans (congrArg some (by kernel_rfl))
  f197 := Tryd.func87.trans (congrArg some (by kernel_rfl))
  f217 := Tryd.func108.trans (congrArg some (by kernel_rfl))
  f224 := Tryd.func106.trans (congrArg some (by kernel_rfl))
  f225 := Tryd.func107.trans (congrArg some (by kernel_rfl))
  f227 := Tryd.func70.trans (congrArg some (by kernel_rfl))
  f228 := Tryd.func86.trans (congrArg some (by kernel_rfl))
  f231 := Tryd.func69.trans (congrArg some (by kernel_rfl))
  f233 := Tryd.func71.trans (congrArg some (by kernel_rfl))
  f235 := Tryd.func72.trans (congrArg some (by kernel_rfl))
  f260 := Tryd.func100.trans (congrArg some (by kernel_rfl))
  f266 := Tryd.func109.trans (congrArg some (by kernel_rfl))
  t0 := Tryd.underlying0
  a0 := Tryd.isAgg0
  z0 := Tryd.sizeOf0
  v0 := Tryd.zeroValue0
  t3 := Tryd.underlying3
  a3 := Tryd.isAgg3
  z3 := Tryd.sizeOf3
  v3 := Tryd.zeroValue3
  t4 := Tryd.underlying4
  a4 := Tryd.isAgg4
  z4 := Tryd.sizeOf4
  v4 := Tryd.zeroValue4
  t5 := Tryd.underlying5
  a5 := Tryd.isAgg5
  z5 := Tryd.sizeOf5
  v5 := Tryd.zeroValue5
  t9 := Tryd.underlying9
  a9 := Tryd.isAgg9
  z9 := Tryd.sizeOf9
  v9 := Tryd.zeroValue9
  t21 := Tryd.underlying21
  a21 := Tryd.isAgg21
  z21 := Tryd.sizeOf21
  v21 := Tryd.zeroValue21
  t46 := Tryd.underlying97
  a46 := Tryd.isAgg97
  z46 := Tryd.sizeOf97
  v46 := Tryd.zeroValue97
  t105 := Tryd.underlying132
  a105 := Tryd.isAgg132
  z105 := Tryd.sizeOf132
  v105 := Tryd.zeroValue132
  t116 := Tryd.underlying100
  a116 := Tryd.isAgg100
  z116 := Tryd.sizeOf100
  t117 := Tryd.underlying101
  a117 := Tryd.isAgg101
  z117 := Tryd.sizeOf101
  v117 := Tryd.zeroValue101
  t119 := Tryd.underlying142
  a119 := Tryd.isAgg142
  z119 := Tryd.sizeOf142
  t124 := Tryd.underlying104
  a124 := Tryd.isAgg104
  z124 := Tryd.sizeOf104
  v124 := Tryd.zeroValue104
  t138 := Tryd.underlying144
  a138 := Tryd.isAgg144
  z138 := Tryd.sizeOf144
  v138 := Tryd.zeroValue144
  t139 := Tryd.underlying145
  a139 := Tryd.isAgg145
  z139 := Tryd.sizeOf145
  v139 := Tryd.zeroValue145
  g3 := by kernel_rfl
  g4 := by kernel_rfl }
end Go.Proofs
