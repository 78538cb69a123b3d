/- Plain: what is known of a frame that comes, bit by bit; nothing of the program. -/
import Derived.Test.YtjfgapljfbkfiaaDoorRdQ
import Derived.Ground.NamesProg
import Derived.Shelf.Strings.SlTrimAscii
import Derived.Test.YtjfgapljfbkfiaaDoorChecked
import Derived.Test.YtjfgapljfbkfiaaDoorMem
import Derived.Lib.Builder
import Derived.Lib.AppendStr
import Derived.Lib.UnsafeStr
import Derived.Lib.Strings
import Derived.Lib.Slices
import Derived.Laws.Externs
import Derived.RegionTactic
namespace Go.Proofs.YtjfgapljfbkfiaaDoor.FP

structure RS where
  last : UInt8
  n : Nat
  got : List UInt8
def rsStep (s : RS) (c : UInt8) : RS := ⟨c, uN s.last s.n c, if uK s.last s.n c = 1 then s.got ++ [c] else s.got⟩
def rs0 : RS := ⟨0, 0, []⟩
def rsOf (l : List UInt8) : RS := l.foldl rsStep rs0
theorem rsOf_snoc (l : List UInt8) (c : UInt8) : rsOf (l ++ [c]) = rsStep (rsOf l) c := by simp [rsOf]
/-- Whether bits are a frame's, with its sum. -/
def goodB (l : List UInt8) : Bool := decide (15 ≤ l.length) && decide (crcOf l = 0) && readB (headOf l)
/-- A frame's bits that are stuffed. -/
def bodyF (f : Fr) : List UInt8 := stuffF (sumF (headF f))

/-- Behind a beginning of the stuffed bits of a whole row: what is known, and the next bit. -/
structure Fol (l : List UInt8) (r : RS) (nx : Option UInt8) : Prop where
  pre : ∃ m, r.got ++ m = l
  done : doneB r.got r.n = true ↔ nx = none
  all : nx = none → r.got = l
  err : ∀ c, nx = some c → uK r.last r.n c ≠ 3
  form : ∀ c, nx = some c → uK r.last r.n c = 1 → badB (r.got ++ [c]) = false

theorem fol_tl {l : List UInt8} (H : Full l) : ∀ (m b : List UInt8) (last : UInt8) (n j : Nat), b ++ m = l → n < 5 → j ≤ (tlF last n m).length → Fol l (((tlF last n m).take j).foldl rsStep ⟨last, n, b⟩) (tlF last n m)[j]?
  | [], b, last, n, j, e, hn, hj => by
    rw [List.append_nil] at e
    subst e
    have : j = 0 := by simpa [tlF] using hj
    subst this
    simp only [tlF, List.take_nil, List.foldl_nil]
    exact ⟨⟨[], by simp⟩, ⟨fun _ => rfl, fun _ => H.done hn⟩, fun _ => rfl, (fun c h => by simp at h), (fun c h => by simp at h)⟩
  | c :: m, b, last, n, j, e, hn, hj => by
    obtain ⟨h1, h2⟩ := H.notYet e n
    obtain ⟨u1, u2⟩ := uN_less hn (last := last) c
    have hc : c = 48 ∨ c = 49 := H.bits c (by rw [← e]; simp)
    have e' : (b ++ [c]) ++ m = l := by rw [← e]; simp
    have st : rsStep ⟨last, n, b⟩ c = ⟨c, if c = last then n + 1 else 1, b ++ [c]⟩ := by
      unfold rsStep
      rw [u1, u2, if_pos rfl]
    match j with
    | 0 =>
      have hx : (tlF last n (c :: m))[0]? = some c := by
        by_cases h5 : (if c = last then n + 1 else 1) = 5
        · rw [tlF_five h5]; rfl
        · rw [tlF_less h5]; rfl
      rw [hx, List.take_zero, List.foldl_nil]
      refine ⟨⟨c :: m, e⟩, ⟨(fun h => by rw [h1] at h; cases h), (fun h => by cases h)⟩, (fun h => by cases h), fun d hd => ?_, fun d hd _ => ?_⟩
      · cases hd; rw [u2]; decide
      · cases hd; exact h2
    | j + 1 =>
      by_cases h5 : (if c = last then n + 1 else 1) = 5
      · rw [tlF_five h5] at hj ⊢
        rw [List.take_succ_cons, List.foldl_cons, st, h5]
        obtain ⟨v1, v2⟩ := uN_five hc
        have hd : doneB (b ++ [c]) 5 = false := by unfold doneB; simp
        match j with
        | 0 =>
          rw [List.take_zero, List.foldl_nil]
          refine ⟨⟨m, e'⟩, ⟨(fun h => by rw [hd] at h; cases h), (fun h => by cases h)⟩, (fun h => by cases h), fun d hd => ?_, fun d hd hk => ?_⟩
          · cases hd; rw [v2]; decide
          · cases hd; rw [v2] at hk; cases hk
        | j + 1 =>
          have st2 : rsStep ⟨c, 5, b ++ [c]⟩ (oth c) = ⟨oth c, 1, b ++ [c]⟩ := by
            unfold rsStep
            rw [v1, v2, if_neg (by decide)]
          rw [List.take_succ_cons, List.foldl_cons, st2]
          have := fol_tl H m (b ++ [c]) (oth c) 1 j e' (by omega) (by simp only [List.length_cons] at hj; omega)
          simpa using this
      · rw [tlF_less h5] at hj ⊢
        rw [List.take_succ_cons, List.foldl_cons, st]
        have := fol_tl H m (b ++ [c]) c _ j e' (ite_lt5 hn h5) (by simp only [List.length_cons] at hj; omega)
        simpa using this

theorem fol_body {f : Fr} (hr : rightB f = true) {j : Nat} (hj : j ≤ (bodyF f).length) : Fol (sumF (headF f)) (rsOf ((bodyF f).take j)) (bodyF f)[j]? := by
  have := fol_tl (full_of hr) (sumF (headF f)) [] 0 0 j rfl (by omega) (by unfold bodyF at hj; rw [stuffF_tl] at hj; exact hj)
  unfold bodyF rsOf rs0
  rw [stuffF_tl]
  exact this
theorem body_take (f : Fr) (j : Nat) (hj : j ≤ (bodyF f).length) : (bitsF f).take j = (bodyF f).take j := by
  show (bodyF f ++ tenF).take j = _
  rw [List.take_append_of_le_length hj]
theorem body_get (f : Fr) (j : Nat) (hj : j < (bodyF f).length) : (bitsF f)[j]? = (bodyF f)[j]? := by
  show (bodyF f ++ tenF)[j]? = _
  rw [List.getElem?_append_left hj]
theorem body_len (f : Fr) : (bitsF f).length = (bodyF f).length + 10 := by
  show (bodyF f ++ tenF).length = _
  simp [tenF]
theorem body_first (f : Fr) : ∃ m, bodyF f = 48 :: m := by
  have hh : sumF (headF f) = 48 :: (sumF (headF f)).tail := by unfold sumF headF; rfl
  unfold bodyF
  rw [stuffF_tl, hh, tlF_less (by decide)]
  exact ⟨_, rfl⟩
theorem bits_first (f : Fr) : (bitsF f).take 1 = [48] := by
  obtain ⟨m, h⟩ := body_first f
  show (bodyF f ++ tenF).take 1 = _
  rw [h]; rfl
theorem body_ge {f : Fr} (hr : rightB f = true) : 34 ≤ (bodyF f).length := (bits_len hr).1
theorem body_le {f : Fr} (hr : rightB f = true) : (bodyF f).length ≤ 147 := by
  have h1 := (bits_len hr).2.1
  have h2 := head_le hr
  show (stuffF (sumF (headF f))).length ≤ 147
  omega

theorem uK_not3 {last : UInt8} {n : Nat} {c : UInt8} (h : n < 5) : uK last n c = 1 := (uN_less h c).2
theorem uK1_lt {last : UInt8} {n : Nat} {c : UInt8} (hn : n ≤ 5) (h : uK last n c = 1) : n < 5 := by
  unfold uK at h
  by_cases e : n = 5
  · rw [if_pos e] at h; split at h <;> omega
  · omega
theorem sizeE_or' (l : List UInt8) : sizeE l = 0 ∨ sizeE l = 3 ∨ sizeE l = 12 := by unfold sizeE; split; simp; split; simp; split <;> simp
theorem size3_short {l : List UInt8} (h : sizeE l = 3) : l.length < 14 ∨ l.length < fxN l := by
  unfold sizeE at h
  split at h
  · left; assumption
  · split at h
    · right; assumption
    · split at h <;> omega
/-- A bit more: how long it may be, where its size is told. -/
theorem le_snoc {l : List UInt8} {c : UInt8} {n : Nat} (hs : sizeE l ≠ 12) (hl : sizeE l = 0 → l.length ≤ sizeV l + 15) (hd : doneB l n = false) (hn : n < 5) (h0 : sizeE (l ++ [c]) = 0) : (l ++ [c]).length ≤ sizeV (l ++ [c]) + 15 := by
  rcases sizeE_or' l with h | h | h
  · have h1 := hl h
    have h2 := (size_append [c] (.inl h)).2
    rw [h2, List.length_append, List.length_singleton]
    have : l.length ≠ sizeV l + 15 := by
      intro e
      unfold doneB at hd
      rw [decide_eq_true h, decide_eq_true e, decide_eq_true hn] at hd
      cases hd
    omega
  · have h1 := size3_short h
    have h2 := sizeV_ge h0
    have h3 := fxN_or (l ++ [c])
    have h4 := fxN_or l
    rw [List.length_append, List.length_singleton]
    rcases h1 with h1 | h1
    · omega
    · by_cases h14 : 14 ≤ l.length
      · have := fxN_append (r := [c]) h14
        omega
      · omega
  · exact absurd h hs
theorem got_most {l : List UInt8} (hs : sizeE l ≠ 12) (hl : sizeE l = 0 → l.length ≤ sizeV l + 15) : l.length ≤ 118 := by
  rcases sizeE_or' l with h | h | h
  · have := hl h
    have := sizeV_bd l
    omega
  · have h1 := size3_short h
    have h4 := fxN_or l
    omega
  · exact absurd h hs
theorem done_one : doneB [48] 1 = false := by decide
theorem size_one : sizeE [48] = 3 := by decide
theorem good_sum {f : Fr} (hr : rightB f = true) : goodB (sumF (headF f)) = true := by
  have F := full_of hr
  have h15 : 15 ≤ (sumF (headF f)).length := by rw [sum_length]; omega
  unfold goodB
  rw [decide_eq_true h15, headOf_sum, read_head hr, decide_eq_true ((crc_law h15 F.bits).2 (by rw [headOf_sum]))]
  rfl
end Go.Proofs.YtjfgapljfbkfiaaDoor.FP

/-
  DERIVED: THE SHELF's CONTRACTS AT THIS DUMP, IN PLAIN WORDS (tools/lay-plain.mjs out of 'TrydShelf.lean', which tools/lay-shelf.mjs wrote): THE SAME DECLARATIONS UNDER THE SAME NAMES: 'import', 'namespace', 'open', 'def', 'theorem' AND NOTHING ELSE: no command of the shelf's: FOR A HAND-IN. Each laying: the table of numbers ('.._ren') and one theorem, a field a fact of the dump's own or the kernel's comparison; each contract: ONE APPLICATION.
-/
namespace Go.Proofs
open Go.Shelf
def Tryd.lays161_ren : Go.Shelf.Ren := ⟨fun | 161 => 45 | 231 => 57 | 227 => 58 | 233 => 59 | 235 => 60 | 228 => 74 | 197 => 75 | 151 => 76 | 260 => 88 | 152 => 89 | 137 => 92 | 119 => 93 | 224 => 94 | 225 => 95 | 217 => 96 | 266 => 97 | n => n, fun | 9 => 9 | 4 => 4 | 3 => 3 | 5 => 5 | 117 => 92 | 116 => 91 | 0 => 0 | 124 => 95 | 105 => 123 | 21 => 21 | 119 => 133 | 46 => 88 | 139 => 136 | 138 => 135 | n => n, fun | 3 => 0 | 4 => 1 | n => n⟩
theorem Tryd.lays161 : Go.Proofs.Lays.n161 Tryd.prog Tryd.lays161_ren := {
  mixed := by kernel_rfl
  f119 := Tryd.func93.trans (congrArg some (by kernel_rfl))
  f137 := Tryd.func92.trans (congrArg some (by kernel_rfl))
  f151 := Tryd.func76.trans (congrArg some (by kernel_rfl))
  f152 := Tryd.func89.trans (congrArg some (by kernel_rfl))
  f161 := Tryd.func45.trans (congrArg some (by kernel_rfl))
  f197 := Tryd.func75.trans (congrArg some (by kernel_rfl))
  f217 := Tryd.func96.trans (congrArg some (by kernel_rfl))
  f224 := Tryd.func94.trans (congrArg some (by kernel_rfl))
  f225 := Tryd.func95.trans (congrArg some (by kernel_rfl))
  f227 := Tryd.func58.trans (congrArg some (by kernel_rfl))
  f228 := Tryd.func74.trans (congrArg some (by kernel_rfl))
  f231 := Tryd.func57.trans (congrArg some (by kernel_rfl))
  f233 := Tryd.func59.trans (congrArg some (by kernel_rfl))
  f235 := Tryd.func60.trans (congrArg some (by kernel_rfl))
  f260 := Tryd.func88.trans (congrArg some (by kernel_rfl))
  f266 := Tryd.func97.trans (congrArg some (by kernel_rfl))
  t0 := Tryd.underlying0
  a0 := Tryd.isAgg0
  z0 := Tryd.sizeOf0
  v0 := Tryd.zeroValue0
  t3 := Tryd.underlying3
  a3 := Tryd.isAgg3
  z3 := Tryd.sizeOf3
  v3 := Tryd.zeroValue3
  t4 := Tryd.underlying4
  a4 := Tryd.isAgg4
  z4 := Tryd.sizeOf4
  v4 := Tryd.zeroValue4
  t5 := Tryd.underlying5
  a5 := Tryd.isAgg5
  z5 := Tryd.sizeOf5
  v5 := Tryd.zeroValue5
  t9 := Tryd.underlying9
  a9 := Tryd.isAgg9
  z9 := Tryd.sizeOf9
  v9 := Tryd.zeroValue9
  t21 := Tryd.underlying21
  a21 := Tryd.isAgg21
  z21 := Tryd.sizeOf21
  v21 := Tryd.zeroValue21
  t46 := Tryd.underlying88
  a46 := Tryd.isAgg88
  z46 := Tryd.sizeOf88
  v46 := Tryd.zeroValue88
  t105 := Tryd.underlying123
  a105 := Tryd.isAgg123
  z105 := Tryd.sizeOf123
  v105 := Tryd.zeroValue123
  t116 := Tryd.underlying91
  a116 := Tryd.isAgg91
  z116 := Tryd.sizeOf91
  t117 := Tryd.underlying92
  a117 := Tryd.isAgg92
  z117 := Tryd.sizeOf92
  v117 := Tryd.zeroValue92
  t119 := Tryd.underlying133
  a119 := Tryd.isAgg133
  z119 := Tryd.sizeOf133
  t124 := Tryd.underlying95
  a124 := Tryd.isAgg95
  z124 := Tryd.sizeOf95
  v124 := Tryd.zeroValue95
  t138 := Tryd.underlying135
  a138 := Tryd.isAgg135
  z138 := Tryd.sizeOf135
  v138 := Tryd.zeroValue135
  t139 := Tryd.underlying136
  a139 := Tryd.isAgg136
  z139 := Tryd.sizeOf136
  v139 := Tryd.zeroValue136
  g3 := by kernel_rfl
  g4 := by kernel_rfl }
end Go.Proofs

/- strings.Builder in a block of whatever type begins with one: WriteString, String of what is not empty. -/
namespace Go.Proofs.YtjfgapljfbkfiaaDoor
open Go.ChangeShapes Go.WideShapes Go.ChangeAt Go.RowKit

/-- A type whose variables are just a builder's two cells, seen as a builder. -/
def BT (t : TypeId) : Prop := liesAt Tryd.prog Tryd.prog.depth t (2 / Tryd.prog.cellsOf t) 0 103 1 = true ∧ t ≠ 5

theorem bld_info : (Tryd.prog.info? 103).map (·.size) = some 2 := by kernel_rfl

set_option maxRecDepth 100000 in
set_option maxHeartbeats 400000 in
theorem cc_used (b : Nat) (w : World) (h0 : w.cell? ⟨b, 0, none⟩ = some (.pointer (some ⟨b, 0, none⟩))) :
    Calls Tryd.prog 80 #[.pointer (some ⟨b, 0, none⟩)] w fun e w' => e = .returned (.tuple #[]) ∧ w' = w := by
  obtain ⟨j, hj, _⟩ := Option.map_eq_some_iff.1 bld_info
  go_enter Tryd.func80, Tryd.ntmps80
  go_wp2
  rw [Lib.run_neq_ptr_same w _ Tryd.underlying101 hj]
  go_wp2
  go_end0
  exact ⟨rfl, rfl⟩

set_option maxRecDepth 100000 in
set_option maxHeartbeats 400000 in
theorem cc_fresh (t b : Nat) (ht : BT t) (w : World) (h0 : w.cell? ⟨b, 0, none⟩ = some (.pointer none)) (hsh : w.shape? b = some (t, 2)) (hfz : w.frozen? ⟨b, 0, none⟩ = false) :
    Calls Tryd.prog 80 #[.pointer (some ⟨b, 0, none⟩)] w fun e w' => e = .returned (.tuple #[]) ∧ w' = w.setCell ⟨b, 0, none⟩ (.pointer (some ⟨b, 0, none⟩)) := by
  obtain ⟨j, hj, hjs⟩ := Option.map_eq_some_iff.1 bld_info
  have e1 := Lib.run_to_unsafe w (P := Tryd.prog) ⟨b, 0, none⟩ Tryd.underlying101 Tryd.underlying130 hj (by rw [hjs]; decide) hsh (Nat.zero_lt_succ 1)
  have e2 := Lib.run_from_unsafe w (P := Tryd.prog) ⟨b, 0, none⟩ Tryd.underlying130 Tryd.underlying101 hj hsh ht.1
  have E1 := hide e1
  have E2 := hide e2
  clear e1 e2 hsh
  go_enter Tryd.func80, Tryd.ntmps80
  go_wp2
  rw [E1.out]
  simp only [Result.andThen]
  rw [Oper.upon_value]
  go_wp2
  rw [run_callFunc_extern Tryd.func90 (by kernel_rfl) (by kernel_rfl) (by kernel_rfl) (e := Extern.AbiNoEscape.same) (by kernel_rfl)]
  rw [Lib.run_noEscape]
  simp only [Result.andThen]
  rw [Oper.upon_value]
  go_wp2
  rw [E2.out]
  simp only [Result.andThen]
  rw [Oper.upon_value]
  go_wp2
  go_end0
  exact ⟨rfl, rfl⟩

theorem cc_any (t b B : Nat) (ht : BT t) (bs : List Value) (w : World) (h : Lib.IsBuilder t 5 B b bs w) :
    Calls Tryd.prog 80 #[.pointer (some ⟨b, 0, none⟩)] w fun e w' => e = .returned (.tuple #[]) ∧ Lib.BuilderAt t 5 B b (.pointer (some ⟨b, 0, none⟩)) bs w' ∧ Below B w w' := by
  rcases h with h | h
  · exact (cc_fresh t b ht w h.cell0 h.shape h.frozen0).mono fun _ _ ⟨a, c⟩ => by subst c; exact ⟨a, h.used _, (Below.refl B w).setCell (p := ⟨b, 0, none⟩) h.1 _⟩
  · exact (cc_used b w h.cell0).mono fun _ _ ⟨a, c⟩ => by subst c; exact ⟨a, h, Below.refl B _⟩

set_option maxRecDepth 100000 in
set_option maxHeartbeats 400000 in
theorem ws_any (t b B : Nat) (ht : BT t) (l : List UInt8) (s : ByteArray) (w : World) (h : Lib.IsBuilder t 5 B b (Lib.byteCells l) w) (hlen : l.length + s.size ≤ 1000000) (hBw : B ≤ w.heap.size) :
    Calls Tryd.prog 66 #[.pointer (some ⟨b, 0, none⟩), .string s] w fun e w' => e = .returned (.tuple #[.int .i64 s.size, .nilIface]) ∧ Lib.IsBuilder t 5 B b (Lib.byteCells (l ++ s.data.toList)) w' ∧ Below B w w' := by
  obtain ⟨i0, hi, hz0, hz1, hz2⟩ := info_parts (P := Tryd.prog) (e := 5) (z := .int .u8 0) (size := 1) (bytes := 1) (by kernel_rfl)
  have CC := hide (cc_any t b B ht _ w h)
  have BL : (Lib.byteCells l).length = l.length := Lib.byteCells_length l
  go_enter Tryd.func66, Tryd.ntmps66
  go_wp2_with fail
  refine CC.out.mono ?_
  rintro e w1 ⟨rfl, ⟨hB, v, hbk, hown, hne⟩, hb1⟩
  have c1 : w1.cell? ⟨b, 1, none⟩ = some v := by rw [Lib.cell_of_heap hbk]; rfl
  have HK := hide hbk
  have HO := hide hown
  clear hbk hown CC h
  go_wp2_with (at_builtin; refine Lib.wpList_append_own_string _ rfl _ _ 82 9 rfl B 5 i0 Tryd.underlying82 Tryd.underlying9 hi hz0 hz1 hz2 _ _ _ rfl HO.out s rfl ?c3 ?c4 ?c5 ?_)
  case c3 => unfold maxLen; omega
  case c4 => omega
  case c5 => have := hb1.size; omega
  intro v' w2 hown' hgrow _
  have hlt : b < w1.heap.size := by
    rcases Nat.lt_or_ge b w1.heap.size with h' | h'
    · exact h'
    · have := HK.out; simp [Array.getElem?_eq_none h'] at this
  have hb2 : w2.heap[b]? = some (.cells #[.pointer (some ⟨b, 0, none⟩), v] t (0, 0)) := by
    rw [hgrow.block b hlt (fun e => hne e.symm)]
    exact HK.out
  have d1 : w2.cell? ⟨b, 1, none⟩ = some v := by rw [Lib.cell_of_heap hb2]; rfl
  have f1 : w2.frozen? ⟨b, 1, none⟩ = false := Lib.frozen_of_heap hb2 1
  obtain ⟨ao, n', cap, rfl⟩ : ∃ ao n' cap, v' = .slice ao n' cap := by
    rcases hown'.2 with ⟨hv, _⟩ | ⟨g, cap, cur, hv, _⟩
    · exact ⟨_, _, _, hv⟩
    · exact ⟨_, _, _, hv⟩
  have q : Below B w (w2.setCell ⟨b, 1, none⟩ (.slice ao n' cap)) := (hb1.grown hgrow (by have := hb1.size; omega) (fun k hk => (HO.out.lt k hk).1)).setCell (p := ⟨b, 1, none⟩) hB _
  have r : Lib.IsBuilder t 5 B b (Lib.byteCells (l ++ s.data.toList)) (w2.setCell ⟨b, 1, none⟩ (.slice ao n' cap)) := by
    right
    refine Lib.BuilderAt.put (T := t) (e := 5) hB hb2 ?_ ht.2
    have e : Lib.byteCells (l ++ s.data.toList) = Lib.byteCells l ++ Lib.strCells s := by simp [Lib.byteCells, Lib.strCells]
    rw [e, List.length_append, Lib.strCells_length, Lib.byteCells_length]
    simpa [BL] using hown'
  have Q := hide q
  have R := hide r
  clear q r hown' hgrow hb2 hlt BL hi hz0 hz1 hz2
  go_wp2
  go_ret2
  exact ⟨rfl, R.out, Q.out⟩

set_option maxRecDepth 100000 in
set_option maxHeartbeats 1000000 in
theorem bstr_any (t b B : Nat) (l : List UInt8) (w : World) (h : Lib.IsBuilder t 5 B b (Lib.byteCells l) w) (h0 : l ≠ []) :
    Calls Tryd.prog 67 #[.pointer (some ⟨b, 0, none⟩)] w fun e w' => e = .returned (.string ⟨l.toArray⟩) ∧ Below B w w' := by
  obtain ⟨p, hB, v, hbk, hown, hne⟩ : ∃ p, Lib.BuilderAt t 5 B b p (Lib.byteCells l) w := by
    rcases h with h | h
    · exact ⟨_, h⟩
    · exact ⟨_, h⟩
  have hl0 : 0 < l.length := List.length_pos_iff.2 h0
  rw [Lib.byteCells_length] at hown
  obtain ⟨g, cap, hv, hbg, _⟩ := World.ownsRow.form hown hl0
  subst hv
  obtain ⟨cur, hg, hcap, hcs⟩ : ∃ cur, w.heap[g]? = some (.cells cur 5 (0, 0)) ∧ l.length ≤ cap ∧ cap ≤ maxLen ∧ cur.size = cap * 1 := by
    rcases hown.2 with ⟨h', _⟩ | ⟨g', cap', cur, h', _, hg, hnc, hcm, hcs, _⟩
    · simp at h'
    · simp only [Value.slice.injEq, Option.some.injEq, Addr.mk.injEq, and_true, true_and] at h'
      obtain ⟨rfl, rfl⟩ := h'
      exact ⟨cur, hg, hnc, hcm, hcs⟩
  have c1 : w.drew.cell? ⟨b, 1, none⟩ = some (.slice (some ⟨g, 0, none⟩) l.length cap) := by
    have : w.drew.heap[b]? = some (.cells #[p, .slice (some ⟨g, 0, none⟩) l.length cap] t (0, 0)) := hbk
    rw [Lib.cell_of_heap this]; rfl
  have hSD : (Builtin.unsafeSliceData_ #[82] 128 #[.slice (some ⟨g, 0, none⟩) l.length cap]).run Tryd.prog w.drew = .ok (.pointer (some ⟨g, 0, none⟩)) w.drew :=
    Lib.run_unsafeSliceData_row _ _ _ _ _ _ (by omega)
  have hUS : (Builtin.unsafeString_ #[128, 3] 9 #[.pointer (some ⟨g, 0, none⟩), .int .i64 l.length]).run Tryd.prog w.drew = .ok (.string ⟨l.toArray⟩) (w.drew.freeze ⟨g, 0, none⟩ l.length) := by
    refine Lib.run_unsafeString_row w.drew 128 3 9 5 Tryd.underlying128 (by kernel_rfl) g cur.size (by have hg' : w.drew.heap[g]? = some (.cells cur 5 (0, 0)) := hg; simp [World.shape?, hg']) l h0 (by omega) (by have := hcs.1; unfold maxLen at this; omega) ?_
    intro j x hx
    exact hown.cells (g := g) rfl j (.int .u8 x.toNat) (by simp [Lib.byteCells, hx])
  clear hown hbk hg hcs hcap hl0 h0
  go_enter Tryd.func67, Tryd.ntmps67
  go_wp2
  go_region
  all_goals
    go_wp2
    go_ret
    exact ⟨rfl, Lib.below_freeze (Below.drew (Below.refl B w)) (p := ⟨g, 0, none⟩) hbg _⟩

theorem bldAt_keep {t e B b : Nat} {p : Value} {bs : List Value} {w w' : World} (h : Lib.BuilderAt t e B b p bs w) (hb : Below w.heap.size w w') : Lib.BuilderAt t e B b p bs w' := by
  have hlt := h.lt
  obtain ⟨hB, v, hbk, hown, hne⟩ := h
  refine ⟨hB, v, (hb.block b hlt).trans hbk, World.ownsRow.kept (row := none) hown ⟨hb.os, hb.tape, hb.output, hb.size, fun k hk _ => hb.block k hk⟩ ?_, hne⟩
  cases hv : v.ownBlock
  · exact .inl rfl
  · exact .inr (by simp)
theorem bld_keep {t e B b : Nat} {bs : List Value} {w w' : World} (h : Lib.IsBuilder t e B b bs w) (hb : Below w.heap.size w w') : Lib.IsBuilder t e B b bs w' :=
  h.elim (fun x => .inl (bldAt_keep x hb)) (fun x => .inr (bldAt_keep x hb))
theorem bld_lt {t e B b : Nat} {bs : List Value} {w : World} (h : Lib.IsBuilder t e B b bs w) : b < w.heap.size := h.elim (fun x => x.lt) (fun x => x.lt)
theorem bld_le {t e B b : Nat} {bs : List Value} {w : World} (h : Lib.IsBuilder t e B b bs w) : B ≤ b := h.elim (fun x => x.1) (fun x => x.1)
end Go.Proofs.YtjfgapljfbkfiaaDoor
