/- Plain: what is known of a frame that comes, bit by bit; nothing of the program. -/
import Derived.Test.YthkilodnghiocaaGreatDoorRdQ
import Derived.Ground.NamesProg
import Derived.Shelf.Strings.SlTrimAscii
import Derived.Test.YthkilodnghiocaaGreatDoorChecked
import Derived.Test.YthkilodnghiocaaGreatDoorMgMem
import Derived.Lib.Builder
import Derived.Lib.AppendStr
import Derived.Lib.UnsafeStr
import Derived.Lib.Strings
import Derived.Lib.Slices
import Derived.Laws.Externs
import Derived.RegionTactic
namespace Go.Proofs.YthkilodnghiocaaGreatDoor.FP

structure RS where
  last : UInt8
  n : Nat
  got : List UInt8
def rsStep (s : RS) (c : UInt8) : RS := ⟨c, uN s.last s.n c, if uK s.last s.n c = 1 then s.got ++ [c] else s.got⟩
def rs0 : RS := ⟨0, 0, []⟩
def rsOf (l : List UInt8) : RS := l.foldl rsStep rs0
theorem rsOf_snoc (l : List UInt8) (c : UInt8) : rsOf (l ++ [c]) = rsStep (rsOf l) c := by simp [rsOf]
/-- Whether bits are a frame's, with its sum. -/
def goodB (l : List UInt8) : Bool := decide (15 ≤ l.length) && decide (crcOf l = 0) && readB (headOf l)
/-- A frame's bits that are stuffed. -/
def bodyF (f : Fr) : List UInt8 := stuffF (sumF (headF f))

/-- Behind a beginning of the stuffed bits of a whole row: what is known, and the next bit. -/
structure Fol (l : List UInt8) (r : RS) (nx : Option UInt8) : Prop where
  pre : ∃ m, r.got ++ m = l
  done : doneB r.got r.n = true ↔ nx = none
  all : nx = none → r.got = l
  err : ∀ c, nx = some c → uK r.last r.n c ≠ 3
  form : ∀ c, nx = some c → uK r.last r.n c = 1 → badB (r.got ++ [c]) = false

theorem fol_tl {l : List UInt8} (H : Full l) : ∀ (m b : List UInt8) (last : UInt8) (n j : Nat), b ++ m = l → n < 5 → j ≤ (tlF last n m).length → Fol l (((tlF last n m).take j).foldl rsStep ⟨last, n, b⟩) (tlF last n m)[j]?
  | [], b, last, n, j, e, hn, hj => by
    rw [List.append_nil] at e
    subst e
    have : j = 0 := by simpa [tlF] using hj
    subst this
    simp only [tlF, List.take_nil, List.foldl_nil]
    exact ⟨⟨[], by simp⟩, ⟨fun _ => rfl, fun _ => H.done hn⟩, fun _ => rfl, (fun c h => by simp at h), (fun c h => by simp at h)⟩
  | c :: m, b, last, n, j, e, hn, hj => by
    obtain ⟨h1, h2⟩ := H.notYet e n
    obtain ⟨u1, u2⟩ := uN_less hn (last := last) c
    have hc : c = 48 ∨ c = 49 := H.bits c (by rw [← e]; simp)
    have e' : (b ++ [c]) ++ m = l := by rw [← e]; simp
    have st : rsStep ⟨last, n, b⟩ c = ⟨c, if c = last then n + 1 else 1, b ++ [c]⟩ := by
      unfold rsStep
      rw [u1, u2, if_pos rfl]
    match j with
    | 0 =>
      have hx : (tlF last n (c :: m))[0]? = some c := by
        by_cases h5 : (if c = last then n + 1 else 1) = 5
        · rw [tlF_five h5]; rfl
        · rw [tlF_less h5]; rfl
      rw [hx, List.take_zero, List.foldl_nil]
      refine ⟨⟨c :: m, e⟩, ⟨(fun h => by rw [h1] at h; cases h), (fun h => by cases h)⟩, (fun h => by cases h), fun d hd => ?_, fun d hd _ => ?_⟩
      · cases hd; rw [u2]; decide
      · cases hd; exact h2
    | j + 1 =>
      by_cases h5 : (if c = last then n + 1 else 1) = 5
      · rw [tlF_five h5] at hj ⊢
        rw [List.take_succ_cons, List.foldl_cons, st, h5]
        obtain ⟨v1, v2⟩ := uN_five hc
        have hd : doneB (b ++ [c]) 5 = false := by unfold doneB; simp
        match j with
        | 0 =>
          rw [List.take_zero, List.foldl_nil]
          refine ⟨⟨m, e'⟩, ⟨(fun h => by rw [hd] at h; cases h), (fun h => by cases h)⟩, (fun h => by cases h), fun d hd => ?_, fun d hd hk => ?_⟩
          · cases hd; rw [v2]; decide
          · cases hd; rw [v2] at hk; cases hk
        | j + 1 =>
          have st2 : rsStep ⟨c, 5, b ++ [c]⟩ (oth c) = ⟨oth c, 1, b ++ [c]⟩ := by
            unfold rsStep
            rw [v1, v2, if_neg (by decide)]
          rw [List.take_succ_cons, List.foldl_cons, st2]
          have := fol_tl H m (b ++ [c]) (oth c) 1 j e' (by omega) (by simp only [List.length_cons] at hj; omega)
          simpa using this
      · rw [tlF_less h5] at hj ⊢
        rw [List.take_succ_cons, List.foldl_cons, st]
        have := fol_tl H m (b ++ [c]) c _ j e' (ite_lt5 hn h5) (by simp only [List.length_cons] at hj; omega)
        simpa using this

theorem fol_body {f : Fr} (hr : rightB f = true) {j : Nat} (hj : j ≤ (bodyF f).length) : Fol (sumF (headF f)) (rsOf ((bodyF f).take j)) (bodyF f)[j]? := by
  have := fol_tl (full_of hr) (sumF (headF f)) [] 0 0 j rfl (by omega) (by unfold bodyF at hj; rw [stuffF_tl] at hj; exact hj)
  unfold bodyF rsOf rs0
  rw [stuffF_tl]
  exact this
theorem body_take (f : Fr) (j : Nat) (hj : j ≤ (bodyF f).length) : (bitsF f).take j = (bodyF f).take j := by
  show (bodyF f ++ tenF).take j = _
  rw [List.take_append_of_le_length hj]
theorem body_get (f : Fr) (j : Nat) (hj : j < (bodyF f).length) : (bitsF f)[j]? = (bodyF f)[j]? := by
  show (bodyF f ++ tenF)[j]? = _
  rw [List.getElem?_append_left hj]
theorem body_len (f : Fr) : (bitsF f).length = (bodyF f).length + 10 := by
  show (bodyF f ++ tenF).length = _
  simp [tenF]
theorem body_first (f : Fr) : ∃ m, bodyF f = 48 :: m := by
  have hh : sumF (headF f) = 48 :: (sumF (headF f)).tail := by unfold sumF headF; rfl
  unfold bodyF
  rw [stuffF_tl, hh, tlF_less (by decide)]
  exact ⟨_, rfl⟩
theorem bits_first (f : Fr) : (bitsF f).take 1 = [48] := by
  obtain ⟨m, h⟩ := body_first f
  show (bodyF f ++ tenF).take 1 = _
  rw [h]; rfl
theorem body_ge {f : Fr} (hr : rightB f = true) : 34 ≤ (bodyF f).length := (bits_len hr).1
theorem body_le {f : Fr} (hr : rightB f = true) : (bodyF f).length ≤ 147 := by
  have h1 := (bits_len hr).2.1
  have h2 := head_le hr
  show (stuffF (sumF (headF f))).length ≤ 147
  omega

theorem uK_not3 {last : UInt8} {n : Nat} {c : UInt8} (h : n < 5) : uK last n c = 1 := (uN_less h c).2
theorem uK1_lt {last : UInt8} {n : Nat} {c : UInt8} (hn : n ≤ 5) (h : uK last n c = 1) : n < 5 := by
  unfold uK at h
  by_cases e : n = 5
  · rw [if_pos e] at h; split at h <;> omega
  · omega
theorem sizeE_or' (l : List UInt8) : sizeE l = 0 ∨ sizeE l = 3 ∨ sizeE l = 12 := by unfold sizeE; split; simp; split; simp; split <;> simp
theorem size3_short {l : List UInt8} (h : sizeE l = 3) : l.length < 14 ∨ l.length < fxN l := by
  unfold sizeE at h
  split at h
  · left; assumption
  · split at h
    · right; assumption
    · split at h <;> omega
/-- A bit more: how long it may be, where its size is told. -/
theorem le_snoc {l : List UInt8} {c : UInt8} {n : Nat} (hs : sizeE l ≠ 12) (hl : sizeE l = 0 → l.length ≤ sizeV l + 15) (hd : doneB l n = false) (hn : n < 5) (h0 : sizeE (l ++ [c]) = 0) : (l ++ [c]).length ≤ sizeV (l ++ [c]) + 15 := by
  rcases sizeE_or' l with h | h | h
  · have h1 := hl h
    have h2 := (size_append [c] (.inl h)).2
    rw [h2, List.length_append, List.length_singleton]
    have : l.length ≠ sizeV l + 15 := by
      intro e
      unfold doneB at hd
      rw [decide_eq_true h, decide_eq_true e, decide_eq_true hn] at hd
      cases hd
    omega
  · have h1 := size3_short h
    have h2 := sizeV_ge h0
    have h3 := fxN_or (l ++ [c])
    have h4 := fxN_or l
    rw [List.length_append, List.length_singleton]
    rcases h1 with h1 | h1
    · omega
    · by_cases h14 : 14 ≤ l.length
      · have := fxN_append (r := [c]) h14
        omega
      · omega
  · exact absurd h hs
theorem got_most {l : List UInt8} (hs : sizeE l ≠ 12) (hl : sizeE l = 0 → l.length ≤ sizeV l + 15) : l.length ≤ 118 := by
  rcases sizeE_or' l with h | h | h
  · have := hl h
    have := sizeV_bd l
    omega
  · have h1 := size3_short h
    have h4 := fxN_or l
    omega
  · exact absurd h hs
theorem done_one : doneB [48] 1 = false := by decide
theorem size_one : sizeE [48] = 3 := by decide
theorem good_sum {f : Fr} (hr : rightB f = true) : goodB (sumF (headF f)) = true := by
  have F := full_of hr
  have h15 : 15 ≤ (sumF (headF f)).length := by rw [sum_length]; omega
  unfold goodB
  rw [decide_eq_true h15, headOf_sum, read_head hr, decide_eq_true ((crc_law h15 F.bits).2 (by rw [headOf_sum]))]
  rfl
end Go.Proofs.YthkilodnghiocaaGreatDoor.FP

/-
  DERIVED: THE SHELF's CONTRACTS AT THIS DUMP, IN PLAIN WORDS (tools/lay-plain.mjs out of 'TryzShelf.lean', which tools/lay-shelf.mjs wrote): THE SAME DECLARATIONS UNDER THE SAME NAMES: 'import', 'namespace', 'open', 'def', 'theorem' AND NOTHING ELSE: no command of the shelf's: FOR A HAND-IN. Each laying: the table of numbers ('.._ren') and one theorem, a field a fact of the dump's own or the kernel's comparison; each contract: ONE APPLICATION.
-/
namespace Go.Proofs
open Go.Shelf
def Tryz.lays161_ren : Go.Shelf.Ren := ⟨fun | 161 => 65 | 231 => 91 | 227 => 92 | 233 => 93 | 235 => 94 | 228 => 103 | 197 => 104 | 151 => 105 | 260 => 110 | 152 => 111 | 137 => 115 | 119 => 116 | 224 => 117 | 225 => 118 | 217 => 126 | 266 => 128 | n => n, fun | 9 => 9 | 4 => 4 | 3 => 3 | 5 => 5 | 117 => 164 | 116 => 163 | 0 => 0 | 124 => 167 | 105 => 174 | 21 => 21 | 119 => 187 | 46 => 130 | 139 => 190 | 138 => 189 | n => n, fun | 3 => 0 | 4 => 1 | n => n⟩
theorem Tryz.lays161 : Go.Proofs.Lays.n161 Tryz.prog Tryz.lays161_ren := {
  mixed := by kernel_rfl
  f119 := Tryz.func116.trans (congrArg some (by kernel_rfl))
  f137 := Tryz.func115.trans (congrArg some (by kernel_rfl))
  f151 := Tryz.func105.trans (congrArg some (by kernel_rfl))
  f152 := Tryz.func111.trans (congrArg some (by kernel_rfl))
  f161 := Tryz.func65.trans (congrArg some (by kernel_rfl))
  f197 := Tryz.func104.trans (congrArg some (by kernel_rfl))
  f217 := Tryz.func126.trans (congrArg some (by kernel_rfl))
  f224 := Tryz.func117.trans (congrArg some (by kernel_rfl))
  f225 := Tryz.func118.trans (congrArg some (by kernel_rfl))
  f227 := Tryz.func92.trans (congrArg some (by kernel_rfl))
  f228 := Tryz.func103.trans (congrArg some (by kernel_rfl))
  f231 := Tryz.func91.trans (congrArg some (by kernel_rfl))
  f233 := Tryz.func93.trans (congrArg some (by kernel_rfl))
  f235 := Tryz.func94.trans (congrArg some (by kernel_rfl))
  f260 := Tryz.func110.trans (congrArg some (by kernel_rfl))
  f266 := Tryz.func128.trans (congrArg some (by kernel_rfl))
  t0 := Tryz.underlying0
  a0 := Tryz.isAgg0
  z0 := Tryz.sizeOf0
  v0 := Tryz.zeroValue0
  t3 := Tryz.underlying3
  a3 := Tryz.isAgg3
  z3 := Tryz.sizeOf3
  v3 := Tryz.zeroValue3
  t4 := Tryz.underlying4
  a4 := Tryz.isAgg4
  z4 := Tryz.sizeOf4
  v4 := Tryz.zeroValue4
  t5 := Tryz.underlying5
  a5 := Tryz.isAgg5
  z5 := Tryz.sizeOf5
  v5 := Tryz.zeroValue5
  t9 := Tryz.underlying9
  a9 := Tryz.isAgg9
  z9 := Tryz.sizeOf9
  v9 := Tryz.zeroValue9
  t21 := Tryz.underlying21
  a21 := Tryz.isAgg21
  z21 := Tryz.sizeOf21
  v21 := Tryz.zeroValue21
  t46 := Tryz.underlying130
  a46 := Tryz.isAgg130
  z46 := Tryz.sizeOf130
  v46 := Tryz.zeroValue130
  t105 := Tryz.underlying174
  a105 := Tryz.isAgg174
  z105 := Tryz.sizeOf174
  v105 := Tryz.zeroValue174
  t116 := Tryz.underlying163
  a116 := Tryz.isAgg163
  z116 := Tryz.sizeOf163
  t117 := Tryz.underlying164
  a117 := Tryz.isAgg164
  z117 := Tryz.sizeOf164
  v117 := Tryz.zeroValue164
  t119 := Tryz.underlying187
  a119 := Tryz.isAgg187
  z119 := Tryz.sizeOf187
  t124 := Tryz.underlying167
  a124 := Tryz.isAgg167
  z124 := Tryz.sizeOf167
  v124 := Tryz.zeroValue167
  t138 := Tryz.underlying189
  a138 := Tryz.isAgg189
  z138 := Tryz.sizeOf189
  v138 := Tryz.zeroValue189
  t139 := Tryz.underlying190
  a139 := Tryz.isAgg190
  z139 := Tryz.sizeOf190
  v139 := Tryz.zeroValue190
  g3 := by kernel_rfl
  g4 := by kernel_rfl }
end Go.Proofs

/- strings.Builder in a block of whatever type begins with one: WriteString, String of what is not empty. -/
namespace Go.Proofs.YthkilodnghiocaaGreatDoor
open Go.ChangeShapes Go.WideShapes Go.ChangeAt Go.RowKit

/-- A type whose variables are just a builder's two cells, seen as a builder. -/
def BT (t : TypeId) : Prop := liesAt Tryz.prog Tryz.prog.depth t (2 / Tryz.prog.cellsOf t) 0 125 1 = true ∧ t ≠ 5

theorem bld_info : (Tryz.prog.info? 125).map (·.size) = some 2 := by kernel_rfl

set_option maxRecDepth 100000 in
set_option maxHeartbeats 400000 in
theorem cc_used (b : Nat) (w : World) (h0 : w.cell? ⟨b, 0, none⟩ = some (.pointer (some ⟨b, 0, none⟩))) :
    Calls Tryz.prog 90 #[.pointer (some ⟨b, 0, none⟩)] w fun e w' => e = .returned (.tuple #[]) ∧ w' = w := by
  obtain ⟨j, hj, _⟩ := Option.map_eq_some_iff.1 bld_info
  go_enter Tryz.func90, Tryz.ntmps90
  go_wp2
  rw [Lib.run_neq_ptr_same w _ Tryz.underlying123 hj]
  go_wp2
  go_end0
  exact ⟨rfl, rfl⟩

set_option maxRecDepth 100000 in
set_option maxHeartbeats 400000 in
theorem cc_fresh (t b : Nat) (ht : BT t) (w : World) (h0 : w.cell? ⟨b, 0, none⟩ = some (.pointer none)) (hsh : w.shape? b = some (t, 2)) (hfz : w.frozen? ⟨b, 0, none⟩ = false) :
    Calls Tryz.prog 90 #[.pointer (some ⟨b, 0, none⟩)] w fun e w' => e = .returned (.tuple #[]) ∧ w' = w.setCell ⟨b, 0, none⟩ (.pointer (some ⟨b, 0, none⟩)) := by
  obtain ⟨j, hj, hjs⟩ := Option.map_eq_some_iff.1 bld_info
  have e1 := Lib.run_to_unsafe w (P := Tryz.prog) ⟨b, 0, none⟩ Tryz.underlying123 Tryz.underlying172 hj (by rw [hjs]; decide) hsh (Nat.zero_lt_succ 1)
  have e2 := Lib.run_from_unsafe w (P := Tryz.prog) ⟨b, 0, none⟩ Tryz.underlying172 Tryz.underlying123 hj hsh ht.1
  have E1 := hide e1
  have E2 := hide e2
  clear e1 e2 hsh
  go_enter Tryz.func90, Tryz.ntmps90
  go_wp2
  rw [E1.out]
  simp only [Result.andThen]
  rw [Oper.upon_value]
  go_wp2
  rw [run_callFunc_extern Tryz.func102 (by kernel_rfl) (by kernel_rfl) (by kernel_rfl) (e := Extern.AbiNoEscape.same) (by kernel_rfl)]
  rw [Lib.run_noEscape]
  simp only [Result.andThen]
  rw [Oper.upon_value]
  go_wp2
  rw [E2.out]
  simp only [Result.andThen]
  rw [Oper.upon_value]
  go_wp2
  go_end0
  exact ⟨rfl, rfl⟩

theorem cc_any (t b B : Nat) (ht : BT t) (bs : List Value) (w : World) (h : Lib.IsBuilder t 5 B b bs w) :
    Calls Tryz.prog 90 #[.pointer (some ⟨b, 0, none⟩)] w fun e w' => e = .returned (.tuple #[]) ∧ Lib.BuilderAt t 5 B b (.pointer (some ⟨b, 0, none⟩)) bs w' ∧ Below B w w' := by
  rcases h with h | h
  · exact (cc_fresh t b ht w h.cell0 h.shape h.frozen0).mono fun _ _ ⟨a, c⟩ => by subst c; exact ⟨a, h.used _, (Below.refl B w).setCell (p := ⟨b, 0, none⟩) h.1 _⟩
  · exact (cc_used b w h.cell0).mono fun _ _ ⟨a, c⟩ => by subst c; exact ⟨a, h, Below.refl B _⟩

set_option maxRecDepth 100000 in
set_option maxHeartbeats 400000 in
theorem ws_any (t b B : Nat) (ht : BT t) (l : List UInt8) (s : ByteArray) (w : World) (h : Lib.IsBuilder t 5 B b (Lib.byteCells l) w) (hlen : l.length + s.size ≤ 1000000) (hBw : B ≤ w.heap.size) :
    Calls Tryz.prog 60 #[.pointer (some ⟨b, 0, none⟩), .string s] w fun e w' => e = .returned (.tuple #[.int .i64 s.size, .nilIface]) ∧ Lib.IsBuilder t 5 B b (Lib.byteCells (l ++ s.data.toList)) w' ∧ Below B w w' := by
  obtain ⟨i0, hi, hz0, hz1, hz2⟩ := info_parts (P := Tryz.prog) (e := 5) (z := .int .u8 0) (size := 1) (bytes := 1) (by kernel_rfl)
  have CC := hide (cc_any t b B ht _ w h)
  have BL : (Lib.byteCells l).length = l.length := Lib.byteCells_length l
  go_enter Tryz.func60, Tryz.ntmps60
  go_wp2_with fail
  refine CC.out.mono ?_
  rintro e w1 ⟨rfl, ⟨hB, v, hbk, hown, hne⟩, hb1⟩
  have c1 : w1.cell? ⟨b, 1, none⟩ = some v := by rw [Lib.cell_of_heap hbk]; rfl
  have HK := hide hbk
  have HO := hide hown
  clear hbk hown CC h
  go_wp2_with (at_builtin; refine Lib.wpList_append_own_string _ rfl _ _ 110 9 rfl B 5 i0 Tryz.underlying110 Tryz.underlying9 hi hz0 hz1 hz2 _ _ _ rfl HO.out s rfl ?c3 ?c4 ?c5 ?_)
  case c3 => unfold maxLen; omega
  case c4 => omega
  case c5 => have := hb1.size; omega
  intro v' w2 hown' hgrow _
  have hlt : b < w1.heap.size := by
    rcases Nat.lt_or_ge b w1.heap.size with h' | h'
    · exact h'
    · have := HK.out; simp [Array.getElem?_eq_none h'] at this
  have hb2 : w2.heap[b]? = some (.cells #[.pointer (some ⟨b, 0, none⟩), v] t (0, 0)) := by
    rw [hgrow.block b hlt (fun e => hne e.symm)]
    exact HK.out
  have d1 : w2.cell? ⟨b, 1, none⟩ = some v := by rw [Lib.cell_of_heap hb2]; rfl
  have f1 : w2.frozen? ⟨b, 1, none⟩ = false := Lib.frozen_of_heap hb2 1
  obtain ⟨ao, n', cap, rfl⟩ : ∃ ao n' cap, v' = .slice ao n' cap := by
    rcases hown'.2 with ⟨hv, _⟩ | ⟨g, cap, cur, hv, _⟩
    · exact ⟨_, _, _, hv⟩
    · exact ⟨_, _, _, hv⟩
  have q : Below B w (w2.setCell ⟨b, 1, none⟩ (.slice ao n' cap)) := (hb1.grown hgrow (by have := hb1.size; omega) (fun k hk => (HO.out.lt k hk).1)).setCell (p := ⟨b, 1, none⟩) hB _
  have r : Lib.IsBuilder t 5 B b (Lib.byteCells (l ++ s.data.toList)) (w2.setCell ⟨b, 1, none⟩ (.slice ao n' cap)) := by
    right
    refine Lib.BuilderAt.put (T := t) (e := 5) hB hb2 ?_ ht.2
    have e : Lib.byteCells (l ++ s.data.toList) = Lib.byteCells l ++ Lib.strCells s := by simp [Lib.byteCells, Lib.strCells]
    rw [e, List.length_append, Lib.strCells_length, Lib.byteCells_length]
    simpa [BL] using hown'
  have Q := hide q
  have R := hide r
  clear q r hown' hgrow hb2 hlt BL hi hz0 hz1 hz2
  go_wp2
  go_ret2
  exact ⟨rfl, R.out, Q.out⟩

set_option maxRecDepth 100000 in
set_option maxHeartbeats 1000000 in
theorem bstr_any (t b B : Nat) (l : List UInt8) (w : World) (h : Lib.IsBuilder t 5 B b (Lib.byteCells l) w) (h0 : l ≠ []) :
    Calls Tryz.prog 61 #[.pointer (some ⟨b, 0, none⟩)] w fun e w' => e = .returned (.string ⟨l.toArray⟩) ∧ Below B w w' := by
  obtain ⟨p, hB, v, hbk, hown, hne⟩ : ∃ p, Lib.BuilderAt t 5 B b p (Lib.byteCells l) w := by
    rcases h with h | h
    · exact ⟨_, h⟩
    · exact ⟨_, h⟩
  have hl0 : 0 < l.length := List.length_pos_iff.2 h0
  rw [Lib.byteCells_length] at hown
  obtain ⟨g, cap, hv, hbg, _⟩ := World.ownsRow.form hown hl0
  subst hv
  obtain ⟨cur, hg, hcap, hcs⟩ : ∃ cur, w.heap[g]? = some (.cells cur 5 (0, 0)) ∧ l.length ≤ cap ∧ cap ≤ maxLen ∧ cur.size = cap * 1 := by
    rcases hown.2 with ⟨h', _⟩ | ⟨g', cap', cur, h', _, hg, hnc, hcm, hcs, _⟩
    · simp at h'
    · simp only [Value.slice.injEq, Option.some.injEq, Addr.mk.injEq, and_true, true_and] at h'
      obtain ⟨rfl, rfl⟩ := h'
      exact ⟨cur, hg, hnc, hcm, hcs⟩
  have c1 : w.drew.cell? ⟨b, 1, none⟩ = some (.slice (some ⟨g, 0, none⟩) l.length cap) := by
    have : w.drew.heap[b]? = some (.cells #[p, .slice (some ⟨g, 0, none⟩) l.length cap] t (0, 0)) := hbk
    rw [Lib.cell_of_heap this]; rfl
  have hSD : (Builtin.unsafeSliceData_ #[110] 160 #[.slice (some ⟨g, 0, none⟩) l.length cap]).run Tryz.prog w.drew = .ok (.pointer (some ⟨g, 0, none⟩)) w.drew :=
    Lib.run_unsafeSliceData_row _ _ _ _ _ _ (by omega)
  have hUS : (Builtin.unsafeString_ #[160, 3] 9 #[.pointer (some ⟨g, 0, none⟩), .int .i64 l.length]).run Tryz.prog w.drew = .ok (.string ⟨l.toArray⟩) (w.drew.freeze ⟨g, 0, none⟩ l.length) := by
    refine Lib.run_unsafeString_row w.drew 160 3 9 5 Tryz.underlying160 (by kernel_rfl) g cur.size (by have hg' : w.drew.heap[g]? = some (.cells cur 5 (0, 0)) := hg; simp [World.shape?, hg']) l h0 (by omega) (by have := hcs.1; unfold maxLen at this; omega) ?_
    intro j x hx
    exact hown.cells (g := g) rfl j (.int .u8 x.toNat) (by simp [Lib.byteCells, hx])
  clear hown hbk hg hcs hcap hl0 h0
  go_enter Tryz.func61, Tryz.ntmps61
  go_wp2
  go_region
  all_goals
    go_wp2
    go_ret
    exact ⟨rfl, Lib.below_freeze (Below.drew (Below.refl B w)) (p := ⟨g, 0, none⟩) hbg _⟩

theorem bldAt_keep {t e B b : Nat} {p : Value} {bs : List Value} {w w' : World} (h : Lib.BuilderAt t e B b p bs w) (hb : Below w.heap.size w w') : Lib.BuilderAt t e B b p bs w' := by
  have hlt := h.lt
  obtain ⟨hB, v, hbk, hown, hne⟩ := h
  refine ⟨hB, v, (hb.block b hlt).trans hbk, World.ownsRow.kept (row := none) hown ⟨hb.os, hb.tape, hb.output, hb.size, fun k hk _ => hb.block k hk⟩ ?_, hne⟩
  cases hv : v.ownBlock
  · exact .inl rfl
  · exact .inr (by simp)
theorem bld_keep {t e B b : Nat} {bs : List Value} {w w' : World} (h : Lib.IsBuilder t e B b bs w) (hb : Below w.heap.size w w') : Lib.IsBuilder t e B b bs w' :=
  h.elim (fun x => .inl (bldAt_keep x hb)) (fun x => .inr (bldAt_keep x hb))
theorem bld_lt {t e B b : Nat} {bs : List Value} {w : World} (h : Lib.IsBuilder t e B b bs w) : b < w.heap.size := h.elim (fun x => x.lt) (fun x => x.lt)
theorem bld_le {t e B b : Nat} {bs : List Value} {w : World} (h : Lib.IsBuilder t e B b bs w) : B ≤ b := h.elim (fun x => x.1) (fun x => x.1)
end Go.Proofs.YthkilodnghiocaaGreatDoor
