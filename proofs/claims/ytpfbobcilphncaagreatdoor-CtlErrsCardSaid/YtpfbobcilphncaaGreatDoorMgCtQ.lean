/- Walks of a machine's echo (a recessive bit), hold and gap (a dominant one). -/
import Derived.Test.YtpfbobcilphncaaGreatDoorCtP
import Derived.Ground.NamesProg
import Derived.Shelf.Strings.SlTrimAscii
import Derived.Test.YtpfbobcilphncaaGreatDoorChecked
import Derived.Test.YtpfbobcilphncaaGreatDoorMem
import Derived.Lib.Builder
import Derived.Lib.AppendStr
import Derived.Lib.UnsafeStr
import Derived.Lib.Strings
import Derived.Lib.Slices
import Derived.Laws.Externs
import Derived.RegionTactic
namespace Go.Proofs.YtpfbobcilphncaaGreatDoor
open Go.ChangeShapes Go.WideShapes Go.ChangeAt Go.RowKit Go.Maps
open FP (Fr)

/-- The first recessive bit behind a flag. -/
def Cl.echo1 (c : Cl) : Cl := { c.to 5 with n := 1 }
set_option maxRecDepth 100000 in
set_option maxHeartbeats 4000000 in
theorem mcEcho_high (c : Cl) (ev : List Value) (b : Nat) (t : TypeId) (w : World) (h : Hid (w.heap[b]? = some (.cells (mcL c ev).toArray t (0, 0)))) :
    Calls Tryz.prog 43 #[.pointer (some ⟨b, 0, none⟩), .int .u8 49] w fun e w' => (∃ v, e = .returned v) ∧ w'.heap[b]? = some (.cells (mcL c.echo1 ev).toArray t (0, 0)) ∧ Below b w w' := by
  have TO := hide (mcTo_any c ev 5 b t w h)
  clear h
  go_enter Tryz.func43, Tryz.ntmps43
  go_wp2_with fail
  (with_reducible refine (TO.out).mono ?_)
  rintro e1 w1 ⟨⟨v, rfl⟩, hB, q1⟩
  obtain ⟨_, ⟨_, c5, _⟩, _⟩ := mc_cells hB
  have f5 := cl_froz hB 5
  have H := hide (mc_set hB 5 (.int .i64 1))
  have Q1 := hide (below_set q1 5 (.int .i64 1))
  clear hB q1 TO
  go_wp2_with fail
  refine bodyPost_ret (results_none (by rfl) _ _ _) rfl ⟨⟨_, rfl⟩, ?_, Q1.out⟩
  have := H.out
  simpa [mcL, Cl.cs, Cl.echo1] using this

set_option maxRecDepth 100000 in
set_option maxHeartbeats 4000000 in
theorem mcHold_low (c : Cl) (ev : List Value) (b : Nat) (t : TypeId) (w : World) (h : Hid (w.heap[b]? = some (.cells (mcL c ev).toArray t (0, 0)))) (h0 : 0 ≤ c.n) (h7 : c.n ≤ 7) :
    Calls Tryz.prog 46 #[.pointer (some ⟨b, 0, none⟩), .int .u8 48] w fun e w' => (∃ v, e = .returned v) ∧ w'.heap[b]? = some (.cells (mcL c.begin0 ev).toArray t (0, 0)) ∧ Below b w w' := by
  obtain ⟨_, ⟨_, c5, _⟩, _⟩ := mc_cells h.out
  have f5 := cl_froz h.out 5
  have H := mc_set h.out 5 (.int .i64 (c.n + 1))
  have HB := hide (show (w.setCell ⟨b, 5, none⟩ (.int .i64 (c.n + 1))).heap[b]? = some (.cells (mcL { c with n := c.n + 1 } ev).toArray t (0, 0)) by simpa [mcL, Cl.cs] using H)
  have Q1 := hide (below_set (Below.refl b w) 5 (.int .i64 (c.n + 1)))
  have BG := hide (mcBegins_no { c with n := c.n + 1 } ev b t (w.setCell ⟨b, 5, none⟩ (.int .i64 (c.n + 1))) HB)
  clear H h HB
  go_enter Tryz.func46, Tryz.ntmps46
  go_wp2_with fail
  (with_reducible refine (BG.out).mono ?_)
  rintro e1 w1 ⟨⟨v, rfl⟩, hB, q1⟩
  go_wp2_with fail
  go_end0
  exact ⟨⟨_, rfl⟩, hB, Q1.out.trans q1⟩

/-- A dominant bit comes between frames. -/
def Cl.gap0 (c : Cl) : Cl := if c.n = 2 then c.begin0 else { c.to 3 with hard := true }
set_option maxRecDepth 100000 in
set_option maxHeartbeats 4000000 in
theorem mcGap_low (c : Cl) (ev : List Value) (b : Nat) (t : TypeId) (w : World) (h : Hid (w.heap[b]? = some (.cells (mcL c ev).toArray t (0, 0)))) (h0 : 0 ≤ c.n) (h2 : c.n ≤ 2) :
    Calls Tryz.prog 45 #[.pointer (some ⟨b, 0, none⟩), .int .u8 48] w fun e w' => (∃ v, e = .returned v) ∧ w'.heap[b]? = some (.cells (mcL c.gap0 ev).toArray t (0, 0)) ∧ Below b w w' := by
  obtain ⟨_, ⟨_, c5, _⟩, _⟩ := mc_cells h.out
  have f5 := cl_froz h.out 5
  have H := mc_set h.out 5 (.int .i64 (c.n + 1))
  have HB := hide (show (w.setCell ⟨b, 5, none⟩ (.int .i64 (c.n + 1))).heap[b]? = some (.cells (mcL { c with n := c.n + 1 } ev).toArray t (0, 0)) by simpa [mcL, Cl.cs] using H)
  have Q1 := hide (below_set (Below.refl b w) 5 (.int .i64 (c.n + 1)))
  clear H h
  by_cases e : c.n = 2
  · have EG := hide (show c.gap0 = ({ c with n := c.n + 1 } : Cl).begin0 by unfold Cl.gap0; rw [if_pos e]; rfl)
    have BG := hide (mcBegins_no { c with n := c.n + 1 } ev b t (w.setCell ⟨b, 5, none⟩ (.int .i64 (c.n + 1))) HB)
    rw [e] at c5
    have e11 : c.n + 1 = 3 := by omega
    rw [e11] at BG Q1 EG
    clear h0 h2 e e11 HB
    go_enter Tryz.func45, Tryz.ntmps45
    go_wp2_with fail
    (with_reducible refine (BG.out).mono ?_)
    rintro e1 w1 ⟨⟨v, rfl⟩, hB, q1⟩
    go_wp2_with fail
    go_end0
    exact ⟨⟨_, rfl⟩, by rw [EG.out]; exact hB, Q1.out.trans q1⟩
  · have EG := hide (show c.gap0 = { ({ c with n := c.n + 1 } : Cl).to 3 with hard := true } by unfold Cl.gap0; rw [if_neg e]; rfl)
    have TO := hide (mcTo_any { c with n := c.n + 1 } ev 3 b t (w.setCell ⟨b, 5, none⟩ (.int .i64 (c.n + 1))) HB)
    have hne : ¬ c.n + 1 = 3 := by omega
    clear HB
    go_enter Tryz.func45, Tryz.ntmps45
    go_wp2_with fail
    (with_reducible refine (TO.out).mono ?_)
    rintro e1 w1 ⟨⟨v, rfl⟩, hB, q1⟩
    obtain ⟨_, ⟨_, _, _, c7', _⟩, _⟩ := mc_cells hB
    have f7 := cl_froz hB 7
    have H7 := hide (mc_set hB 7 (.bool true))
    have Q5 := hide (below_set (Q1.out.trans q1) 7 (.bool true))
    clear hB q1 TO
    go_wp2_with fail
    go_end0
    refine ⟨⟨_, rfl⟩, ?_, Q5.out⟩
    rw [EG.out]
    have := H7.out
    simpa [mcL, Cl.cs] using this
end Go.Proofs.YtpfbobcilphncaaGreatDoor

/-
  DERIVED: THE SHELF's CONTRACTS AT THIS DUMP, IN PLAIN WORDS (tools/lay-plain.mjs out of 'TryzShelf.lean', which tools/lay-shelf.mjs wrote): THE SAME DECLARATIONS UNDER THE SAME NAMES: 'import', 'namespace', 'open', 'def', 'theorem' AND NOTHING ELSE: no command of the shelf's: FOR A HAND-IN. Each laying: the table of numbers ('.._ren') and one theorem, a field a fact of the dump's own or the kernel's comparison; each contract: ONE APPLICATION.
-/
namespace Go.Proofs
open Go.Shelf
def Tryz.lays161_ren : Go.Shelf.Ren := ⟨fun | 161 => 69 | 231 => 81 | 227 => 82 | 233 => 83 | 235 => 84 | 228 => 96 | 197 => 97 | 151 => 98 | 260 => 109 | 152 => 110 | 137 => 112 | 119 => 113 | 224 => 114 | 225 => 115 | 217 => 116 | 266 => 117 | n => n, fun | 9 => 9 | 4 => 4 | 3 => 3 | 5 => 5 | 117 => 117 | 116 => 116 | 0 => 0 | 124 => 120 | 105 => 140 | 21 => 21 | 119 => 147 | 46 => 60 | 139 => 150 | 138 => 149 | n => n, fun | 3 => 1 | 4 => 2 | n => n⟩
theorem Tryz.lays161 : Go.Proofs.Lays.n161 Tryz.prog Tryz.lays161_ren := {
  mixed := by kernel_rfl
  f119 := Tryz.func113.trans (congrArg some (by kernel_rfl))
  f137 := Tryz.func112.trans (congrArg some (by kernel_rfl))
  f151 := Tryz.func98.trans (congrArg some (by kernel_rfl))
  f152 := Tryz.func110.trans (congrArg some (by kernel_rfl))
  f161 := Tryz.func69.trans (congrArg some (by kernel_rfl))
  f197 := Tryz.func97.trans (congrArg some (by kernel_rfl))
  f217 := Tryz.func116.trans (congrArg some (by kernel_rfl))
  f224 := Tryz.func114.trans (congrArg some (by kernel_rfl))
  f225 := Tryz.func115.trans (congrArg some (by kernel_rfl))
  f227 := Tryz.func82.trans (congrArg some (by kernel_rfl))
  f228 := Tryz.func96.trans (congrArg some (by kernel_rfl))
  f231 := Tryz.func81.trans (congrArg some (by kernel_rfl))
  f233 := Tryz.func83.trans (congrArg some (by kernel_rfl))
  f235 := Tryz.func84.trans (congrArg some (by kernel_rfl))
  f260 := Tryz.func109.trans (congrArg some (by kernel_rfl))
  f266 := Tryz.func117.trans (congrArg some (by kernel_rfl))
  t0 := Tryz.underlying0
  a0 := Tryz.isAgg0
  z0 := Tryz.sizeOf0
  v0 := Tryz.zeroValue0
  t3 := Tryz.underlying3
  a3 := Tryz.isAgg3
  z3 := Tryz.sizeOf3
  v3 := Tryz.zeroValue3
  t4 := Tryz.underlying4
  a4 := Tryz.isAgg4
  z4 := Tryz.sizeOf4
  v4 := Tryz.zeroValue4
  t5 := Tryz.underlying5
  a5 := Tryz.isAgg5
  z5 := Tryz.sizeOf5
  v5 := Tryz.zeroValue5
  t9 := Tryz.underlying9
  a9 := Tryz.isAgg9
  z9 := Tryz.sizeOf9
  v9 := Tryz.zeroValue9
  t21 := Tryz.underlying21
  a21 := Tryz.isAgg21
  z21 := Tryz.sizeOf21
  v21 := Tryz.zeroValue21
  t46 := Tryz.underlying60
  a46 := Tryz.isAgg60
  z46 := Tryz.sizeOf60
  v46 := Tryz.zeroValue60
  t105 := Tryz.underlying140
  a105 := Tryz.isAgg140
  z105 := Tryz.sizeOf140
  v105 := Tryz.zeroValue140
  t116 := Tryz.underlying116
  a116 := Tryz.isAgg116
  z116 := Tryz.sizeOf116
  t117 := Tryz.underlying117
  a117 := Tryz.isAgg117
  z117 := Tryz.sizeOf117
  v117 := Tryz.zeroValue117
  t119 := Tryz.underlying147
  a119 := Tryz.isAgg147
  z119 := Tryz.sizeOf147
  t124 := Tryz.underlying120
  a124 := Tryz.isAgg120
  z124 := Tryz.sizeOf120
  v124 := Tryz.zeroValue120
  t138 := Tryz.underlying149
  a138 := Tryz.isAgg149
  z138 := Tryz.sizeOf149
  v138 := Tryz.zeroValue149
  t139 := Tryz.underlying150
  a139 := Tryz.isAgg150
  z139 := Tryz.sizeOf150
  v139 := Tryz.zeroValue150
  g3 := by kernel_rfl
  g4 := by kernel_rfl }
end Go.Proofs

/- strings.Builder in a block of whatever type begins with one: WriteString, String of what is not empty. -/
namespace Go.Proofs.YtpfbobcilphncaaGreatDoor
open Go.ChangeShapes Go.WideShapes Go.ChangeAt Go.RowKit

/-- A type whose variables are just a builder's two cells, seen as a builder. -/
def BT (t : TypeId) : Prop := liesAt Tryz.prog Tryz.prog.depth t (2 / Tryz.prog.cellsOf t) 0 67 1 = true ∧ t ≠ 5

theorem bld_info : (Tryz.prog.info? 67).map (·.size) = some 2 := by kernel_rfl

set_option maxRecDepth 100000 in
set_option maxHeartbeats 400000 in
theorem cc_used (b : Nat) (w : World) (h0 : w.cell? ⟨b, 0, none⟩ = some (.pointer (some ⟨b, 0, none⟩))) :
    Calls Tryz.prog 51 #[.pointer (some ⟨b, 0, none⟩)] w fun e w' => e = .returned (.tuple #[]) ∧ w' = w := by
  obtain ⟨j, hj, _⟩ := Option.map_eq_some_iff.1 bld_info
  go_enter Tryz.func51, Tryz.ntmps51
  go_wp2
  rw [Lib.run_neq_ptr_same w _ Tryz.underlying64 hj]
  go_wp2
  go_end0
  exact ⟨rfl, rfl⟩

set_option maxRecDepth 100000 in
set_option maxHeartbeats 400000 in
theorem cc_fresh (t b : Nat) (ht : BT t) (w : World) (h0 : w.cell? ⟨b, 0, none⟩ = some (.pointer none)) (hsh : w.shape? b = some (t, 2)) (hfz : w.frozen? ⟨b, 0, none⟩ = false) :
    Calls Tryz.prog 51 #[.pointer (some ⟨b, 0, none⟩)] w fun e w' => e = .returned (.tuple #[]) ∧ w' = w.setCell ⟨b, 0, none⟩ (.pointer (some ⟨b, 0, none⟩)) := by
  obtain ⟨j, hj, hjs⟩ := Option.map_eq_some_iff.1 bld_info
  have e1 := Lib.run_to_unsafe w (P := Tryz.prog) ⟨b, 0, none⟩ Tryz.underlying64 Tryz.underlying99 hj (by rw [hjs]; decide) hsh (Nat.zero_lt_succ 1)
  have e2 := Lib.run_from_unsafe w (P := Tryz.prog) ⟨b, 0, none⟩ Tryz.underlying99 Tryz.underlying64 hj hsh ht.1
  have E1 := hide e1
  have E2 := hide e2
  clear e1 e2 hsh
  go_enter Tryz.func51, Tryz.ntmps51
  go_wp2
  rw [E1.out]
  simp only [Result.andThen]
  rw [Oper.upon_value]
  go_wp2
  rw [run_callFunc_extern Tryz.func66 (by kernel_rfl) (by kernel_rfl) (by kernel_rfl) (e := Extern.AbiNoEscape.same) (by kernel_rfl)]
  rw [Lib.run_noEscape]
  simp only [Result.andThen]
  rw [Oper.upon_value]
  go_wp2
  rw [E2.out]
  simp only [Result.andThen]
  rw [Oper.upon_value]
  go_wp2
  go_end0
  exact ⟨rfl, rfl⟩

theorem cc_any (t b B : Nat) (ht : BT t) (bs : List Value) (w : World) (h : Lib.IsBuilder t 5 B b bs w) :
    Calls Tryz.prog 51 #[.pointer (some ⟨b, 0, none⟩)] w fun e w' => e = .returned (.tuple #[]) ∧ Lib.BuilderAt t 5 B b (.pointer (some ⟨b, 0, none⟩)) bs w' ∧ Below B w w' := by
  rcases h with h | h
  · exact (cc_fresh t b ht w h.cell0 h.shape h.frozen0).mono fun _ _ ⟨a, c⟩ => by subst c; exact ⟨a, h.used _, (Below.refl B w).setCell (p := ⟨b, 0, none⟩) h.1 _⟩
  · exact (cc_used b w h.cell0).mono fun _ _ ⟨a, c⟩ => by subst c; exact ⟨a, h, Below.refl B _⟩

set_option maxRecDepth 100000 in
set_option maxHeartbeats 400000 in
theorem ws_any (t b B : Nat) (ht : BT t) (l : List UInt8) (s : ByteArray) (w : World) (h : Lib.IsBuilder t 5 B b (Lib.byteCells l) w) (hlen : l.length + s.size ≤ 1000000) (hBw : B ≤ w.heap.size) :
    Calls Tryz.prog 28 #[.pointer (some ⟨b, 0, none⟩), .string s] w fun e w' => e = .returned (.tuple #[.int .i64 s.size, .nilIface]) ∧ Lib.IsBuilder t 5 B b (Lib.byteCells (l ++ s.data.toList)) w' ∧ Below B w w' := by
  obtain ⟨i0, hi, hz0, hz1, hz2⟩ := info_parts (P := Tryz.prog) (e := 5) (z := .int .u8 0) (size := 1) (bytes := 1) (by kernel_rfl)
  have CC := hide (cc_any t b B ht _ w h)
  have BL : (Lib.byteCells l).length = l.length := Lib.byteCells_length l
  go_enter Tryz.func28, Tryz.ntmps28
  go_wp2_with fail
  refine CC.out.mono ?_
  rintro e w1 ⟨rfl, ⟨hB, v, hbk, hown, hne⟩, hb1⟩
  have c1 : w1.cell? ⟨b, 1, none⟩ = some v := by rw [Lib.cell_of_heap hbk]; rfl
  have HK := hide hbk
  have HO := hide hown
  clear hbk hown CC h
  go_wp2_with (at_builtin; refine Lib.wpList_append_own_string _ rfl _ _ 65 9 rfl B 5 i0 Tryz.underlying65 Tryz.underlying9 hi hz0 hz1 hz2 _ _ _ rfl HO.out s rfl ?c3 ?c4 ?c5 ?_)
  case c3 => unfold maxLen; omega
  case c4 => omega
  case c5 => have := hb1.size; omega
  intro v' w2 hown' hgrow _
  have hlt : b < w1.heap.size := by
    rcases Nat.lt_or_ge b w1.heap.size with h' | h'
    · exact h'
    · have := HK.out; simp [Array.getElem?_eq_none h'] at this
  have hb2 : w2.heap[b]? = some (.cells #[.pointer (some ⟨b, 0, none⟩), v] t (0, 0)) := by
    rw [hgrow.block b hlt (fun e => hne e.symm)]
    exact HK.out
  have d1 : w2.cell? ⟨b, 1, none⟩ = some v := by rw [Lib.cell_of_heap hb2]; rfl
  have f1 : w2.frozen? ⟨b, 1, none⟩ = false := Lib.frozen_of_heap hb2 1
  obtain ⟨ao, n', cap, rfl⟩ : ∃ ao n' cap, v' = .slice ao n' cap := by
    rcases hown'.2 with ⟨hv, _⟩ | ⟨g, cap, cur, hv, _⟩
    · exact ⟨_, _, _, hv⟩
    · exact ⟨_, _, _, hv⟩
  have q : Below B w (w2.setCell ⟨b, 1, none⟩ (.slice ao n' cap)) := (hb1.grown hgrow (by have := hb1.size; omega) (fun k hk => (HO.out.lt k hk).1)).setCell (p := ⟨b, 1, none⟩) hB _
  have r : Lib.IsBuilder t 5 B b (Lib.byteCells (l ++ s.data.toList)) (w2.setCell ⟨b, 1, none⟩ (.slice ao n' cap)) := by
    right
    refine Lib.BuilderAt.put (T := t) (e := 5) hB hb2 ?_ ht.2
    have e : Lib.byteCells (l ++ s.data.toList) = Lib.byteCells l ++ Lib.strCells s := by simp [Lib.byteCells, Lib.strCells]
    rw [e, List.length_append, Lib.strCells_length, Lib.byteCells_length]
    simpa [BL] using hown'
  have Q := hide q
  have R := hide r
  clear q r hown' hgrow hb2 hlt BL hi hz0 hz1 hz2
  go_wp2
  go_ret2
  exact ⟨rfl, R.out, Q.out⟩

set_option maxRecDepth 100000 in
set_option maxHeartbeats 1000000 in
theorem bstr_any (t b B : Nat) (l : List UInt8) (w : World) (h : Lib.IsBuilder t 5 B b (Lib.byteCells l) w) (h0 : l ≠ []) :
    Calls Tryz.prog 30 #[.pointer (some ⟨b, 0, none⟩)] w fun e w' => e = .returned (.string ⟨l.toArray⟩) ∧ Below B w w' := by
  obtain ⟨p, hB, v, hbk, hown, hne⟩ : ∃ p, Lib.BuilderAt t 5 B b p (Lib.byteCells l) w := by
    rcases h with h | h
    · exact ⟨_, h⟩
    · exact ⟨_, h⟩
  have hl0 : 0 < l.length := List.length_pos_iff.2 h0
  rw [Lib.byteCells_length] at hown
  obtain ⟨g, cap, hv, hbg, _⟩ := World.ownsRow.form hown hl0
  subst hv
  obtain ⟨cur, hg, hcap, hcs⟩ : ∃ cur, w.heap[g]? = some (.cells cur 5 (0, 0)) ∧ l.length ≤ cap ∧ cap ≤ maxLen ∧ cur.size = cap * 1 := by
    rcases hown.2 with ⟨h', _⟩ | ⟨g', cap', cur, h', _, hg, hnc, hcm, hcs, _⟩
    · simp at h'
    · simp only [Value.slice.injEq, Option.some.injEq, Addr.mk.injEq, and_true, true_and] at h'
      obtain ⟨rfl, rfl⟩ := h'
      exact ⟨cur, hg, hnc, hcm, hcs⟩
  have c1 : w.drew.cell? ⟨b, 1, none⟩ = some (.slice (some ⟨g, 0, none⟩) l.length cap) := by
    have : w.drew.heap[b]? = some (.cells #[p, .slice (some ⟨g, 0, none⟩) l.length cap] t (0, 0)) := hbk
    rw [Lib.cell_of_heap this]; rfl
  have hSD : (Builtin.unsafeSliceData_ #[65] 86 #[.slice (some ⟨g, 0, none⟩) l.length cap]).run Tryz.prog w.drew = .ok (.pointer (some ⟨g, 0, none⟩)) w.drew :=
    Lib.run_unsafeSliceData_row _ _ _ _ _ _ (by omega)
  have hUS : (Builtin.unsafeString_ #[86, 3] 9 #[.pointer (some ⟨g, 0, none⟩), .int .i64 l.length]).run Tryz.prog w.drew = .ok (.string ⟨l.toArray⟩) (w.drew.freeze ⟨g, 0, none⟩ l.length) := by
    refine Lib.run_unsafeString_row w.drew 86 3 9 5 Tryz.underlying86 (by kernel_rfl) g cur.size (by have hg' : w.drew.heap[g]? = some (.cells cur 5 (0, 0)) := hg; simp [World.shape?, hg']) l h0 (by omega) (by have := hcs.1; unfold maxLen at this; omega) ?_
    intro j x hx
    exact hown.cells (g := g) rfl j (.int .u8 x.toNat) (by simp [Lib.byteCells, hx])
  clear hown hbk hg hcs hcap hl0 h0
  go_enter Tryz.func30, Tryz.ntmps30
  go_wp2
  go_region
  all_goals
    go_wp2
    go_ret
    exact ⟨rfl, Lib.below_freeze (Below.drew (Below.refl B w)) (p := ⟨g, 0, none⟩) hbg _⟩

theorem bldAt_keep {t e B b : Nat} {p : Value} {bs : List Value} {w w' : World} (h : Lib.BuilderAt t e B b p bs w) (hb : Below w.heap.size w w') : Lib.BuilderAt t e B b p bs w' := by
  have hlt := h.lt
  obtain ⟨hB, v, hbk, hown, hne⟩ := h
  refine ⟨hB, v, (hb.block b hlt).trans hbk, World.ownsRow.kept (row := none) hown ⟨hb.os, hb.tape, hb.output, hb.size, fun k hk _ => hb.block k hk⟩ ?_, hne⟩
  cases hv : v.ownBlock
  · exact .inl rfl
  · exact .inr (by simp)
theorem bld_keep {t e B b : Nat} {bs : List Value} {w w' : World} (h : Lib.IsBuilder t e B b bs w) (hb : Below w.heap.size w w') : Lib.IsBuilder t e B b bs w' :=
  h.elim (fun x => .inl (bldAt_keep x hb)) (fun x => .inr (bldAt_keep x hb))
theorem bld_lt {t e B b : Nat} {bs : List Value} {w : World} (h : Lib.IsBuilder t e B b bs w) : b < w.heap.size := h.elim (fun x => x.lt) (fun x => x.lt)
theorem bld_le {t e B b : Nat} {bs : List Value} {w : World} (h : Lib.IsBuilder t e B b bs w) : B ≤ b := h.elim (fun x => x.1) (fun x => x.1)
end Go.Proofs.YtpfbobcilphncaaGreatDoor
