/- strings.Builder in a block of whatever type begins with one: WriteString, String of what is not empty. -/
import Derived.Test.YtpfbobcilphncaaDoorMem
import Derived.Lib.Builder
import Derived.Lib.AppendStr
import Derived.Lib.UnsafeStr
import Derived.Lib.Strings
import Derived.Lib.Slices
import Derived.Laws.Externs
import Derived.RegionTactic
namespace Go.Proofs.YtpfbobcilphncaaDoor
open Go.ChangeShapes Go.WideShapes Go.ChangeAt Go.RowKit

/-- A type whose variables are just a builder's two cells, seen as a builder. -/
def BT (t : TypeId) : Prop := liesAt Tryd.prog Tryd.prog.depth t (2 / Tryd.prog.cellsOf t) 0 112 1 = true ∧ t ≠ 5

theorem bld_info : (Tryd.prog.info? 112).map (·.size) = some 2 := by kernel_rfl

set_option maxRecDepth 100000 in
set_option maxHeartbeats 400000 in
theorem cc_used (b : Nat) (w : World) (h0 : w.cell? ⟨b, 0, none⟩ = some (.pointer (some ⟨b, 0, none⟩))) :
    Calls Tryd.prog 92 #[.pointer (some ⟨b, 0, none⟩)] w fun e w' => e = .returned (.tuple #[]) ∧ w' = w := by
  obtain ⟨j, hj, _⟩ := Option.map_eq_some_iff.1 bld_info
  go_enter Tryd.func92, Tryd.ntmps92
  go_wp2
  rw [Lib.run_neq_ptr_same w _ Tryd.underlying110 hj]
  go_wp2
  go_end0
  exact ⟨rfl, rfl⟩

set_option maxRecDepth 100000 in
set_option maxHeartbeats 400000 in
theorem cc_fresh (t b : Nat) (ht : BT t) (w : World) (h0 : w.cell? ⟨b, 0, none⟩ = some (.pointer none)) (hsh : w.shape? b = some (t, 2)) (hfz : w.frozen? ⟨b, 0, none⟩ = false) :
    Calls Tryd.prog 92 #[.pointer (some ⟨b, 0, none⟩)] w fun e w' => e = .returned (.tuple #[]) ∧ w' = w.setCell ⟨b, 0, none⟩ (.pointer (some ⟨b, 0, none⟩)) := by
  obtain ⟨j, hj, hjs⟩ := Option.map_eq_some_iff.1 bld_info
  have e1 := Lib.run_to_unsafe w (P := Tryd.prog) ⟨b, 0, none⟩ Tryd.underlying110 Tryd.underlying139 hj (by rw [hjs]; decide) hsh (Nat.zero_lt_succ 1)
  have e2 := Lib.run_from_unsafe w (P := Tryd.prog) ⟨b, 0, none⟩ Tryd.underlying139 Tryd.underlying110 hj hsh ht.1
  have E1 := hide e1
  have E2 := hide e2
  clear e1 e2 hsh
  go_enter Tryd.func92, Tryd.ntmps92
  go_wp2
  rw [E1.out]
  simp only [Result.andThen]
  rw [Oper.upon_value]
  go_wp2
  rw [run_callFunc_extern Tryd.func102 (by kernel_rfl) (by kernel_rfl) (by kernel_rfl) (e := Extern.AbiNoEscape.same) (by kernel_rfl)]
  rw [Lib.run_noEscape]
  simp only [Result.andThen]
  rw [Oper.upon_value]
  go_wp2
  rw [E2.out]
  simp only [Result.andThen]
  rw [Oper.upon_value]
  go_wp2
  go_end0
  exact ⟨rfl, rfl⟩

theorem cc_any (t b B : Nat) (ht : BT t) (bs : List Value) (w : World) (h : Lib.IsBuilder t 5 B b bs w) :
    Calls Tryd.prog 92 #[.pointer (some ⟨b, 0, none⟩)] w fun e w' => e = .returned (.tuple #[]) ∧ Lib.BuilderAt t 5 B b (.pointer (some ⟨b, 0, none⟩)) bs w' ∧ Below B w w' := by
  rcases h with h | h
  · exact (cc_fresh t b ht w h.cell0 h.shape h.frozen0).mono fun _ _ ⟨a, c⟩ => by subst c; exact ⟨a, h.used _, (Below.refl B w).setCell (p := ⟨b, 0, none⟩) h.1 _⟩
  · exact (cc_used b w h.cell0).mono fun _ _ ⟨a, c⟩ => by subst c; exact ⟨a, h, Below.refl B _⟩

set_option maxRecDepth 100000 in
set_option maxHeartbeats 400000 in
theorem ws_any (t b B : Nat) (ht : BT t) (l : List UInt8) (s : ByteArray) (w : World) (h : Lib.IsBuilder t 5 B b (Lib.byteCells l) w) (hlen : l.length + s.size ≤ 1000000) (hBw : B ≤ w.heap.size) :
    Calls Tryd.prog 78 #[.pointer (some ⟨b, 0, none⟩), .string s] w fun e w' => e = .returned (.tuple #[.int .i64 s.size, .nilIface]) ∧ Lib.IsBuilder t 5 B b (Lib.byteCells (l ++ s.data.toList)) w' ∧ Below B w w' := by
  obtain ⟨i0, hi, hz0, hz1, hz2⟩ := info_parts (P := Tryd.prog) (e := 5) (z := .int .u8 0) (size := 1) (bytes := 1) (by kernel_rfl)
  have CC := hide (cc_any t b B ht _ w h)
  have BL : (Lib.byteCells l).length = l.length := Lib.byteCells_length l
  go_enter Tryd.func78, Tryd.ntmps78
  go_wp2_with fail
  refine CC.out.mono ?_
  rintro e w1 ⟨rfl, ⟨hB, v, hbk, hown, hne⟩, hb1⟩
  have c1 : w1.cell? ⟨b, 1, none⟩ = some v := by rw [Lib.cell_of_heap hbk]; rfl
  have HK := hide hbk
  have HO := hide hown
  clear hbk hown CC h
  go_wp2_with (at_builtin; refine Lib.wpList_append_own_string _ rfl _ _ 81 9 rfl B 5 i0 Tryd.underlying81 Tryd.underlying9 hi hz0 hz1 hz2 _ _ _ rfl HO.out s rfl ?c3 ?c4 ?c5 ?_)
  case c3 => unfold maxLen; omega
  case c4 => omega
  case c5 => have := hb1.size; omega
  intro v' w2 hown' hgrow _
  have hlt : b < w1.heap.size := by
    rcases Nat.lt_or_ge b w1.heap.size with h' | h'
    · exact h'
    · have := HK.out; simp [Array.getElem?_eq_none h'] at this
  have hb2 : w2.heap[b]? = some (.cells #[.pointer (some ⟨b, 0, none⟩), v] t (0, 0)) := by
    rw [hgrow.block b hlt (fun e => hne e.symm)]
    exact HK.out
  have d1 : w2.cell? ⟨b, 1, none⟩ = some v := by rw [Lib.cell_of_heap hb2]; rfl
  have f1 : w2.frozen? ⟨b, 1, none⟩ = false := Lib.frozen_of_heap hb2 1
  obtain ⟨ao, n', cap, rfl⟩ : ∃ ao n' cap, v' = .slice ao n' cap := by
    rcases hown'.2 with ⟨hv, _⟩ | ⟨g, cap, cur, hv, _⟩
    · exact ⟨_, _, _, hv⟩
    · exact ⟨_, _, _, hv⟩
  have q : Below B w (w2.setCell ⟨b, 1, none⟩ (.slice ao n' cap)) := (hb1.grown hgrow (by have := hb1.size; omega) (fun k hk => (HO.out.lt k hk).1)).setCell (p := ⟨b, 1, none⟩) hB _
  have r : Lib.IsBuilder t 5 B b (Lib.byteCells (l ++ s.data.toList)) (w2.setCell ⟨b, 1, none⟩ (.slice ao n' cap)) := by
    right
    refine Lib.BuilderAt.put (T := t) (e := 5) hB hb2 ?_ ht.2
    have e : Lib.byteCells (l ++ s.data.toList) = Lib.byteCells l ++ Lib.strCells s := by simp [Lib.byteCells, Lib.strCells]
    rw [e, List.length_append, Lib.strCells_length, Lib.byteCells_length]
    simpa [BL] using hown'
  have Q := hide q
  have R := hide r
  clear q r hown' hgrow hb2 hlt BL hi hz0 hz1 hz2
  go_wp2
  go_ret2
  exact ⟨rfl, R.out, Q.out⟩

set_option maxRecDepth 100000 in
set_option maxHeartbeats 1000000 in
theorem bstr_any (t b B : Nat) (l : List UInt8) (w : World) (h : Lib.IsBuilder t 5 B b (Lib.byteCells l) w) (h0 : l ≠ []) :
    Calls Tryd.prog 79 #[.pointer (some ⟨b, 0, none⟩)] w fun e w' => e = .returned (.string ⟨l.toArray⟩) ∧ Below B w w' := by
  obtain ⟨p, hB, v, hbk, hown, hne⟩ : ∃ p, Lib.BuilderAt t 5 B b p (Lib.byteCells l) w := by
    rcases h with h | h
    · exact ⟨_, h⟩
    · exact ⟨_, h⟩
  have hl0 : 0 < l.length := List.length_pos_iff.2 h0
  rw [Lib.byteCells_length] at hown
  obtain ⟨g, cap, hv, hbg, _⟩ := World.ownsRow.form hown hl0
  subst hv
  obtain ⟨cur, hg, hcap, hcs⟩ : ∃ cur, w.heap[g]? = some (.cells cur 5 (0, 0)) ∧ l.length ≤ cap ∧ cap ≤ maxLen ∧ cur.size = cap * 1 := by
    rcases hown.2 with ⟨h', _⟩ | ⟨g', cap', cur, h', _, hg, hnc, hcm, hcs, _⟩
    · simp at h'
    · simp only [Value.slice.injEq, Option.some.injEq, Addr.mk.injEq, and_true, true_and] at h'
      obtain ⟨rfl, rfl⟩ := h'
      exact ⟨cur, hg, hnc, hcm, hcs⟩
  have c1 : w.drew.cell? ⟨b, 1, none⟩ = some (.slice (some ⟨g, 0, none⟩) l.length cap) := by
    have : w.drew.heap[b]? = some (.cells #[p, .slice (some ⟨g, 0, none⟩) l.length cap] t (0, 0)) := hbk
    rw [Lib.cell_of_heap this]; rfl
  have hSD : (Builtin.unsafeSliceData_ #[81] 137 #[.slice (some ⟨g, 0, none⟩) l.length cap]).run Tryd.prog w.drew = .ok (.pointer (some ⟨g, 0, none⟩)) w.drew :=
    Lib.run_unsafeSliceData_row _ _ _ _ _ _ (by omega)
  have hUS : (Builtin.unsafeString_ #[137, 3] 9 #[.pointer (some ⟨g, 0, none⟩), .int .i64 l.length]).run Tryd.prog w.drew = .ok (.string ⟨l.toArray⟩) (w.drew.freeze ⟨g, 0, none⟩ l.length) := by
    refine Lib.run_unsafeString_row w.drew 137 3 9 5 Tryd.underlying137 (by kernel_rfl) g cur.size (by have hg' : w.drew.heap[g]? = some (.cells cur 5 (0, 0)) := hg; simp [World.shape?, hg']) l h0 (by omega) (by have := hcs.1; unfold maxLen at this; omega) ?_
    intro j x hx
    exact hown.cells (g := g) rfl j (.int .u8 x.toNat) (by simp [Lib.byteCells, hx])
  clear hown hbk hg hcs hcap hl0 h0
  go_enter Tryd.func79, Tryd.ntmps79
  go_wp2
  go_region
  all_goals
    go_wp2
    go_ret
    exact ⟨rfl, Lib.below_freeze (Below.drew (Below.refl B w)) (p := ⟨g, 0, none⟩) hbg _⟩

theorem bldAt_keep {t e B b : Nat} {p : Value} {bs : List Value} {w w' : World} (h : Lib.BuilderAt t e B b p bs w) (hb : Below w.heap.size w w') : Lib.BuilderAt t e B b p bs w' := by
  have hlt := h.lt
  obtain ⟨hB, v, hbk, hown, hne⟩ := h
  refine ⟨hB, v, (hb.block b hlt).trans hbk, World.ownsRow.kept (row := none) hown ⟨hb.os, hb.tape, hb.output, hb.size, fun k hk _ => hb.block k hk⟩ ?_, hne⟩
  cases hv : v.ownBlock
  · exact .inl rfl
  · exact .inr (by simp)
theorem bld_keep {t e B b : Nat} {bs : List Value} {w w' : World} (h : Lib.IsBuilder t e B b bs w) (hb : Below w.heap.size w w') : Lib.IsBuilder t e B b bs w' :=
  h.elim (fun x => .inl (bldAt_keep x hb)) (fun x => .inr (bldAt_keep x hb))
theorem bld_lt {t e B b : Nat} {bs : List Value} {w : World} (h : Lib.IsBuilder t e B b bs w) : b < w.heap.size := h.elim (fun x => x.lt) (fun x => x.lt)
theorem bld_le {t e B b : Nat} {bs : List Value} {w : World} (h : Lib.IsBuilder t e B b bs w) : B ≤ b := h.elim (fun x => x.1) (fun x => x.1)
end Go.Proofs.YtpfbobcilphncaaDoor
