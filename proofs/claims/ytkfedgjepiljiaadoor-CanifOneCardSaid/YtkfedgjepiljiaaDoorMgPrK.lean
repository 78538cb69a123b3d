/- PrioKinds. -/
import Derived.Test.YtkfedgjepiljiaaDoorMgPrPlain
import Derived.Test.YtkfedgjepiljiaaDoorMgMem
import Derived.Lib.Builder
import Derived.Lib.AppendStr
import Derived.Lib.UnsafeStr
import Derived.Lib.Strings
import Derived.Lib.Slices
import Derived.Laws.Externs
import Derived.RegionTactic
namespace Go.Proofs.YtkfedgjepiljiaaDoor
open Go.ChangeShapes Go.WideShapes Go.ChangeAt Go.RowKit
open FP (bit bitsOf Fr bitB)

def al05 : List Fr := [⟨5, false, false, 0, ⟨#[]⟩⟩, ⟨3, false, false, 0, ⟨#[]⟩⟩, ⟨4, false, false, 0, ⟨#[]⟩⟩]
theorem al05_best : PP.Best al05 1 := ⟨by decide, by decide +kernel⟩
theorem al05_left : leftIdx (lostF al05) al05.length = [1] := by
  have h0 : ¬ lostF al05 0 < 0 := fun h => absurd ((PP.left_iff al05_best (j := 0) (by decide)).1 h) (by decide +kernel)
  have h1 : lostF al05 1 < 0 := (PP.left_iff al05_best (j := 1) (by decide)).2 rfl
  have h2 : ¬ lostF al05 2 < 0 := fun h => absurd ((PP.left_iff al05_best (j := 2) (by decide)).1 h) (by decide +kernel)
  show leftIdx (lostF al05) 3 = [1]
  rw [leftIdx_out h2, leftIdx_in h1, leftIdx_out h0]
  rfl

theorem rd_cell {w : World} {B : Nat} {A : Option Addr} {v : Value} (h : Rd w B A 1 [[v]]) : ∃ b off, A = some ⟨b, off, none⟩ ∧ w.cell? ⟨b, off, none⟩ = some v := by
  obtain ⟨b, off, e, _, hc⟩ := h (by simp)
  exact ⟨b, off, e, by simpa using hc 0 [v] 0 v rfl rfl⟩

theorem less_is (f g : Fr) (v : Bool) (h : lessB f g = v) (hf : f.id < 4294967296) (hg : g.id < 4294967296) (w : World) :
    Calls Tryd.prog 64 #[.agg #[.int .u32 f.id, .bool f.ext, .bool f.rem, .int .i64 f.dlc, .string f.data], .agg #[.int .u32 g.id, .bool g.ext, .bool g.rem, .int .i64 g.dlc, .string g.data]] w fun e w' => e = .returned (.bool v) ∧ Below w.heap.size w w' := by
  rw [← h]
  exact Less_any f g w hf hg

def sh (a : Nat) (r : Bool) : Fr := ⟨a, false, r, 0, ⟨#[]⟩⟩
def lo (N : Nat) : Fr := ⟨N, true, false, 0, ⟨#[]⟩⟩
theorem sh_right {a : Nat} (ha : a < 2048) (r : Bool) : FP.rightB (sh a r) = true := by cases r <;> simp [FP.rightB, sh, ha] <;> rfl
theorem lo_right {a c : Nat} (ha : a < 2048) (hc : c < 262144) : FP.rightB (lo (a * 262144 + c)) = true := by
  have h : a * 262144 + c < 536870912 := by omega
  simp [FP.rightB, lo, h]; rfl
theorem sh_field (a : Nat) (r : Bool) : fieldF (sh a r) = bitsOf a 11 ++ [bitB r, 48] := by simp [fieldF, sh]
theorem lo_field {a c : Nat} (hc : c < 262144) : ∃ t, fieldF (lo (a * 262144 + c)) = bitsOf a 11 ++ ([49, 49] ++ t) := by
  have h := FP.bitsOf_append (a * 262144 + c) 11 18
  have hd : (a * 262144 + c) / 2 ^ 18 = a := by omega
  rw [hd] at h
  refine ⟨(bitsOf (a * 262144 + c) 29).drop 11 ++ [48], ?_⟩
  have ht : (bitsOf (a * 262144 + c) 29).take 11 = bitsOf a 11 := by
    rw [h, List.take_left' (FP.bitsOf_length _ _)]
  simp [fieldF, lo, ht, bitB]
theorem ls_ss {a b : Nat} (ha : a < 2048) (hb : b < 2048) (r s : Bool) : lessB (sh a r) (sh b s) = if a = b then (!r && s) else decide (a < b) := by
  rw [PP.lessB_bl (sh_right ha r) (sh_right hb s), sh_field, sh_field, PP.bl_bits a b 11 (by omega) (by omega)]
  cases r <;> cases s <;> simp [PP.bl, Op.bytesLess, bitB]
theorem ls_sl {a b c : Nat} (ha : a < 2048) (hb : b < 2048) (hc : c < 262144) (r : Bool) : lessB (sh a r) (lo (b * 262144 + c)) = decide (a ≤ b) := by
  obtain ⟨t, ht⟩ := lo_field (a := b) hc
  rw [PP.lessB_bl (sh_right ha r) (lo_right hb hc), sh_field, ht, PP.bl_bits a b 11 (by omega) (by omega)]
  by_cases h : a = b
  · subst h; cases r <;> simp [PP.bl, Op.bytesLess, bitB]
  · rw [if_neg h, decide_eq_decide]; omega
theorem ls_ls {a b c : Nat} (ha : a < 2048) (hb : b < 2048) (hc : c < 262144) (r : Bool) : lessB (lo (a * 262144 + c)) (sh b r) = decide (a < b) := by
  obtain ⟨t, ht⟩ := lo_field (a := a) hc
  rw [PP.lessB_bl (lo_right ha hc) (sh_right hb r), sh_field, ht, PP.bl_bits a b 11 (by omega) (by omega)]
  by_cases h : a = b
  · subst h; cases r <;> simp [PP.bl, Op.bytesLess, bitB]
  · rw [if_neg h]

/-- A frame lies in the block b. -/
def FrB (W : World) (b : Nat) (f : Fr) : Prop := b < W.heap.size ∧ W.cell? ⟨b, 0, none⟩ = some (.int .u32 f.id) ∧ W.cell? ⟨b, 1, none⟩ = some (.bool f.ext) ∧ W.cell? ⟨b, 2, none⟩ = some (.bool f.rem) ∧ W.cell? ⟨b, 3, none⟩ = some (.int .i64 f.dlc) ∧ W.cell? ⟨b, 4, none⟩ = some (.string f.data)
theorem FrB.below {W W' : World} {b : Nat} {f : Fr} (h : FrB W b f) (hb : Below W.heap.size W W') : FrB W' b f :=
  ⟨Nat.lt_of_lt_of_le h.1 hb.size, cellBelow hb h.1 h.2.1, cellBelow hb h.1 h.2.2.1, cellBelow hb h.1 h.2.2.2.1, cellBelow hb h.1 h.2.2.2.2.1, cellBelow hb h.1 h.2.2.2.2.2⟩

theorem orK_low (a c : Nat) (ha : a < 2048) (hc : c < 262144) : bits BinOp.or IntKind.u32 ((a : Int) * 262144) (c : Int) = ((a * 262144 + c : Nat) : Int) := by
  have h : bits BinOp.or IntKind.u32 ((a * 262144 : Nat) : Int) (c : Int) = ((a * 262144 ||| c : Nat) : Int) := Go.u32_or_nat _ _ (by omega) (by omega)
  have e := Nat.two_pow_add_eq_or_of_lt (i := 18) (b := c) (by omega) a
  rw [show ((a : Int) * 262144) = ((a * 262144 : Nat) : Int) by simp, h, show a * 262144 = 2 ^ 18 * a by omega, ← e]

end Go.Proofs.YtkfedgjepiljiaaDoor

/- strings.Builder in a block of whatever type begins with one: WriteString, String of what is not empty. -/
namespace Go.Proofs.YtkfedgjepiljiaaDoor
open Go.ChangeShapes Go.WideShapes Go.ChangeAt Go.RowKit

/-- A type whose variables are just a builder's two cells, seen as a builder. -/
def BT (t : TypeId) : Prop := liesAt Tryd.prog Tryd.prog.depth t (2 / Tryd.prog.cellsOf t) 0 129 1 = true ∧ t ≠ 5

theorem bld_info : (Tryd.prog.info? 129).map (·.size) = some 2 := by kernel_rfl

set_option maxRecDepth 100000 in
set_option maxHeartbeats 400000 in
theorem cc_used (b : Nat) (w : World) (h0 : w.cell? ⟨b, 0, none⟩ = some (.pointer (some ⟨b, 0, none⟩))) :
    Calls Tryd.prog 87 #[.pointer (some ⟨b, 0, none⟩)] w fun e w' => e = .returned (.tuple #[]) ∧ w' = w := by
  obtain ⟨j, hj, _⟩ := Option.map_eq_some_iff.1 bld_info
  go_enter Tryd.func87, Tryd.ntmps87
  go_wp2
  rw [Lib.run_neq_ptr_same w _ Tryd.underlying127 hj]
  go_wp2
  go_end0
  exact ⟨rfl, rfl⟩

set_option maxRecDepth 100000 in
set_option maxHeartbeats 400000 in
theorem cc_fresh (t b : Nat) (ht : BT t) (w : World) (h0 : w.cell? ⟨b, 0, none⟩ = some (.pointer none)) (hsh : w.shape? b = some (t, 2)) (hfz : w.frozen? ⟨b, 0, none⟩ = false) :
    Calls Tryd.prog 87 #[.pointer (some ⟨b, 0, none⟩)] w fun e w' => e = .returned (.tuple #[]) ∧ w' = w.setCell ⟨b, 0, none⟩ (.pointer (some ⟨b, 0, none⟩)) := by
  obtain ⟨j, hj, hjs⟩ := Option.map_eq_some_iff.1 bld_info
  have e1 := Lib.run_to_unsafe w (P := Tryd.prog) ⟨b, 0, none⟩ Tryd.underlying127 Tryd.underlying153 hj (by rw [hjs]; decide) hsh (Nat.zero_lt_succ 1)
  have e2 := Lib.run_from_unsafe w (P := Tryd.prog) ⟨b, 0, none⟩ Tryd.underlying153 Tryd.underlying127 hj hsh ht.1
  have E1 := hide e1
  have E2 := hide e2
  clear e1 e2 hsh
  go_enter Tryd.func87, Tryd.ntmps87
  go_wp2
  rw [E1.out]
  simp only [Result.andThen]
  rw [Oper.upon_value]
  go_wp2
  rw [run_callFunc_extern Tryd.func91 (by kernel_rfl) (by kernel_rfl) (by kernel_rfl) (e := Extern.AbiNoEscape.same) (by kernel_rfl)]
  rw [Lib.run_noEscape]
  simp only [Result.andThen]
  rw [Oper.upon_value]
  go_wp2
  rw [E2.out]
  simp only [Result.andThen]
  rw [Oper.upon_value]
  go_wp2
  go_end0
  exact ⟨rfl, rfl⟩

theorem cc_any (t b B : Nat) (ht : BT t) (bs : List Value) (w : World) (h : Lib.IsBuilder t 5 B b bs w) :
    Calls Tryd.prog 87 #[.pointer (some ⟨b, 0, none⟩)] w fun e w' => e = .returned (.tuple #[]) ∧ Lib.BuilderAt t 5 B b (.pointer (some ⟨b, 0, none⟩)) bs w' ∧ Below B w w' := by
  rcases h with h | h
  · exact (cc_fresh t b ht w h.cell0 h.shape h.frozen0).mono fun _ _ ⟨a, c⟩ => by subst c; exact ⟨a, h.used _, (Below.refl B w).setCell (p := ⟨b, 0, none⟩) h.1 _⟩
  · exact (cc_used b w h.cell0).mono fun _ _ ⟨a, c⟩ => by subst c; exact ⟨a, h, Below.refl B _⟩

set_option maxRecDepth 100000 in
set_option maxHeartbeats 400000 in
theorem ws_any (t b B : Nat) (ht : BT t) (l : List UInt8) (s : ByteArray) (w : World) (h : Lib.IsBuilder t 5 B b (Lib.byteCells l) w) (hlen : l.length + s.size ≤ 1000000) (hBw : B ≤ w.heap.size) :
    Calls Tryd.prog 75 #[.pointer (some ⟨b, 0, none⟩), .string s] w fun e w' => e = .returned (.tuple #[.int .i64 s.size, .nilIface]) ∧ Lib.IsBuilder t 5 B b (Lib.byteCells (l ++ s.data.toList)) w' ∧ Below B w w' := by
  obtain ⟨i0, hi, hz0, hz1, hz2⟩ := info_parts (P := Tryd.prog) (e := 5) (z := .int .u8 0) (size := 1) (bytes := 1) (by kernel_rfl)
  have CC := hide (cc_any t b B ht _ w h)
  have BL : (Lib.byteCells l).length = l.length := Lib.byteCells_length l
  go_enter Tryd.func75, Tryd.ntmps75
  go_wp2_with fail
  refine CC.out.mono ?_
  rintro e w1 ⟨rfl, ⟨hB, v, hbk, hown, hne⟩, hb1⟩
  have c1 : w1.cell? ⟨b, 1, none⟩ = some v := by rw [Lib.cell_of_heap hbk]; rfl
  have HK := hide hbk
  have HO := hide hown
  clear hbk hown CC h
  go_wp2_with (at_builtin; refine Lib.wpList_append_own_string _ rfl _ _ 108 9 rfl B 5 i0 Tryd.underlying108 Tryd.underlying9 hi hz0 hz1 hz2 _ _ _ rfl HO.out s rfl ?c3 ?c4 ?c5 ?_)
  case c3 => unfold maxLen; omega
  case c4 => omega
  case c5 => have := hb1.size; omega
  intro v' w2 hown' hgrow _
  have hlt : b < w1.heap.size := by
    rcases Nat.lt_or_ge b w1.heap.size with h' | h'
    · exact h'
    · have := HK.out; simp [Array.getElem?_eq_none h'] at this
  have hb2 : w2.heap[b]? = some (.cells #[.pointer (some ⟨b, 0, none⟩), v] t (0, 0)) := by
    rw [hgrow.block b hlt (fun e => hne e.symm)]
    exact HK.out
  have d1 : w2.cell? ⟨b, 1, none⟩ = some v := by rw [Lib.cell_of_heap hb2]; rfl
  have f1 : w2.frozen? ⟨b, 1, none⟩ = false := Lib.frozen_of_heap hb2 1
  obtain ⟨ao, n', cap, rfl⟩ : ∃ ao n' cap, v' = .slice ao n' cap := by
    rcases hown'.2 with ⟨hv, _⟩ | ⟨g, cap, cur, hv, _⟩
    · exact ⟨_, _, _, hv⟩
    · exact ⟨_, _, _, hv⟩
  have q : Below B w (w2.setCell ⟨b, 1, none⟩ (.slice ao n' cap)) := (hb1.grown hgrow (by have := hb1.size; omega) (fun k hk => (HO.out.lt k hk).1)).setCell (p := ⟨b, 1, none⟩) hB _
  have r : Lib.IsBuilder t 5 B b (Lib.byteCells (l ++ s.data.toList)) (w2.setCell ⟨b, 1, none⟩ (.slice ao n' cap)) := by
    right
    refine Lib.BuilderAt.put (T := t) (e := 5) hB hb2 ?_ ht.2
    have e : Lib.byteCells (l ++ s.data.toList) = Lib.byteCells l ++ Lib.strCells s := by simp [Lib.byteCells, Lib.strCells]
    rw [e, List.length_append, Lib.strCells_length, Lib.byteCells_length]
    simpa [BL] using hown'
  have Q := hide q
  have R := hide r
  clear q r hown' hgrow hb2 hlt BL hi hz0 hz1 hz2
  go_wp2
  go_ret2
  exact ⟨rfl, R.out, Q.out⟩

set_option maxRecDepth 100000 in
set_option maxHeartbeats 1000000 in
theorem bstr_any (t b B : Nat) (l : List UInt8) (w : World) (h : Lib.IsBuilder t 5 B b (Lib.byteCells l) w) (h0 : l ≠ []) :
    Calls Tryd.prog 76 #[.pointer (some ⟨b, 0, none⟩)] w fun e w' => e = .returned (.string ⟨l.toArray⟩) ∧ Below B w w' := by
  obtain ⟨p, hB, v, hbk, hown, hne⟩ : ∃ p, Lib.BuilderAt t 5 B b p (Lib.byteCells l) w := by
    rcases h with h | h
    · exact ⟨_, h⟩
    · exact ⟨_, h⟩
  have hl0 : 0 < l.length := List.length_pos_iff.2 h0
  rw [Lib.byteCells_length] at hown
  obtain ⟨g, cap, hv, hbg, _⟩ := World.ownsRow.form hown hl0
  subst hv
  obtain ⟨cur, hg, hcap, hcs⟩ : ∃ cur, w.heap[g]? = some (.cells cur 5 (0, 0)) ∧ l.length ≤ cap ∧ cap ≤ maxLen ∧ cur.size = cap * 1 := by
    rcases hown.2 with ⟨h', _⟩ | ⟨g', cap', cur, h', _, hg, hnc, hcm, hcs, _⟩
    · simp at h'
    · simp only [Value.slice.injEq, Option.some.injEq, Addr.mk.injEq, and_true, true_and] at h'
      obtain ⟨rfl, rfl⟩ := h'
      exact ⟨cur, hg, hnc, hcm, hcs⟩
  have c1 : w.drew.cell? ⟨b, 1, none⟩ = some (.slice (some ⟨g, 0, none⟩) l.length cap) := by
    have : w.drew.heap[b]? = some (.cells #[p, .slice (some ⟨g, 0, none⟩) l.length cap] t (0, 0)) := hbk
    rw [Lib.cell_of_heap this]; rfl
  have hSD : (Builtin.unsafeSliceData_ #[108] 150 #[.slice (some ⟨g, 0, none⟩) l.length cap]).run Tryd.prog w.drew = .ok (.pointer (some ⟨g, 0, none⟩)) w.drew :=
    Lib.run_unsafeSliceData_row _ _ _ _ _ _ (by omega)
  have hUS : (Builtin.unsafeString_ #[150, 3] 9 #[.pointer (some ⟨g, 0, none⟩), .int .i64 l.length]).run Tryd.prog w.drew = .ok (.string ⟨l.toArray⟩) (w.drew.freeze ⟨g, 0, none⟩ l.length) := by
    refine Lib.run_unsafeString_row w.drew 150 3 9 5 Tryd.underlying150 (by kernel_rfl) g cur.size (by have hg' : w.drew.heap[g]? = some (.cells cur 5 (0, 0)) := hg; simp [World.shape?, hg']) l h0 (by omega) (by have := hcs.1; unfold maxLen at this; omega) ?_
    intro j x hx
    exact hown.cells (g := g) rfl j (.int .u8 x.toNat) (by simp [Lib.byteCells, hx])
  clear hown hbk hg hcs hcap hl0 h0
  go_enter Tryd.func76, Tryd.ntmps76
  go_wp2
  go_region
  all_goals
    go_wp2
    go_ret
    exact ⟨rfl, Lib.below_freeze (Below.drew (Below.refl B w)) (p := ⟨g, 0, none⟩) hbg _⟩

theorem bldAt_keep {t e B b : Nat} {p : Value} {bs : List Value} {w w' : World} (h : Lib.BuilderAt t e B b p bs w) (hb : Below w.heap.size w w') : Lib.BuilderAt t e B b p bs w' := by
  have hlt := h.lt
  obtain ⟨hB, v, hbk, hown, hne⟩ := h
  refine ⟨hB, v, (hb.block b hlt).trans hbk, World.ownsRow.kept (row := none) hown ⟨hb.os, hb.tape, hb.output, hb.size, fun k hk _ => hb.block k hk⟩ ?_, hne⟩
  cases hv : v.ownBlock
  · exact .inl rfl
  · exact .inr (by simp)
theorem bld_keep {t e B b : Nat} {bs : List Value} {w w' : World} (h : Lib.IsBuilder t e B b bs w) (hb : Below w.heap.size w w') : Lib.IsBuilder t e B b bs w' :=
  h.elim (fun x => .inl (bldAt_keep x hb)) (fun x => .inr (bldAt_keep x hb))
theorem bld_lt {t e B b : Nat} {bs : List Value} {w : World} (h : Lib.IsBuilder t e B b bs w) : b < w.heap.size := h.elim (fun x => x.lt) (fun x => x.lt)
theorem bld_le {t e B b : Nat} {bs : List Value} {w : World} (h : Lib.IsBuilder t e B b bs w) : B ≤ b := h.elim (fun x => x.1) (fun x => x.1)
end Go.Proofs.YtkfedgjepiljiaaDoor
