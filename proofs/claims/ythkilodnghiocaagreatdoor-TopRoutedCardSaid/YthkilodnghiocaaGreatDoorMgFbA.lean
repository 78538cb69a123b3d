/- The walks of frame.Bits and of the reference's Head, Sum and Bits. -/
import Derived.Test.YthkilodnghiocaaGreatDoorMgFrR
import Derived.Test.YthkilodnghiocaaGreatDoorMgCrA
import Derived.Test.YthkilodnghiocaaGreatDoorMgIfP
import Derived.Test.YthkilodnghiocaaGreatDoorOwS
import Derived.Lib.FrozenHead
import Derived.Lib.FrozenHead2
namespace Go.Proofs.YthkilodnghiocaaGreatDoor
open Go.ChangeShapes Go.WideShapes Go.ChangeAt Go.RowKit
open FP (bit bitsOf Fr bitB idPart dataPart headF crcOf stuffF sumF bitsF tenF)

def bitsV (f : Fr) : ByteArray := if FP.rightB f then ⟨(bitsF f).toArray⟩ else ⟨#[]⟩

set_option maxRecDepth 100000 in
set_option maxHeartbeats 1000000 in
theorem frBits_any (f : Fr) (w : World) (hid : f.id < 4294967296) :
    Calls Tryz.prog 23 #[.agg #[.int .u32 f.id, .bool f.ext, .bool f.rem, .int .i64 f.dlc, .string f.data]] w fun e w' => e = .returned (.tuple #[.string (bitsV f), .int .i64 (headE f)]) ∧ Below w.heap.size w w' := by
  have RT := hide (fun W => frRight_any f W hid)
  have q0 : Below w.heap.size w (w.alloc (.cells #[.int .u32 f.id, .bool f.ext, .bool f.rem, .int .i64 f.dlc, .string f.data] 45)) := (Below.refl _ _).alloc (Nat.le_refl _) _
  have B0 := hide (World.alloc_heap_new w (.cells #[.int .u32 f.id, .bool f.ext, .bool f.rem, .int .i64 f.dlc, .string f.data] 45))
  cases hr : FP.rightB f with
  | false =>
    have V : bitsV f = ⟨#[]⟩ := by unfold bitsV; rw [hr]; rfl
    have E : headE f = 1 := by unfold headE; rw [hr]; rfl
    rw [V, E]
    rw [hr] at RT
    clear V E hr B0
    obtain ⟨id, ext, rem, dlc, data⟩ := f
    dsimp only at *
    go_enter Tryz.func23, Tryz.ntmps23
    go_wp2_with fail
    refine (RT.out _).mono ?_
    rintro e1 w1 ⟨rfl, q1⟩
    go_wp2_with fail
    go_ret2
    exact ⟨rfl, below_next q0 q0.size q1⟩
  | true =>
    have V : bitsV f = ⟨(stuffF (sumF (headF f)) ++ [49, 49, 49, 49, 49, 49, 49, 49, 49, 49]).toArray⟩ := by unfold bitsV; rw [hr]; rfl
    have E : headE f = 0 := by unfold headE; rw [hr]; rfl
    have hL := FP.head_le hr
    have HD := hide (fun W => head_any f W hr)
    have CF := hide (fun W => crcFrame_any ⟨(headF f).toArray⟩ W (bitRow_iff.2 ⟨by rw [toList_of]; omega, FP.head_bits f⟩) (by rw [size_of]; omega))
    have SF := hide (fun W => stuff_any ⟨(sumF (headF f)).toArray⟩ W (bitRow_iff.2 ⟨by rw [toList_of, FP.sum_length]; omega, FP.sum_bits (FP.head_bits f)⟩) (by rw [size_of, FP.sum_length]; omega) (by rw [size_of, FP.sum_length]; omega))
    rw [toList_of] at CF SF
    have hB := FP.bits_len hr
    have hs := size_of (stuffF (sumF (headF f)))
    have V2 : bitsV f = ⟨(stuffF (sumF (headF f))).toArray⟩ ++ ⟨#[49, 49, 49, 49, 49, 49, 49, 49, 49, 49]⟩ := by rw [V, ← str_app]
    have hsz : (⟨(stuffF (sumF (headF f))).toArray⟩ : ByteArray).size ≤ 1000 := by omega
    rw [V2, E]
    rw [hr] at RT
    clear V V2 E hr hL hB hs
    generalize (⟨(stuffF (sumF (headF f))).toArray⟩ : ByteArray) = t at *
    generalize sumF (headF f) = t2 at *
    generalize headF f = t1 at *
    obtain ⟨id, ext, rem, dlc, data⟩ := f
    dsimp only at *
    go_enter Tryz.func23, Tryz.ntmps23
    go_wp2_with fail
    refine (RT.out _).mono ?_
    rintro e1 w1 ⟨rfl, q1⟩
    have Q1 := hide (below_next q0 q0.size q1)
    have B1 := hide (heap_below B0.out q1)
    have l0 : w1.cell? ⟨w.heap.size, 0, none⟩ = some (.int .u32 id) := by have := B1.out; simp [World.cell?, this]
    have l1 : w1.cell? ⟨w.heap.size, 1, none⟩ = some (.bool ext) := by have := B1.out; simp [World.cell?, this]
    have l2 : w1.cell? ⟨w.heap.size, 2, none⟩ = some (.bool rem) := by have := B1.out; simp [World.cell?, this]
    have l3 : w1.cell? ⟨w.heap.size, 3, none⟩ = some (.int .i64 dlc) := by have := B1.out; simp [World.cell?, this]
    have l4 : w1.cell? ⟨w.heap.size, 4, none⟩ = some (.string data) := by have := B1.out; simp [World.cell?, this]
    clear B0 q0 q1 B1
    go_wp2_with fail
    refine (HD.out _).mono ?_
    rintro e2 w2 ⟨rfl, q2⟩
    have Q2 := hide (below_next Q1.out Q1.out.size q2)
    clear q2 l0 l1 l2 l3 l4
    go_wp2_with fail
    refine (CF.out _).mono ?_
    rintro e3 w3 ⟨rfl, q3⟩
    have Q3 := hide (below_next Q2.out Q2.out.size q3)
    clear q3
    go_wp2_with fail
    refine (SF.out _).mono ?_
    rintro e4 w4 ⟨rfl, q4⟩
    have Q4 := hide (below_next Q3.out Q3.out.size q4)
    clear q4
    go_wp2_with fail
    go_ret2
    exact ⟨rfl, Q4.out⟩
end Go.Proofs.YthkilodnghiocaaGreatDoor

/- The walk of FrameBits. -/
namespace Go.Proofs.YthkilodnghiocaaGreatDoor
open Go.ChangeShapes Go.WideShapes Go.ChangeAt Go.RowKit
open FP (bit bitsOf Fr bitB idPart dataPart headF bitsF)

/-- A frame's block, read. -/
theorem frCells {W : World} {b : Nat} {id : Nat} {ext rem : Bool} {dlc : Int} {data : ByteArray} (h : W.heap[b]? = some (.cells #[.int .u32 id, .bool ext, .bool rem, .int .i64 dlc, .string data] 45 (0, 0))) :
    W.cell? ⟨b, 0, none⟩ = some (.int .u32 id) ∧ W.cell? ⟨b, 1, none⟩ = some (.bool ext) ∧ W.cell? ⟨b, 2, none⟩ = some (.bool rem) ∧ W.cell? ⟨b, 3, none⟩ = some (.int .i64 dlc) ∧ W.cell? ⟨b, 4, none⟩ = some (.string data) :=
  ⟨by simp [World.cell?, h], by simp [World.cell?, h], by simp [World.cell?, h], by simp [World.cell?, h], by simp [World.cell?, h]⟩

theorem frThere {W : World} {b : Nat} {id : Nat} {ext rem : Bool} {dlc : Int} {data : ByteArray} (h : W.heap[b]? = some (.cells #[.int .u32 id, .bool ext, .bool rem, .int .i64 dlc, .string data] 45 (0, 0))) : W.there b 0 5 :=
  there_heap (cs := [.int .u32 id, .bool ext, .bool rem, .int .i64 dlc, .string data]) h

end Go.Proofs.YthkilodnghiocaaGreatDoor

/- strings.Builder that String() may have read: Len, WriteByte, String, in a block of whatever type begins with one. -/
namespace Go.Proofs.YthkilodnghiocaaGreatDoor
open Go.ChangeShapes Go.WideShapes Go.ChangeAt Go.RowKit

theorem ccF_any (t b B : Nat) (ht : BT t) (bs : List Value) (w : World) (h : Lib.IsBuilderF t 5 B b bs w) :
    Calls Tryz.prog 90 #[.pointer (some ⟨b, 0, none⟩)] w fun e w' => e = .returned (.tuple #[]) ∧ Lib.BuilderAtF t 5 B b (.pointer (some ⟨b, 0, none⟩)) bs w' ∧ Below B w w' ∧ w.grownBy w' (some b) := by
  rcases h with h | h
  · exact (cc_fresh t b ht w h.cell0 h.shape h.frozen0).mono fun _ _ ⟨a, c⟩ => by
      subst c
      exact ⟨a, h.used _, (Below.refl B w).setCell (p := ⟨b, 0, none⟩) h.1 _, ⟨rfl, rfl, rfl, by simp [World.setCell], fun k _ hk => Below.heap_setCell _ _ _ _ (fun e => hk (by simp [e]))⟩⟩
  · exact (cc_used b w h.cell0).mono fun _ _ ⟨a, c⟩ => by subst c; exact ⟨a, h, Below.refl B _, grownBy_refl _ _⟩

set_option maxRecDepth 100000 in
set_option maxHeartbeats 400000 in
theorem wbF_any (t b B : Nat) (ht : BT t) (l : List UInt8) (c : UInt8) (w : World) (h : Lib.IsBuilderF t 5 B b (Lib.byteCells l) w) (hlen : l.length ≤ 1000000) (hBw : B ≤ w.heap.size) :
    Calls Tryz.prog 68 #[.pointer (some ⟨b, 0, none⟩), .int .u8 c.toNat] w fun e w' => e = .returned .nilIface ∧ Lib.IsBuilderF t 5 B b (Lib.byteCells (l ++ [c])) w' ∧ Below B w w' := by
  obtain ⟨i0, hi, hz0, hz1, hz2⟩ := info_parts (P := Tryz.prog) (e := 5) (z := .int .u8 0) (size := 1) (bytes := 1) (by kernel_rfl)
  have CC := hide (ccF_any t b B ht _ w h)
  have BL : (Lib.byteCells l).length = l.length := Lib.byteCells_length l
  go_enter Tryz.func68, Tryz.ntmps68
  go_wp2_with fail
  refine CC.out.mono ?_
  rintro e w1 ⟨rfl, ⟨hB, v, hbk, hown, hne⟩, hb1, _⟩
  have c1 : w1.cell? ⟨b, 1, none⟩ = some v := by rw [Lib.cell_of_heap hbk]; rfl
  have HK := hide hbk
  have HO := hide (World.ownsRowF.alloc hown (.cells #[.int .u8 c.toNat] 5))
  clear hbk hown CC h
  go_wp2_with (at_builtin; refine wpList_append_ownF _ rfl _ _ 110 rfl B 5 i0 (.int .u8 0) 1 1 Tryz.underlying110 hi hz0 hz1 hz2 rfl (by decide) _ _ _ rfl HO.out ⟨w1.heap.size, 0, none⟩ 1 1 [.int .u8 c.toNat] rfl rfl ?c1 ?c2 ?c3 ?c4 ?c5 ?_)
  case c1 =>
    intro j u hj
    match j, hj with
    | 0, hj => simp at hj; subst hj; simp [Addr.add]
  case c2 => intro u hu; simp at hu; subst hu; rfl
  case c3 => rw [BL]; unfold maxLen; omega
  case c4 => rw [BL]; omega
  case c5 => have := hb1.size; simp; omega
  intro v' w2 hown' hgrow _
  have hlt : b < w1.heap.size := heap_lt HK.out
  have hb2 : w2.heap[b]? = some (.cells #[.pointer (some ⟨b, 0, none⟩), v] t (0, 0)) := by
    rw [hgrow.block b (by simp; omega) (fun e => hne e.symm), Lib.alloc_old w1 _ b hlt]
    exact HK.out
  have d1 : w2.cell? ⟨b, 1, none⟩ = some v := by rw [Lib.cell_of_heap hb2]; rfl
  have f1 : w2.frozen? ⟨b, 1, none⟩ = false := Lib.frozen_of_heap hb2 1
  obtain ⟨g, cap, rfl⟩ : ∃ g cap, v' = .slice (some ⟨g, 0, none⟩) (l.length + 1) cap := by
    rcases hown'.2 with ⟨_, h0⟩ | ⟨g, cap, cur, fz, hv, _⟩
    · omega
    · exact ⟨g, cap, hv⟩
  have q : Below B w (w2.setCell ⟨b, 1, none⟩ (.slice (some ⟨g, 0, none⟩) (l.length + 1) cap)) :=
    ((hb1.alloc (by have := hb1.size; omega) _).grown hgrow (by have := hb1.size; simp; omega) (fun k hk => (HO.out.lt k hk).1)).setCell (p := ⟨b, 1, none⟩) hB _
  have r : Lib.IsBuilderF t 5 B b (Lib.byteCells (l ++ [c])) (w2.setCell ⟨b, 1, none⟩ (.slice (some ⟨g, 0, none⟩) (l.length + 1) cap)) := by
    right
    have e : Lib.byteCells (l ++ [c]) = Lib.byteCells l ++ [.int .u8 c.toNat] := by simp [Lib.byteCells]
    rw [e]
    exact Lib.BuilderAtF.put (T := t) (e := 5) hB hb2 (bs' := Lib.byteCells l ++ [.int .u8 c.toNat]) (by rw [List.length_append, BL]; exact hown') ht.2
  have Q := hide q
  have R := hide r
  clear q r hown' hgrow hb2 hlt hi hz0 hz1 hz2
  go_wp2
  go_ret
  exact ⟨rfl, R.out, Q.out⟩

set_option maxRecDepth 100000 in
set_option maxHeartbeats 400000 in
theorem blenF_any (t b B : Nat) (l : List UInt8) (w : World) (h : Lib.IsBuilderF t 5 B b (Lib.byteCells l) w) :
    Calls Tryz.prog 66 #[.pointer (some ⟨b, 0, none⟩)] w fun e w' => e = .returned (.int .i64 l.length) ∧ w = w' := by
  obtain ⟨p, v, hbk, hown⟩ : ∃ p v, w.heap[b]? = some (.cells #[p, v] t (0, 0)) ∧ w.ownsRowF B 5 1 v (Lib.byteCells l).length (Lib.byteCells l) := by
    rcases h with ⟨_, v, hbk, hown, _⟩ | ⟨_, v, hbk, hown, _⟩
    · exact ⟨_, v, hbk, hown⟩
    · exact ⟨_, v, hbk, hown⟩
  rw [Lib.byteCells_length] at hown
  obtain ⟨ao, cap, rfl⟩ : ∃ ao cap, v = .slice ao l.length cap := by
    rcases hown.2 with ⟨hv, h0⟩ | ⟨g, cap, cur, fz, hv, _⟩
    · exact ⟨none, 0, by rw [h0]; exact hv⟩
    · exact ⟨_, cap, hv⟩
  have c1 : w.cell? ⟨b, 1, none⟩ = some (.slice ao l.length cap) := by rw [Lib.cell_of_heap hbk]; rfl
  clear h hbk hown
  go_enter Tryz.func66, Tryz.ntmps66
  go_wp2
  go_ret
  exact ⟨rfl, rfl⟩

set_option maxRecDepth 100000 in
set_option maxHeartbeats 1000000 in
theorem bstrF_any (t b B : Nat) (l : List UInt8) (w : World) (h : Lib.IsBuilderF t 5 B b (Lib.byteCells l) w) (h0 : l ≠ []) :
    Calls Tryz.prog 61 #[.pointer (some ⟨b, 0, none⟩)] w fun e w' => e = .returned (.string ⟨l.toArray⟩) ∧ Lib.IsBuilderF t 5 B b (Lib.byteCells l) w' ∧ Below B w w' := by
  obtain ⟨p, hp, hAt⟩ : ∃ p, (p = .pointer none ∨ p = .pointer (some ⟨b, 0, none⟩)) ∧ Lib.BuilderAtF t 5 B b p (Lib.byteCells l) w := by
    rcases h with h | h
    · exact ⟨_, .inl rfl, h⟩
    · exact ⟨_, .inr rfl, h⟩
  obtain ⟨hB, v, hbk, hown, hne⟩ := hAt
  have hl0 : l.length ≠ 0 := by simpa using h0
  rw [Lib.byteCells_length] at hown
  obtain ⟨g, cap, cur, fz, rfl, hbg, hg, hfz, hnc, hcm, hcs, htake⟩ : ∃ g cap cur fz, v = .slice (some ⟨g, 0, none⟩) l.length cap ∧ B ≤ g ∧ w.heap[g]? = some (.cells cur 5 fz) ∧ fz.2 ≤ l.length * 1 ∧ l.length ≤ cap ∧ cap ≤ maxLen ∧ cur.size = cap * 1 ∧ cur.toList.take (l.length * 1) = Lib.byteCells l := by
    rcases hown.2 with ⟨_, hz⟩ | ⟨g, cap, cur, fz, hv, r⟩
    · exact absurd hz hl0
    · exact ⟨g, cap, cur, fz, hv, r⟩
  have c1 : w.drew.cell? ⟨b, 1, none⟩ = some (.slice (some ⟨g, 0, none⟩) l.length cap) := by
    have : w.drew.heap[b]? = some (.cells #[p, .slice (some ⟨g, 0, none⟩) l.length cap] t (0, 0)) := hbk
    rw [Lib.cell_of_heap this]; rfl
  have hSD : (Builtin.unsafeSliceData_ #[110] 160 #[.slice (some ⟨g, 0, none⟩) l.length cap]).run Tryz.prog w.drew = .ok (.pointer (some ⟨g, 0, none⟩)) w.drew :=
    Lib.run_unsafeSliceData_row _ _ _ _ _ _ (by omega)
  have hUS : (Builtin.unsafeString_ #[160, 3] 9 #[.pointer (some ⟨g, 0, none⟩), .int .i64 l.length]).run Tryz.prog w.drew = .ok (.string ⟨l.toArray⟩) (w.drew.freeze ⟨g, 0, none⟩ l.length) := by
    refine Lib.run_unsafeString_row w.drew 160 3 9 5 Tryz.underlying160 (by kernel_rfl) g cur.size (by have hg' : w.drew.heap[g]? = some (.cells cur 5 fz) := hg; simp [World.shape?, hg']) l h0 (by omega) (by unfold maxLen at hcm; omega) ?_
    intro j x hx
    have := hown.cells (g := g) rfl j (.int .u8 x.toNat) (by simp [Lib.byteCells, hx])
    exact this
  have hkeep : Lib.IsBuilderF t 5 B b (Lib.byteCells l) (w.drew.freeze ⟨g, 0, none⟩ l.length) := by
    have hA : Lib.BuilderAtF t 5 B b p (Lib.byteCells l) w.drew := ⟨hB, _, hbk, by rw [Lib.byteCells_length]; exact hown, hne⟩
    have hF := hA.froze (g := g) (cap := cap) (by rw [Lib.byteCells_length]; exact c1)
    rw [Lib.byteCells_length] at hF
    rcases hp with rfl | rfl
    · exact .inl hF
    · exact .inr hF
  have HKP := hide hkeep
  clear hkeep hown hbk hg hcs hcm hnc hfz htake hl0 h0 h
  go_enter Tryz.func61, Tryz.ntmps61
  go_wp2
  go_region
  all_goals
    go_wp2
    go_ret
    exact ⟨rfl, HKP.out, Lib.below_freeze (Below.drew (Below.refl B w)) (p := ⟨g, 0, none⟩) hbg _⟩

theorem bldAtF_keep {t e B b : Nat} {p : Value} {bs : List Value} {w w' : World} {row : Option Nat} (h : Lib.BuilderAtF t e B b p bs w) (hg : w.grownBy w' row) (hr : ∀ k, row = some k → k < B) : Lib.BuilderAtF t e B b p bs w' := by
  have hlt := h.lt
  obtain ⟨hB, v, hbk, hown, hne⟩ := h
  refine ⟨hB, v, (hg.block b hlt (fun e => by have := hr b e.symm; omega)).trans hbk, hown.kept hg ?_, hne⟩
  cases hv : v.ownBlock with
  | none => exact .inl rfl
  | some k =>
    right
    intro e
    have h1 := hr k e.symm
    have h2 := (hown.lt k hv).1
    omega
/-- A builder is kept where only blocks below it were written, or new ones laid. -/
theorem bldF_keep {t e B b : Nat} {bs : List Value} {w w' : World} {row : Option Nat} (h : Lib.IsBuilderF t e B b bs w) (hg : w.grownBy w' row) (hr : ∀ k, row = some k → k < B) : Lib.IsBuilderF t e B b bs w' :=
  h.elim (fun x => .inl (bldAtF_keep x hg hr)) (fun x => .inr (bldAtF_keep x hg hr))
theorem grown_none {w w' : World} (hb : Below w.heap.size w w') : w.grownBy w' none := ⟨hb.os, hb.tape, hb.output, hb.size, fun k hk _ => hb.block k hk⟩
theorem two_new (w : World) (X Y : Obj) : ((w.alloc X).alloc Y).heap[w.heap.size]? = some X ∧ ((w.alloc X).alloc Y).heap[w.heap.size + 1]? = some Y := by
  have hs : (w.alloc X).heap.size = w.heap.size + 1 := by simp
  have h1 := World.alloc_heap_new (w.alloc X) Y
  rw [hs] at h1
  exact ⟨heap_below (World.alloc_heap_new w X) ((Below.refl _ _).alloc (Nat.le_refl _) _), h1⟩
end Go.Proofs.YthkilodnghiocaaGreatDoor
