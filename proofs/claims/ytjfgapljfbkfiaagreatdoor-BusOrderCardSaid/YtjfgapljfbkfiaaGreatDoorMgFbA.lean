/- The walks of frame.Bits and of the reference's Head, Sum and Bits. -/
import Derived.Test.YtjfgapljfbkfiaaGreatDoorStB
import Derived.Test.YtjfgapljfbkfiaaGreatDoorMgCrA
import Derived.Test.YtjfgapljfbkfiaaGreatDoorMgRng
import Derived.Test.YtjfgapljfbkfiaaGreatDoorOwS
import Derived.Lib.FrozenHead
import Derived.Lib.FrozenHead2
import Derived.Test.YtjfgapljfbkfiaaGreatDoorRdA
namespace Go.Proofs.YtjfgapljfbkfiaaGreatDoor
open Go.ChangeShapes Go.WideShapes Go.ChangeAt Go.RowKit
open FP (bit bitsOf Fr bitB idPart dataPart headF crcOf stuffF sumF bitsF tenF)

def bitsV (f : Fr) : ByteArray := if FP.rightB f then ⟨(bitsF f).toArray⟩ else ⟨#[]⟩

set_option maxRecDepth 100000 in
set_option maxHeartbeats 1000000 in
theorem frBits_any (f : Fr) (w : World) (hid : f.id < 4294967296) :
    Calls Tryz.prog 41 #[.agg #[.int .u32 f.id, .bool f.ext, .bool f.rem, .int .i64 f.dlc, .string f.data]] w fun e w' => e = .returned (.tuple #[.string (bitsV f), .int .i64 (headE f)]) ∧ Below w.heap.size w w' := by
  have RT := hide (fun W => frRight_any f W hid)
  have q0 : Below w.heap.size w (w.alloc (.cells #[.int .u32 f.id, .bool f.ext, .bool f.rem, .int .i64 f.dlc, .string f.data] 31)) := (Below.refl _ _).alloc (Nat.le_refl _) _
  have B0 := hide (World.alloc_heap_new w (.cells #[.int .u32 f.id, .bool f.ext, .bool f.rem, .int .i64 f.dlc, .string f.data] 31))
  cases hr : FP.rightB f with
  | false =>
    have V : bitsV f = ⟨#[]⟩ := by unfold bitsV; rw [hr]; rfl
    have E : headE f = 1 := by unfold headE; rw [hr]; rfl
    rw [V, E]
    rw [hr] at RT
    clear V E hr B0
    obtain ⟨id, ext, rem, dlc, data⟩ := f
    dsimp only at *
    go_enter Tryz.func41, Tryz.ntmps41
    go_wp2_with fail
    refine (RT.out _).mono ?_
    rintro e1 w1 ⟨rfl, q1⟩
    go_wp2_with fail
    go_ret2
    exact ⟨rfl, below_next q0 q0.size q1⟩
  | true =>
    have V : bitsV f = ⟨(stuffF (sumF (headF f)) ++ [49, 49, 49, 49, 49, 49, 49, 49, 49, 49]).toArray⟩ := by unfold bitsV; rw [hr]; rfl
    have E : headE f = 0 := by unfold headE; rw [hr]; rfl
    have hL := FP.head_le hr
    have HD := hide (fun W => head_any f W hr)
    have CF := hide (fun W => crcFrame_any ⟨(headF f).toArray⟩ W (bitRow_iff.2 ⟨by rw [toList_of]; omega, FP.head_bits f⟩) (by rw [size_of]; omega))
    have SF := hide (fun W => stuff_any ⟨(sumF (headF f)).toArray⟩ W (bitRow_iff.2 ⟨by rw [toList_of, FP.sum_length]; omega, FP.sum_bits (FP.head_bits f)⟩) (by rw [size_of, FP.sum_length]; omega) (by rw [size_of, FP.sum_length]; omega))
    rw [toList_of] at CF SF
    have hB := FP.bits_len hr
    have hs := size_of (stuffF (sumF (headF f)))
    have V2 : bitsV f = ⟨(stuffF (sumF (headF f))).toArray⟩ ++ ⟨#[49, 49, 49, 49, 49, 49, 49, 49, 49, 49]⟩ := by rw [V, ← str_app]
    have hsz : (⟨(stuffF (sumF (headF f))).toArray⟩ : ByteArray).size ≤ 1000 := by omega
    rw [V2, E]
    rw [hr] at RT
    clear V V2 E hr hL hB hs
    generalize (⟨(stuffF (sumF (headF f))).toArray⟩ : ByteArray) = t at *
    generalize sumF (headF f) = t2 at *
    generalize headF f = t1 at *
    obtain ⟨id, ext, rem, dlc, data⟩ := f
    dsimp only at *
    go_enter Tryz.func41, Tryz.ntmps41
    go_wp2_with fail
    refine (RT.out _).mono ?_
    rintro e1 w1 ⟨rfl, q1⟩
    have Q1 := hide (below_next q0 q0.size q1)
    have B1 := hide (heap_below B0.out q1)
    have l0 : w1.cell? ⟨w.heap.size, 0, none⟩ = some (.int .u32 id) := by have := B1.out; simp [World.cell?, this]
    have l1 : w1.cell? ⟨w.heap.size, 1, none⟩ = some (.bool ext) := by have := B1.out; simp [World.cell?, this]
    have l2 : w1.cell? ⟨w.heap.size, 2, none⟩ = some (.bool rem) := by have := B1.out; simp [World.cell?, this]
    have l3 : w1.cell? ⟨w.heap.size, 3, none⟩ = some (.int .i64 dlc) := by have := B1.out; simp [World.cell?, this]
    have l4 : w1.cell? ⟨w.heap.size, 4, none⟩ = some (.string data) := by have := B1.out; simp [World.cell?, this]
    clear B0 q0 q1 B1
    go_wp2_with fail
    refine (HD.out _).mono ?_
    rintro e2 w2 ⟨rfl, q2⟩
    have Q2 := hide (below_next Q1.out Q1.out.size q2)
    clear q2 l0 l1 l2 l3 l4
    go_wp2_with fail
    refine (CF.out _).mono ?_
    rintro e3 w3 ⟨rfl, q3⟩
    have Q3 := hide (below_next Q2.out Q2.out.size q3)
    clear q3
    go_wp2_with fail
    refine (SF.out _).mono ?_
    rintro e4 w4 ⟨rfl, q4⟩
    have Q4 := hide (below_next Q3.out Q3.out.size q4)
    clear q4
    go_wp2_with fail
    go_ret2
    exact ⟨rfl, Q4.out⟩
end Go.Proofs.YtjfgapljfbkfiaaGreatDoor

/- The walk of FrameBits. -/
namespace Go.Proofs.YtjfgapljfbkfiaaGreatDoor
open Go.ChangeShapes Go.WideShapes Go.ChangeAt Go.RowKit
open FP (bit bitsOf Fr bitB idPart dataPart headF bitsF)

/-- A frame's block, read. -/
theorem frCells {W : World} {b : Nat} {id : Nat} {ext rem : Bool} {dlc : Int} {data : ByteArray} (h : W.heap[b]? = some (.cells #[.int .u32 id, .bool ext, .bool rem, .int .i64 dlc, .string data] 31 (0, 0))) :
    W.cell? ⟨b, 0, none⟩ = some (.int .u32 id) ∧ W.cell? ⟨b, 1, none⟩ = some (.bool ext) ∧ W.cell? ⟨b, 2, none⟩ = some (.bool rem) ∧ W.cell? ⟨b, 3, none⟩ = some (.int .i64 dlc) ∧ W.cell? ⟨b, 4, none⟩ = some (.string data) :=
  ⟨by simp [World.cell?, h], by simp [World.cell?, h], by simp [World.cell?, h], by simp [World.cell?, h], by simp [World.cell?, h]⟩

theorem frThere {W : World} {b : Nat} {id : Nat} {ext rem : Bool} {dlc : Int} {data : ByteArray} (h : W.heap[b]? = some (.cells #[.int .u32 id, .bool ext, .bool rem, .int .i64 dlc, .string data] 31 (0, 0))) : W.there b 0 5 :=
  there_heap (cs := [.int .u32 id, .bool ext, .bool rem, .int .i64 dlc, .string data]) h

end Go.Proofs.YtjfgapljfbkfiaaGreatDoor

/- strings.Builder that String() may have read: Len, WriteByte, String, in a block of whatever type begins with one. -/
namespace Go.Proofs.YtjfgapljfbkfiaaGreatDoor
open Go.ChangeShapes Go.WideShapes Go.ChangeAt Go.RowKit

theorem ccF_any (t b B : Nat) (ht : BT t) (bs : List Value) (w : World) (h : Lib.IsBuilderF t 5 B b bs w) :
    Calls Tryz.prog 94 #[.pointer (some ⟨b, 0, none⟩)] w fun e w' => e = .returned (.tuple #[]) ∧ Lib.BuilderAtF t 5 B b (.pointer (some ⟨b, 0, none⟩)) bs w' ∧ Below B w w' ∧ w.grownBy w' (some b) := by
  rcases h with h | h
  · exact (cc_fresh t b ht w h.cell0 h.shape h.frozen0).mono fun _ _ ⟨a, c⟩ => by
      subst c
      exact ⟨a, h.used _, (Below.refl B w).setCell (p := ⟨b, 0, none⟩) h.1 _, ⟨rfl, rfl, rfl, by simp [World.setCell], fun k _ hk => Below.heap_setCell _ _ _ _ (fun e => hk (by simp [e]))⟩⟩
  · exact (cc_used b w h.cell0).mono fun _ _ ⟨a, c⟩ => by subst c; exact ⟨a, h, Below.refl B _, grownBy_refl _ _⟩

set_option maxRecDepth 100000 in
set_option maxHeartbeats 1000000 in
theorem bstrF_any (t b B : Nat) (l : List UInt8) (w : World) (h : Lib.IsBuilderF t 5 B b (Lib.byteCells l) w) (h0 : l ≠ []) :
    Calls Tryz.prog 78 #[.pointer (some ⟨b, 0, none⟩)] w fun e w' => e = .returned (.string ⟨l.toArray⟩) ∧ Lib.IsBuilderF t 5 B b (Lib.byteCells l) w' ∧ Below B w w' := by
  obtain ⟨p, hp, hAt⟩ : ∃ p, (p = .pointer none ∨ p = .pointer (some ⟨b, 0, none⟩)) ∧ Lib.BuilderAtF t 5 B b p (Lib.byteCells l) w := by
    rcases h with h | h
    · exact ⟨_, .inl rfl, h⟩
    · exact ⟨_, .inr rfl, h⟩
  obtain ⟨hB, v, hbk, hown, hne⟩ := hAt
  have hl0 : l.length ≠ 0 := by simpa using h0
  rw [Lib.byteCells_length] at hown
  obtain ⟨g, cap, cur, fz, rfl, hbg, hg, hfz, hnc, hcm, hcs, htake⟩ : ∃ g cap cur fz, v = .slice (some ⟨g, 0, none⟩) l.length cap ∧ B ≤ g ∧ w.heap[g]? = some (.cells cur 5 fz) ∧ fz.2 ≤ l.length * 1 ∧ l.length ≤ cap ∧ cap ≤ maxLen ∧ cur.size = cap * 1 ∧ cur.toList.take (l.length * 1) = Lib.byteCells l := by
    rcases hown.2 with ⟨_, hz⟩ | ⟨g, cap, cur, fz, hv, r⟩
    · exact absurd hz hl0
    · exact ⟨g, cap, cur, fz, hv, r⟩
  have c1 : w.drew.cell? ⟨b, 1, none⟩ = some (.slice (some ⟨g, 0, none⟩) l.length cap) := by
    have : w.drew.heap[b]? = some (.cells #[p, .slice (some ⟨g, 0, none⟩) l.length cap] t (0, 0)) := hbk
    rw [Lib.cell_of_heap this]; rfl
  have hSD : (Builtin.unsafeSliceData_ #[92] 150 #[.slice (some ⟨g, 0, none⟩) l.length cap]).run Tryz.prog w.drew = .ok (.pointer (some ⟨g, 0, none⟩)) w.drew :=
    Lib.run_unsafeSliceData_row _ _ _ _ _ _ (by omega)
  have hUS : (Builtin.unsafeString_ #[150, 3] 9 #[.pointer (some ⟨g, 0, none⟩), .int .i64 l.length]).run Tryz.prog w.drew = .ok (.string ⟨l.toArray⟩) (w.drew.freeze ⟨g, 0, none⟩ l.length) := by
    refine Lib.run_unsafeString_row w.drew 150 3 9 5 Tryz.underlying150 (by kernel_rfl) g cur.size (by have hg' : w.drew.heap[g]? = some (.cells cur 5 fz) := hg; simp [World.shape?, hg']) l h0 (by omega) (by unfold maxLen at hcm; omega) ?_
    intro j x hx
    have := hown.cells (g := g) rfl j (.int .u8 x.toNat) (by simp [Lib.byteCells, hx])
    exact this
  have hkeep : Lib.IsBuilderF t 5 B b (Lib.byteCells l) (w.drew.freeze ⟨g, 0, none⟩ l.length) := by
    have hA : Lib.BuilderAtF t 5 B b p (Lib.byteCells l) w.drew := ⟨hB, _, hbk, by rw [Lib.byteCells_length]; exact hown, hne⟩
    have hF := hA.froze (g := g) (cap := cap) (by rw [Lib.byteCells_length]; exact c1)
    rw [Lib.byteCells_length] at hF
    rcases hp with rfl | rfl
    · exact .inl hF
    · exact .inr hF
  have HKP := hide hkeep
  clear hkeep hown hbk hg hcs hcm hnc hfz htake hl0 h0 h
  go_enter Tryz.func78, Tryz.ntmps78
  go_wp2
  go_region
  all_goals
    go_wp2
    go_ret
    exact ⟨rfl, HKP.out, Lib.below_freeze (Below.drew (Below.refl B w)) (p := ⟨g, 0, none⟩) hbg _⟩

theorem bldAtF_keep {t e B b : Nat} {p : Value} {bs : List Value} {w w' : World} {row : Option Nat} (h : Lib.BuilderAtF t e B b p bs w) (hg : w.grownBy w' row) (hr : ∀ k, row = some k → k < B) : Lib.BuilderAtF t e B b p bs w' := by
  have hlt := h.lt
  obtain ⟨hB, v, hbk, hown, hne⟩ := h
  refine ⟨hB, v, (hg.block b hlt (fun e => by have := hr b e.symm; omega)).trans hbk, hown.kept hg ?_, hne⟩
  cases hv : v.ownBlock with
  | none => exact .inl rfl
  | some k =>
    right
    intro e
    have h1 := hr k e.symm
    have h2 := (hown.lt k hv).1
    omega
/-- A builder is kept where only blocks below it were written, or new ones laid. -/
theorem bldF_keep {t e B b : Nat} {bs : List Value} {w w' : World} {row : Option Nat} (h : Lib.IsBuilderF t e B b bs w) (hg : w.grownBy w' row) (hr : ∀ k, row = some k → k < B) : Lib.IsBuilderF t e B b bs w' :=
  h.elim (fun x => .inl (bldAtF_keep x hg hr)) (fun x => .inr (bldAtF_keep x hg hr))
theorem grown_none {w w' : World} (hb : Below w.heap.size w w') : w.grownBy w' none := ⟨hb.os, hb.tape, hb.output, hb.size, fun k hk _ => hb.block k hk⟩
theorem two_new (w : World) (X Y : Obj) : ((w.alloc X).alloc Y).heap[w.heap.size]? = some X ∧ ((w.alloc X).alloc Y).heap[w.heap.size + 1]? = some Y := by
  have hs : (w.alloc X).heap.size = w.heap.size + 1 := by simp
  have h1 := World.alloc_heap_new (w.alloc X) Y
  rw [hs] at h1
  exact ⟨heap_below (World.alloc_heap_new w X) ((Below.refl _ _).alloc (Nat.le_refl _) _), h1⟩
end Go.Proofs.YtjfgapljfbkfiaaGreatDoor

/- The walks of stuff.Right, stuff.Step. -/
namespace Go.Proofs.YtjfgapljfbkfiaaGreatDoor
open Go.ChangeShapes Go.WideShapes Go.ChangeAt Go.RowKit
open FP (uN uK stuffedF doneB badB sizeE sizeV SR)

/-- What stuffing may know. -/
def StK (last : UInt8) (n : Nat) : Prop := (n = 0 ∧ last = 0) ∨ ((last = 48 ∨ last = 49) ∧ 1 ≤ n ∧ n ≤ 5)
theorem StK.le {last : UInt8} {n : Nat} (h : StK last n) : n ≤ 5 := by rcases h with h | h <;> omega
theorem StK.step {last : UInt8} {n : Nat} (h : StK last n) {c : UInt8} (hc : c = 48 ∨ c = 49) : StK c (uN last n c) := by
  have := FP.uN_le (last := last) h.le c
  exact .inr ⟨hc, this.1, this.2⟩

set_option maxRecDepth 100000 in
theorem stBit_any (c : UInt8) (w : World) (hc : c = 48 ∨ c = 49) : Calls Tryz.prog 50 #[.int .u8 c.toNat] w fun e w' => e = .returned (.bool true) ∧ w = w' := by
  rcases hc with rfl | rfl
  all_goals
    go_enter Tryz.func50, Tryz.ntmps50
    go_wp2
    go_ret
    exact ⟨rfl, rfl⟩

set_option maxRecDepth 100000 in
set_option maxHeartbeats 1000000 in
theorem stRight_any (last : UInt8) (n : Nat) (w : World) (h : StK last n) : Calls Tryz.prog 38 #[.agg #[.int .u8 last.toNat, .int .i64 n]] w fun e w' => e = .returned (.bool true) ∧ Below w.heap.size w w' := by
  have q0 : Below w.heap.size w (w.alloc (.cells #[.int .u8 last.toNat, .int .i64 n] 51)) := (Below.refl _ _).alloc (Nat.le_refl _) _
  have BB := hide (fun c W hc => stBit_any c W hc)
  rcases h with ⟨rfl, rfl⟩ | ⟨hl, h1, h5⟩
  · clear BB
    go_enter Tryz.func38, Tryz.ntmps38
    go_wp2
    go_ret
    exact ⟨rfl, q0⟩
  · have e0 : ((last.toNat : Int) == 0) = false := by rcases hl with rfl | rfl <;> decide
    have B1 := hide (fun W => BB.out last W hl)
    have h1' : decide ((1 : Int) ≤ n) = true := decide_eq_true (by omega)
    have h5' : decide ((n : Int) ≤ 5) = true := decide_eq_true (by omega)
    clear BB hl
    go_enter Tryz.func38, Tryz.ntmps38
    go_wp2_with fail
    refine (B1.out _).mono ?_
    rintro e1 w1 ⟨rfl, rfl⟩
    go_wp2
    go_ret
    exact ⟨rfl, q0⟩

set_option maxRecDepth 100000 in
set_option maxHeartbeats 1000000 in
theorem stStep_any (last : UInt8) (n : Nat) (c : UInt8) (w : World) (h : StK last n) (hc : c = 48 ∨ c = 49) :
    Calls Tryz.prog 56 #[.agg #[.int .u8 last.toNat, .int .i64 n], .int .u8 c.toNat] w fun e w' => e = .returned (.tuple #[.agg #[.int .u8 c.toNat, .int .i64 (uN last n c : Nat)], .int .i64 (uK last n c : Nat), .int .i64 0]) ∧ Below w.heap.size w w' := by
  have RT := hide (fun W => stRight_any last n W h)
  have BB := hide (fun W => stBit_any c W hc)
  have hn := h.le
  have ST := hide (fun b W hW => step_any b last n c hn W hW)
  have q0 : Below w.heap.size w ((w.alloc (.cells #[.int .u8 last.toNat, .int .i64 n] 51)).alloc (.cells #[.int .u8 0, .int .i64 0] 51)) := ((Below.refl _ _).alloc (Nat.le_refl _) _).alloc (by simp) _
  have B0 := hide (show ((w.alloc (.cells #[.int .u8 last.toNat, .int .i64 n] 51)).alloc (.cells #[.int .u8 0, .int .i64 0] 51)).heap[w.heap.size + 1]? = some (.cells #[.int .u8 0, .int .i64 0] 51 (0, 0)) from (two_new _ _ _).2)
  have B1 := hide (show ((w.alloc (.cells #[.int .u8 last.toNat, .int .i64 n] 51)).alloc (.cells #[.int .u8 0, .int .i64 0] 51)).heap[w.heap.size]? = some (.cells #[.int .u8 last.toNat, .int .i64 n] 51 (0, 0)) from (two_new _ _ _).1)
  clear h hc
  go_enter Tryz.func56, Tryz.ntmps56
  go_wp2_with fail
  refine (RT.out _).mono ?_
  rintro e1 w1 ⟨rfl, q1⟩
  have Q1 := hide (below_next q0 q0.size q1)
  have C0 := hide (heap_below B0.out q1)
  have C1 := hide (heap_below B1.out q1)
  clear q0 q1 B0 B1
  go_wp2_with fail
  refine (BB.out _).mono ?_
  rintro e2 w2 ⟨rfl, rfl⟩
  obtain ⟨x0, x1, _⟩ := two_st C1.out
  go_wp2_with fail
  have hz1 : w.heap.size + 1 < w1.heap.size := heap_lt C0.out
  have al := (Below.refl w1.heap.size w1).alloc (Nat.le_refl _) (.cells #[.int .u8 last.toNat, .int .i64 n] 139)
  have C2 := hide (heap_below C0.out al)
  have Q2 := hide (below_next Q1.out Q1.out.size al)
  have S2 := hide (World.alloc_heap_new w1 (.cells #[.int .u8 last.toNat, .int .i64 n] 139))
  clear al x0 x1 C0 C1 Q1
  refine (ST.out _ _ S2.out).mono ?_
  rintro e3 w3 ⟨rfl, h3, g3⟩
  have C3 := hide (heap_grownB C2.out g3 (by simp; omega))
  have Q3 := hide (Q2.out.grown g3 Q2.out.size (fun k hk => by simp at hk; omega))
  obtain ⟨y0, y1, _⟩ := two_st h3
  have hN : (stN last n c : Nat) = uN last n c := rfl
  have hK : (stK last n c : Nat) = uK last n c := rfl
  rw [hN] at y1
  rw [hK]
  clear h3 g3 C2 Q2 S2 ST hN hK
  go_wp2_with (refine wpList_store_hid (by rfl) 51 (.tmp 4) (.tmp 27) (by rfl) (w.heap.size + 1) 0 [.int .u8 c.toNat, .int .i64 (uN last n c : Nat)] (by rfl) (by rfl) (by exact (show w3.there (w.heap.size + 1) 0 2 from there_heap (cs := [_, _]) C3.out)) (by kernel_rfl) (by simp [Value.oneCell']) ?_)
  intro W4 e4
  have C4 := whole_heap [.int .u8 c.toNat, .int .i64 (uN last n c : Nat)] (xs := [_, _]) C3.out rfl
  have Q4 := Q3.out.trans (below_setCells (g := w.heap.size + 1) [.int .u8 c.toNat, .int .i64 (uN last n c : Nat)] 0 _ (by omega))
  rw [← e4.out] at C4 Q4
  clear e4 C3 Q3 y0 y1
  obtain ⟨z0, z1, _⟩ := two_st C4
  have QQ := hide Q4
  clear C4 Q4
  go_wp2
  refine bodyPost_ret (v := .tuple #[.agg #[.int .u8 c.toNat, .int .i64 (uN last n c : Nat)], .int .i64 (uK last n c : Nat), .int .i64 0]) (by simp [results, Tryz.results56, go_sem, z0, z1]) rfl ⟨rfl, QQ.out⟩
end Go.Proofs.YtjfgapljfbkfiaaGreatDoor
