/- The walk of FrameBits. -/
import Derived.Test.YtmfgifinmeonjaaDoorFbA
namespace Go.Proofs.YtmfgifinmeonjaaDoor
open Go.ChangeShapes Go.WideShapes Go.ChangeAt Go.RowKit
open FP (bit bitsOf Fr bitB idPart dataPart headF bitsF)

/-- A frame's block, read. -/
theorem frCells {W : World} {b : Nat} {id : Nat} {ext rem : Bool} {dlc : Int} {data : ByteArray} (h : W.heap[b]? = some (.cells #[.int .u32 id, .bool ext, .bool rem, .int .i64 dlc, .string data] 24 (0, 0))) :
    W.cell? ⟨b, 0, none⟩ = some (.int .u32 id) ∧ W.cell? ⟨b, 1, none⟩ = some (.bool ext) ∧ W.cell? ⟨b, 2, none⟩ = some (.bool rem) ∧ W.cell? ⟨b, 3, none⟩ = some (.int .i64 dlc) ∧ W.cell? ⟨b, 4, none⟩ = some (.string data) :=
  ⟨by simp [World.cell?, h], by simp [World.cell?, h], by simp [World.cell?, h], by simp [World.cell?, h], by simp [World.cell?, h]⟩

theorem frThere {W : World} {b : Nat} {id : Nat} {ext rem : Bool} {dlc : Int} {data : ByteArray} (h : W.heap[b]? = some (.cells #[.int .u32 id, .bool ext, .bool rem, .int .i64 dlc, .string data] 24 (0, 0))) : W.there b 0 5 :=
  there_heap (cs := [.int .u32 id, .bool ext, .bool rem, .int .i64 dlc, .string data]) h

set_option maxRecDepth 100000 in
set_option maxHeartbeats 4000000 in
theorem frameBits_walk (f : Fr) (w : World) (hid : f.id < 4294967296) (hs : f.data.size ≤ maxLen) :
    Calls Tryd.prog 3 #[.agg (frc f).toArray] w fun e w' => e = .returned (.bool true) ∧ Below w.heap.size w w' := by
  have FEW := hide (fun W => few04_any f W hs)
  have HD := hide (fun W => Head_any (cutF f) W hid)
  have BT := hide (fun W => frBits_any (cutF f) W hid)
  have RR := hide (fun W => refRight04_any (cutF f) W hid)
  have FR := hide (fun W => frRight_any (cutF f) W hid)
  have RH := hide (fun hr W => refHead_any (cutF f) W hr)
  have RB := hide (fun hr W => refBits_any (cutF f) W hr)
  have HV : ∀ b, FP.rightB (cutF f) = b → (headV (cutF f) = (if b then ⟨(headF (cutF f)).toArray⟩ else ⟨#[]⟩)) ∧ (bitsV (cutF f) = (if b then ⟨(bitsF (cutF f)).toArray⟩ else ⟨#[]⟩)) ∧ headE (cutF f) = (if b then 0 else 1) := fun b hb => by
    unfold headV bitsV headE; rw [hb]; exact ⟨rfl, rfl, rfl⟩
  cases hr : FP.rightB (cutF f) with
  | false =>
    obtain ⟨h1, h2, h3⟩ := HV _ hr
    simp only [Bool.false_eq_true, if_false] at h1 h2 h3
    rw [h1, h3] at HD
    rw [h2, h3] at BT
    rw [hr] at RR FR
    clear h1 h2 h3 HV hr RH RB hs
    obtain ⟨id, ext, rem, dlc, data⟩ := f
    dsimp only [cutF, frc] at *
    generalize data.extract 0 (min data.size 12) = dt at *
    have q0 : Below w.heap.size w (w.alloc (.cells #[.int .u32 id, .bool ext, .bool rem, .int .i64 dlc, .string data] 24)) := (Below.refl _ _).alloc (Nat.le_refl _) _
    have B0 := hide (World.alloc_heap_new w (.cells #[.int .u32 id, .bool ext, .bool rem, .int .i64 dlc, .string data] 24))
    go_enter Tryd.func3, Tryd.ntmps3
    go_wp2_with fail
    refine (FEW.out _).mono ?_
    rintro e1 w1 ⟨rfl, q1⟩
    have Q1 := hide (below_next q0 q0.size q1)
    have B1 := hide (heap_below B0.out q1)
    clear q0 q1 B0
    go_wp2_with (refine wpList_store_hid (by rfl) 24 (.tmp 1) (.tmp 8) (by rfl) w.heap.size 0 [.int .u32 id, .bool ext, .bool rem, .int .i64 dlc, .string dt] (by rfl) (by rfl) (by exact frThere B1.out) (by kernel_rfl) (by simp [Value.oneCell']) ?_)
    intro W e
    have QW : Hid (Below w.heap.size w W) := by rw [e.out]; exact hide (Q1.out.trans (below_setCells _ _ _ (Nat.le_refl _)))
    have BW : Hid (W.heap[w.heap.size]? = some (.cells #[.int .u32 id, .bool ext, .bool rem, .int .i64 dlc, .string dt] 24 (0, 0))) := by rw [e.out]; exact hide (whole_heap (xs := [.int .u32 id, .bool ext, .bool rem, .int .i64 dlc, .string data]) _ B1.out rfl)
    clear e Q1 B1
    obtain ⟨c0, c1, c2, c3, c4⟩ := frCells BW.out
    go_wp2_with fail
    refine (HD.out _).mono ?_
    rintro e3 w3 ⟨rfl, q3⟩
    have Q3 := hide (below_next QW.out QW.out.size q3)
    have B3 := hide (heap_below BW.out q3)
    clear q3 c0 c1 c2 c3 c4 QW BW
    obtain ⟨c0, c1, c2, c3, c4⟩ := frCells B3.out
    go_wp2_with fail
    refine (BT.out _).mono ?_
    rintro e4 w4 ⟨rfl, q4⟩
    have Q4 := hide (below_next Q3.out Q3.out.size q4)
    have B4 := hide (heap_below B3.out q4)
    clear q4 c0 c1 c2 c3 c4 Q3 B3
    obtain ⟨c0, c1, c2, c3, c4⟩ := frCells B4.out
    go_wp2_with fail
    refine (RR.out _).mono ?_
    rintro e5 w5 ⟨rfl, q5⟩
    have Q5 := hide (below_next Q4.out Q4.out.size q5)
    have B5 := hide (heap_below B4.out q5)
    clear q5 c0 c1 c2 c3 c4 Q4 B4
    go_wp2_with fail
    refine (alive04_any _).mono ?_
    rintro e6 w6 ⟨rfl, q6⟩
    have Q6 := hide (below_next Q5.out Q5.out.size q6)
    have B6 := hide (heap_below B5.out q6)
    clear q6 Q5 B5
    obtain ⟨c0, c1, c2, c3, c4⟩ := frCells B6.out
    go_wp2_with fail
    refine (FR.out _).mono ?_
    rintro e7 w7 ⟨rfl, q7⟩
    have Q7 := hide (below_next Q6.out Q6.out.size q7)
    clear q7 Q6 B6 c0 c1 c2 c3 c4
    go_wp2_with fail
    go_ret
    exact ⟨rfl, Q7.out⟩
  | true =>
    obtain ⟨h1, h2, h3⟩ := HV _ hr
    simp only [if_true] at h1 h2 h3
    rw [h1, h3] at HD
    rw [h2, h3] at BT
    rw [hr] at RR FR
    replace RH := hide (RH.out hr)
    replace RB := hide (RB.out hr)
    clear h1 h2 h3 HV hr hs
    generalize (⟨(headF (cutF f)).toArray⟩ : ByteArray) = sh at *
    generalize (⟨(bitsF (cutF f)).toArray⟩ : ByteArray) = sb at *
    obtain ⟨id, ext, rem, dlc, data⟩ := f
    dsimp only [cutF, frc] at *
    generalize data.extract 0 (min data.size 12) = dt at *
    have q0 : Below w.heap.size w (w.alloc (.cells #[.int .u32 id, .bool ext, .bool rem, .int .i64 dlc, .string data] 24)) := (Below.refl _ _).alloc (Nat.le_refl _) _
    have B0 := hide (World.alloc_heap_new w (.cells #[.int .u32 id, .bool ext, .bool rem, .int .i64 dlc, .string data] 24))
    go_enter Tryd.func3, Tryd.ntmps3
    go_wp2_with fail
    refine (FEW.out _).mono ?_
    rintro e1 w1 ⟨rfl, q1⟩
    have Q1 := hide (below_next q0 q0.size q1)
    have B1 := hide (heap_below B0.out q1)
    clear q0 q1 B0
    go_wp2_with (refine wpList_store_hid (by rfl) 24 (.tmp 1) (.tmp 8) (by rfl) w.heap.size 0 [.int .u32 id, .bool ext, .bool rem, .int .i64 dlc, .string dt] (by rfl) (by rfl) (by exact frThere B1.out) (by kernel_rfl) (by simp [Value.oneCell']) ?_)
    intro W e
    have QW : Hid (Below w.heap.size w W) := by rw [e.out]; exact hide (Q1.out.trans (below_setCells _ _ _ (Nat.le_refl _)))
    have BW : Hid (W.heap[w.heap.size]? = some (.cells #[.int .u32 id, .bool ext, .bool rem, .int .i64 dlc, .string dt] 24 (0, 0))) := by rw [e.out]; exact hide (whole_heap (xs := [.int .u32 id, .bool ext, .bool rem, .int .i64 dlc, .string data]) _ B1.out rfl)
    clear e Q1 B1
    obtain ⟨c0, c1, c2, c3, c4⟩ := frCells BW.out
    go_wp2_with fail
    refine (HD.out _).mono ?_
    rintro e3 w3 ⟨rfl, q3⟩
    have Q3 := hide (below_next QW.out QW.out.size q3)
    have B3 := hide (heap_below BW.out q3)
    clear q3 c0 c1 c2 c3 c4 QW BW
    obtain ⟨c0, c1, c2, c3, c4⟩ := frCells B3.out
    go_wp2_with fail
    refine (BT.out _).mono ?_
    rintro e4 w4 ⟨rfl, q4⟩
    have Q4 := hide (below_next Q3.out Q3.out.size q4)
    have B4 := hide (heap_below B3.out q4)
    clear q4 c0 c1 c2 c3 c4 Q3 B3
    obtain ⟨c0, c1, c2, c3, c4⟩ := frCells B4.out
    go_wp2_with fail
    refine (RR.out _).mono ?_
    rintro e5 w5 ⟨rfl, q5⟩
    have Q5 := hide (below_next Q4.out Q4.out.size q5)
    have B5 := hide (heap_below B4.out q5)
    clear q5 c0 c1 c2 c3 c4 Q4 B4
    go_wp2_with fail
    refine (alive04_any _).mono ?_
    rintro e6 w6 ⟨rfl, q6⟩
    have Q6 := hide (below_next Q5.out Q5.out.size q6)
    have B6 := hide (heap_below B5.out q6)
    clear q6 Q5 B5
    obtain ⟨c0, c1, c2, c3, c4⟩ := frCells B6.out
    go_wp2_with fail
    refine (FR.out _).mono ?_
    rintro e7 w7 ⟨rfl, q7⟩
    have Q7 := hide (below_next Q6.out Q6.out.size q7)
    have B7 := hide (heap_below B6.out q7)
    clear q7 Q6 B6 c0 c1 c2 c3 c4
    obtain ⟨c0, c1, c2, c3, c4⟩ := frCells B7.out
    go_wp2_with fail
    refine (RH.out _).mono ?_
    rintro e8 w8 ⟨rfl, q8⟩
    have Q8 := hide (below_next Q7.out Q7.out.size q8)
    have B8 := hide (heap_below B7.out q8)
    clear q8 Q7 B7 c0 c1 c2 c3 c4
    obtain ⟨c0, c1, c2, c3, c4⟩ := frCells B8.out
    go_wp2_with fail
    refine (RB.out _).mono ?_
    rintro e9 w9 ⟨rfl, q9⟩
    have Q9 := hide (below_next Q8.out Q8.out.size q9)
    clear q9 Q8 B8 c0 c1 c2 c3 c4
    go_wp2_with fail
    go_ret
    exact ⟨rfl, Q9.out⟩
end Go.Proofs.YtmfgifinmeonjaaDoor
