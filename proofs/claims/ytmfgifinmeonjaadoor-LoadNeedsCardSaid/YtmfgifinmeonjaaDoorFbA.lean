/- The walks of frame.Bits and of the reference's Head, Sum and Bits. -/
import Derived.Test.YtmfgifinmeonjaaDoorStB
import Derived.Test.YtmfgifinmeonjaaDoorFbR
namespace Go.Proofs.YtmfgifinmeonjaaDoor
open Go.ChangeShapes Go.WideShapes Go.ChangeAt Go.RowKit
open FP (bit bitsOf Fr bitB idPart dataPart headF crcOf stuffF sumF bitsF tenF)

def bitsV (f : Fr) : ByteArray := if FP.rightB f then ⟨(bitsF f).toArray⟩ else ⟨#[]⟩

set_option maxRecDepth 100000 in
set_option maxHeartbeats 1000000 in
theorem frBits_any (f : Fr) (w : World) (hid : f.id < 4294967296) :
    Calls Tryd.prog 12 #[.agg #[.int .u32 f.id, .bool f.ext, .bool f.rem, .int .i64 f.dlc, .string f.data]] w fun e w' => e = .returned (.tuple #[.string (bitsV f), .int .i64 (headE f)]) ∧ Below w.heap.size w w' := by
  have RT := hide (fun W => frRight_any f W hid)
  have q0 : Below w.heap.size w (w.alloc (.cells #[.int .u32 f.id, .bool f.ext, .bool f.rem, .int .i64 f.dlc, .string f.data] 24)) := (Below.refl _ _).alloc (Nat.le_refl _) _
  have B0 := hide (World.alloc_heap_new w (.cells #[.int .u32 f.id, .bool f.ext, .bool f.rem, .int .i64 f.dlc, .string f.data] 24))
  cases hr : FP.rightB f with
  | false =>
    have V : bitsV f = ⟨#[]⟩ := by unfold bitsV; rw [hr]; rfl
    have E : headE f = 1 := by unfold headE; rw [hr]; rfl
    rw [V, E]
    rw [hr] at RT
    clear V E hr B0
    obtain ⟨id, ext, rem, dlc, data⟩ := f
    dsimp only at *
    go_enter Tryd.func12, Tryd.ntmps12
    go_wp2_with fail
    refine (RT.out _).mono ?_
    rintro e1 w1 ⟨rfl, q1⟩
    go_wp2_with fail
    go_ret2
    exact ⟨rfl, below_next q0 q0.size q1⟩
  | true =>
    have V : bitsV f = ⟨(stuffF (sumF (headF f)) ++ [49, 49, 49, 49, 49, 49, 49, 49, 49, 49]).toArray⟩ := by unfold bitsV; rw [hr]; rfl
    have E : headE f = 0 := by unfold headE; rw [hr]; rfl
    have hL := FP.head_le hr
    have HD := hide (fun W => head_any f W hr)
    have CF := hide (fun W => crcFrame_any ⟨(headF f).toArray⟩ W (bitRow_iff.2 ⟨by rw [toList_of]; omega, FP.head_bits f⟩) (by rw [size_of]; omega))
    have SF := hide (fun W => stuff_any ⟨(sumF (headF f)).toArray⟩ W (bitRow_iff.2 ⟨by rw [toList_of, FP.sum_length]; omega, FP.sum_bits (FP.head_bits f)⟩) (by rw [size_of, FP.sum_length]; omega) (by rw [size_of, FP.sum_length]; omega))
    rw [toList_of] at CF SF
    have hB := FP.bits_len hr
    have hs := size_of (stuffF (sumF (headF f)))
    have V2 : bitsV f = ⟨(stuffF (sumF (headF f))).toArray⟩ ++ ⟨#[49, 49, 49, 49, 49, 49, 49, 49, 49, 49]⟩ := by rw [V, ← str_app]
    have hsz : (⟨(stuffF (sumF (headF f))).toArray⟩ : ByteArray).size ≤ 1000 := by omega
    rw [V2, E]
    rw [hr] at RT
    clear V V2 E hr hL hB hs
    generalize (⟨(stuffF (sumF (headF f))).toArray⟩ : ByteArray) = t at *
    generalize sumF (headF f) = t2 at *
    generalize headF f = t1 at *
    obtain ⟨id, ext, rem, dlc, data⟩ := f
    dsimp only at *
    go_enter Tryd.func12, Tryd.ntmps12
    go_wp2_with fail
    refine (RT.out _).mono ?_
    rintro e1 w1 ⟨rfl, q1⟩
    have Q1 := hide (below_next q0 q0.size q1)
    have B1 := hide (heap_below B0.out q1)
    have l0 : w1.cell? ⟨w.heap.size, 0, none⟩ = some (.int .u32 id) := by have := B1.out; simp [World.cell?, this]
    have l1 : w1.cell? ⟨w.heap.size, 1, none⟩ = some (.bool ext) := by have := B1.out; simp [World.cell?, this]
    have l2 : w1.cell? ⟨w.heap.size, 2, none⟩ = some (.bool rem) := by have := B1.out; simp [World.cell?, this]
    have l3 : w1.cell? ⟨w.heap.size, 3, none⟩ = some (.int .i64 dlc) := by have := B1.out; simp [World.cell?, this]
    have l4 : w1.cell? ⟨w.heap.size, 4, none⟩ = some (.string data) := by have := B1.out; simp [World.cell?, this]
    clear B0 q0 q1 B1
    go_wp2_with fail
    refine (HD.out _).mono ?_
    rintro e2 w2 ⟨rfl, q2⟩
    have Q2 := hide (below_next Q1.out Q1.out.size q2)
    clear q2 l0 l1 l2 l3 l4
    go_wp2_with fail
    refine (CF.out _).mono ?_
    rintro e3 w3 ⟨rfl, q3⟩
    have Q3 := hide (below_next Q2.out Q2.out.size q3)
    clear q3
    go_wp2_with fail
    refine (SF.out _).mono ?_
    rintro e4 w4 ⟨rfl, q4⟩
    have Q4 := hide (below_next Q3.out Q3.out.size q4)
    clear q4
    go_wp2_with fail
    go_ret2
    exact ⟨rfl, Q4.out⟩
end Go.Proofs.YtmfgifinmeonjaaDoor
