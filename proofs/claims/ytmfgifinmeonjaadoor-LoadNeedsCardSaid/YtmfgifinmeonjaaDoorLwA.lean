/- The walks of load.Bits, load.Worst, and LoadWorst. -/
import Derived.Test.YtmfgifinmeonjaaDoorLoadD
import Derived.Test.YtmfgifinmeonjaaDoorFbL
namespace Go.Proofs.YtmfgifinmeonjaaDoor
open Go.ChangeShapes Go.WideShapes Go.ChangeAt Go.RowKit
open FP (bit bitsOf Fr bitB headF bitsF stuffF sumF)

def lbV (f : Fr) : Int := if FP.rightB f then (bitsF f).length + 3 else 0
def wsN (ext : Bool) (n : Int) : Int := (if ext then 39 else 19) + (8 * n + 15)
def wsV (ext : Bool) (n : Int) : Int := if 0 ≤ n ∧ n ≤ 8 then wsN ext n + (wsN ext n - 1) / 4 + 10 + 3 else 0
def wsE (n : Int) : Int := if 0 ≤ n ∧ n ≤ 8 then 0 else 1

set_option maxRecDepth 100000 in
set_option maxHeartbeats 1000000 in
theorem worst_any (ext : Bool) (n : Int) (w : World) :
    Calls Tryd.prog 20 #[.bool ext, .int .i64 n] w fun e w' => e = .returned (.tuple #[.int .i64 (wsV ext n), .int .i64 (wsE n)]) ∧ Below w.heap.size w w' := by
  have V := hide (show wsV ext n = if 0 ≤ n ∧ n ≤ 8 then wsN ext n + (wsN ext n - 1) / 4 + 10 + 3 else 0 from rfl)
  have E := hide (show wsE n = if 0 ≤ n ∧ n ≤ 8 then 0 else 1 from rfl)
  by_cases h0 : 0 ≤ n
  · by_cases h8 : n ≤ 8
    · rw [V.out, E.out, if_pos ⟨h0, h8⟩, if_pos ⟨h0, h8⟩]
      have W := hide (show wsN ext n = (if ext then 39 else 19) + (8 * n + 15) from rfl)
      clear V E
      cases ext
      · have W2 : Hid (wsN false n = 19 + (8 * n + 15)) := W
        clear W
        rw [W2.out]
        have q : (19 + (8 * n + 15) - 1) / 4 = (19 + (8 * n + 15) - 1).tdiv 4 := (Int.tdiv_eq_ediv_of_nonneg (by omega)).symm
        have q1 : 0 ≤ (19 + (8 * n + 15) - 1) / 4 ∧ (19 + (8 * n + 15) - 1) / 4 ≤ 1000 := by omega
        obtain ⟨q1, q2⟩ := q1
        clear q
        go_enter Tryd.func20, Tryd.ntmps20
        go_wp2
        go_ret2
        exact ⟨rfl, Below.refl _ _⟩
      · have W2 : Hid (wsN true n = 39 + (8 * n + 15)) := W
        clear W
        rw [W2.out]
        have q1 : 0 ≤ (39 + (8 * n + 15) - 1) / 4 ∧ (39 + (8 * n + 15) - 1) / 4 ≤ 1000 := by omega
        obtain ⟨q1, q2⟩ := q1
        go_enter Tryd.func20, Tryd.ntmps20
        go_wp2
        go_ret2
        exact ⟨rfl, Below.refl _ _⟩
    · have hn : ¬ (0 ≤ n ∧ n ≤ 8) := fun h => h8 h.2
      rw [V.out, E.out, if_neg hn, if_neg hn]
      clear V E hn
      go_enter Tryd.func20, Tryd.ntmps20
      go_wp2
      go_ret2
      exact ⟨rfl, Below.refl _ _⟩
  · have hn : ¬ (0 ≤ n ∧ n ≤ 8) := fun h => h0 h.1
    rw [V.out, E.out, if_neg hn, if_neg hn]
    clear V E hn
    go_enter Tryd.func20, Tryd.ntmps20
    go_wp2
    go_ret2
    exact ⟨rfl, Below.refl _ _⟩

set_option maxRecDepth 100000 in
set_option maxHeartbeats 1000000 in
theorem loadBits_any (f : Fr) (w : World) (hid : f.id < 4294967296) :
    Calls Tryd.prog 18 #[.agg #[.int .u32 f.id, .bool f.ext, .bool f.rem, .int .i64 f.dlc, .string f.data]] w fun e w' => e = .returned (.tuple #[.int .i64 (lbV f), .int .i64 (headE f)]) ∧ Below w.heap.size w w' := by
  have BT := hide (fun W => frBits_any f W hid)
  have q0 : Below w.heap.size w (w.alloc (.cells #[.int .u32 f.id, .bool f.ext, .bool f.rem, .int .i64 f.dlc, .string f.data] 24)) := (Below.refl _ _).alloc (Nat.le_refl _) _
  cases hr : FP.rightB f with
  | false =>
    have V : lbV f = 0 := by unfold lbV; rw [hr]; rfl
    have E : headE f = 1 := by unfold headE; rw [hr]; rfl
    rw [V, E]
    rw [E] at BT
    generalize bitsV f = bv at *
    clear V E hr
    obtain ⟨id, ext, rem, dlc, data⟩ := f
    dsimp only at *
    go_enter Tryd.func18, Tryd.ntmps18
    go_wp2_with fail
    refine (BT.out _).mono ?_
    rintro e1 w1 ⟨rfl, q1⟩
    go_wp2
    go_ret2
    exact ⟨rfl, below_next q0 q0.size q1⟩
  | true =>
    have V : lbV f = (bitsV f).size + 3 := by unfold lbV bitsV; rw [hr]; simp [ByteArray.size]
    have E : headE f = 0 := by unfold headE; rw [hr]; rfl
    have hL := FP.head_le hr
    have hB := FP.bits_len hr
    have hs : (bitsV f).size ≤ 1000 := by unfold bitsV; rw [hr, if_pos rfl, size_of]; omega
    rw [V, E]
    rw [E] at BT
    generalize bitsV f = bv at *
    clear V E hr hL hB
    obtain ⟨id, ext, rem, dlc, data⟩ := f
    dsimp only at *
    go_enter Tryd.func18, Tryd.ntmps18
    go_wp2_with fail
    refine (BT.out _).mono ?_
    rintro e1 w1 ⟨rfl, q1⟩
    go_wp2
    go_ret2
    exact ⟨rfl, below_next q0 q0.size q1⟩

theorem worst_law {f : Fr} (hr : FP.rightB f = true) : ((bitsF f).length : Int) + 3 ≤ wsV f.ext f.data.size ∧ 47 ≤ ((bitsF f).length : Int) + 3 ∧ wsV f.ext f.data.size ≤ wsV true f.data.size ∧ ((f.data.size : Int) ≠ 8 → wsE (f.data.size + 1) = 0 ∧ wsV f.ext f.data.size < wsV f.ext (f.data.size + 1)) ∧ wsE f.data.size = 0 := by
  have hB := FP.bits_len hr
  have hL := FP.head_length f
  have hS := FP.right_size hr
  obtain ⟨h8, _⟩ := hS
  generalize f.data.size = n at *
  have e : wsV f.ext n = wsN f.ext n + (wsN f.ext n - 1) / 4 + 10 + 3 := by unfold wsV; rw [if_pos (by omega)]
  have e2 : wsV true n = wsN true n + (wsN true n - 1) / 4 + 10 + 3 := by unfold wsV; rw [if_pos (by omega)]
  have e3 : wsE n = 0 := by unfold wsE; rw [if_pos (by omega)]
  rw [e, e2, e3]
  have h4 : (n : Int) ≠ 8 → wsE ((n : Int) + 1) = 0 ∧ wsV f.ext (n + 1) = wsN f.ext (n + 1) + (wsN f.ext (n + 1) - 1) / 4 + 10 + 3 := fun h => by
    constructor
    · unfold wsE; rw [if_pos (by omega)]
    · unfold wsV; rw [if_pos (by omega)]
  unfold wsN at *
  cases hx : f.ext <;> rw [hx] at hL h4 <;> simp only [Bool.false_eq_true, if_false, if_true] at *
  · refine ⟨by omega, by omega, by omega, fun h => ?_, trivial⟩
    obtain ⟨a, b⟩ := h4 h
    rw [b]; exact ⟨a, by omega⟩
  · refine ⟨by omega, by omega, by omega, fun h => ?_, trivial⟩
    obtain ⟨a, b⟩ := h4 h
    rw [b]; exact ⟨a, by omega⟩
end Go.Proofs.YtmfgifinmeonjaaDoor
