/- The walk of pdu.mark. -/
import Derived.Test.YtplpnnjjjfcibaaPdC
namespace Go.Proofs.Ytplpnnjjjfcibaa
open Go.ChangeShapes Go.WideShapes Go.ChangeAt Go.RowKit
open SG PD

/-- A single bit as a signal. -/
def oneS (p : Nat) : Sg := ⟨p, 1, false, false⟩
theorem oneS_pl {p : Nat} (h : p < 64) : plL (oneS p) = [p] := by
  have hr : rawL (oneS p) = [p] := by
    unfold rawL oneS
    simp [seqL, List.range_succ, atN]
  unfold plL
  rw [hr, if_pos]
  refine ⟨?_, by simpa using h⟩
  rw [may_iff]
  unfold oneS
  refine ⟨?_, ?_, ?_, ?_, ?_⟩ <;> simp <;> omega
theorem oneS_well {p n : Nat} (h : p < 8 * n) (hn : n ≤ 8) : wellF n (oneS p) = 0 := by
  have hp : plL (oneS p) = [p] := oneS_pl (by omega)
  have hr : rightS (oneS p) n = true := by
    rw [rightS_iff, hp]
    refine ⟨by simp, by omega, by omega, ?_⟩
    intro q hq
    rw [List.mem_singleton] at hq
    omega
  unfold wellF
  rw [if_neg (by rw [hp]; simp), if_neg]
  rintro (h1 | h1)
  · omega
  · rw [hr] at h1; cases h1
theorem oneS_put (l : List UInt8) {p : Nat} (h : p < 64) (v : Int) : putF l (plL (oneS p)) v = setB l p (vbit v 0) := by
  rw [oneS_pl h]
  rfl

set_option maxRecDepth 100000 in
theorem mark_any (d : ByteArray) (p : Nat) (b : Bool) (w : World) (hp : p < 8 * d.size) (hd : d.size ≤ 8) :
    Calls Try.prog 39 #[.string d, .int .i64 p, .bool b] w fun e w' => e = .returned (.string ⟨(setB d.data.toList p b).toArray⟩) ∧ Below w.heap.size w w' := by
  cases b with
  | true =>
    have PT := hide (fun W => put_ok d (oneS p) 1 W (by omega) (by omega) (by omega) (oneS_well hp hd) (by unfold fitsB oneS; simp))
    rw [oneS_put _ (by omega)] at PT
    have e1 : vbit 1 0 = true := by decide
    rw [e1] at PT
    unfold oneS at PT
    go_enter Try.func39, Try.ntmps39
    go_wp2_with fail
    (with_reducible refine (PT.out _).mono ?_)
    rintro e1 w1 ⟨rfl, q1⟩
    go_wp2_with fail
    go_ret
    exact ⟨rfl, q1⟩
  | false =>
    have PT := hide (fun W => put_ok d (oneS p) 0 W (by omega) (by omega) (by omega) (oneS_well hp hd) (by unfold fitsB oneS; simp))
    rw [oneS_put _ (by omega)] at PT
    have e1 : vbit 0 0 = false := by decide
    rw [e1] at PT
    unfold oneS at PT
    go_enter Try.func39, Try.ntmps39
    go_wp2_with fail
    (with_reducible refine (PT.out _).mono ?_)
    rintro e1 w1 ⟨rfl, q1⟩
    go_wp2_with fail
    go_ret
    exact ⟨rfl, q1⟩
end Go.Proofs.Ytplpnnjjjfcibaa
