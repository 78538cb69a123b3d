/- What ctl.in asks, and what may be. -/
import Derived.Test.YtkfedgjepiljiaaGreatDoorCsZB
namespace Go.Proofs.YtkfedgjepiljiaaGreatDoor
open Go.ChangeShapes Go.WideShapes Go.ChangeAt Go.RowKit
open FP (Fr uN uK doneB sizeE sizeV goodB bitsF bodyF RS rsOf)

def rsB (r : RS) (L : UInt8) (N : Nat) (g : List UInt8) : Bool := decide (r.last = L) && (decide (r.n = N) && decide (r.got = g))
theorem rsB_iff {r : RS} {L : UInt8} {N : Nat} {g : List UInt8} : rsB r L N g = true ↔ r = ⟨L, N, g⟩ := by
  obtain ⟨a, b, c⟩ := r
  simp [rsB]
/-- The third part: what is sent. -/
def inS (c : Cl) : Bool := if c.sends = true then c.has && (decide (FP.rightB c.f = true) && (decide (c.out = ⟨(bitsF c.f).toArray⟩) && ((if c.en = true then decide (c.at_ = ((bodyF c.f).length : Int) + c.tail) else decide (1 ≤ c.at_) && decide (c.at_ < ((bodyF c.f).length : Int))) && rsB (rsOf ((bodyF c.f).take c.at_.toNat)) c.L c.N c.g))) else decide (c.out = ⟨#[]⟩) && decide (c.at_ = 0)
theorem inA_iff {c : Cl} (h : inA c = true) : 1 ≤ c.got.size ∧ c.got.size ≤ 200 ∧ bitRow c.g = true ∧ c.g[0]? = some 48 ∧ sizeE c.g ≠ 12 ∧ stB c.L c.sn = true ∧ 1 ≤ c.sn := by
  unfold inA at h
  simp only [Bool.and_eq_true, decide_eq_true_eq, Bool.not_eq_true', decide_eq_false_iff_not] at h
  exact ⟨h.1, h.2.1, h.2.2.1, h.2.2.2.1, h.2.2.2.2.1, h.2.2.2.2.2.1, h.2.2.2.2.2.2⟩
theorem inE_iff {c : Cl} (h : inE c = true) : (sizC c.g = 0 ∨ c.got.size ≤ sizC c.g) ∧ c.en = (decide (c.got.size = sizC c.g) && decide (c.sn < 5)) ∧ c.good = (c.en && goodB c.g) ∧ 0 ≤ c.tail ∧ c.tail ≤ 9 ∧ (c.en = true ∨ c.tail = 0) := by
  unfold inE at h
  simp only [Bool.and_eq_true, Bool.or_eq_true, decide_eq_true_eq, beq_iff_eq] at h
  exact ⟨h.1, h.2.1, h.2.2.1, h.2.2.2.1, h.2.2.2.2.1, h.2.2.2.2.2⟩
theorem in_of {c : Cl} (hL : c.last = (c.L.toNat : Int)) (hA : inA c = true) (hE : inE c = true) (hS : inS c = true) : c.In := by
  have hsz : c.g.length = c.got.size := Array.length_toList
  obtain ⟨a1, a2, a3, a4, a5, a6, a7⟩ := inA_iff hA
  obtain ⟨e1, e2, e3, e4, e5, e6⟩ := inE_iff hE
  have hN : c.sn = (c.N : Int) := by unfold Cl.N; omega
  refine ⟨hL, hN, ?_, by omega, (bitRow_iff.1 a3).2, a4, a5, fun h => ?_, ?_, e3, e4, e5, fun h => e6.elim (fun q => absurd (h.symm.trans q) (by decide)) id, fun h => ?_, fun h => ?_⟩
  · rcases stB_iff.1 a6 with ⟨q, _⟩ | ⟨q1, q2, q3⟩
    · omega
    · exact .inr ⟨q1, by omega, by omega⟩
  · have : sizC c.g = sizeV c.g + 15 := by unfold sizC; rw [if_pos h]
    omega
  · rw [e2]
    unfold doneB
    by_cases q : sizeE c.g = 0
    · have : sizC c.g = sizeV c.g + 15 := by unfold sizC; rw [if_pos q]
      rw [this, decide_eq_true q, Bool.true_and, hsz]
      congr 1
      rw [hN]
      exact decide_eq_decide.2 (by omega)
    · have : sizC c.g = 0 := by unfold sizC; rw [if_neg q]
      rw [this, decide_eq_false q, decide_eq_false (by omega : ¬ c.got.size = 0)]
      simp
  · unfold inS at hS
    rw [if_neg (by rw [h]; decide)] at hS
    simpa using hS
  · unfold inS at hS
    rw [if_pos h] at hS
    simp only [Bool.and_eq_true, decide_eq_true_eq] at hS
    obtain ⟨s1, s2, s3, s4, s5⟩ := hS
    replace s5 := rsB_iff.1 s5
    refine ⟨s1, s3, fun q => ?_, fun q => ?_, s5⟩
    · rw [if_pos q] at s4; simpa using s4
    · rw [if_neg (by rw [q]; decide)] at s4; simpa using s4
end Go.Proofs.YtkfedgjepiljiaaGreatDoor
