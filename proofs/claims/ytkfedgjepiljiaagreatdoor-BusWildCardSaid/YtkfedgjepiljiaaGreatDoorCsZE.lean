/- ctl.in of any controller. -/
import Derived.Test.YtkfedgjepiljiaaGreatDoorCsZD
namespace Go.Proofs.YtkfedgjepiljiaaGreatDoor
open Go.ChangeShapes Go.WideShapes Go.ChangeAt Go.RowKit
open FP (Fr)

def inB (c : Cl) : Bool := inA c && (inE c && inS c)
theorem ctlIn_any (c : Cl) (w : World) (hL : c.last = (c.L.toNat : Int)) (hs : c.got.size ≤ 300) (hid : c.f.id < 4294967296) (hr : c.has = true → FP.rightB c.f = true) : Calls Tryz.prog 14 #[.agg c.cs.toArray] w fun e w' => e = .returned (.bool (inB c)) ∧ Below w.heap.size w w' := by
  unfold inB
  cases hA : inA c
  · exact ctlIn_noA c w hL hs hA
  · cases hE : inE c
    · exact ctlIn_noE c w hL hs hA hE
    · cases hS : inS c
      · exact ctlIn_noS c w hL hs hid hA hE hS
      · exact ctlIn_ok c w (in_of hL hA hE hS) hr
theorem inB_in {c : Cl} (hL : c.last = (c.L.toNat : Int)) (h : inB c = true) : c.In := by
  unfold inB at h
  simp only [Bool.and_eq_true] at h
  exact in_of hL h.1 h.2.1 h.2.2
theorem outB_out {c : Cl} (h : outB c = true) : c.Out := by
  unfold outB at h
  simp only [Bool.and_eq_true, Bool.not_eq_true', beq_iff_eq] at h
  obtain ⟨h1, h2, h3, ⟨h4, h5⟩, h6, h7, h8, h9⟩ := h
  rw [Lib.toList_data] at h2 h6
  have e1 : c.out = ⟨#[]⟩ := by rw [ByteArray.ext_iff, ← Array.toList_inj]; exact h2
  have e2 : c.got = ⟨#[]⟩ := by rw [ByteArray.ext_iff, ← Array.toList_inj]; exact h6
  exact ⟨h1, e1, h3, h4, h5, e2, h7, h8, h9⟩
end Go.Proofs.YtkfedgjepiljiaaGreatDoor
