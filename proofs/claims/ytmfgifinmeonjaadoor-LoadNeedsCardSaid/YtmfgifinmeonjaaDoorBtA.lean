/- The walks of package bits' Right and Number. -/
import Derived.Test.YtmfgifinmeonjaaDoorTl
import Derived.Test.YtmfgifinmeonjaaDoorFrD
namespace Go.Proofs.YtmfgifinmeonjaaDoor
open Go.ChangeShapes Go.WideShapes Go.ChangeAt Go.RowKit
open FP (numOf)

/-- A row of bits. -/
def bitRow (l : List UInt8) : Bool := decide (l.length ≤ 4000) && l.all (fun c => c == 48 || c == 49)
theorem bitRow_iff {l : List UInt8} : bitRow l = true ↔ l.length ≤ 4000 ∧ ∀ c ∈ l, c = 48 ∨ c = 49 := by
  unfold bitRow
  simp
theorem dropWhile_nil {α : Type} (p : α → Bool) : ∀ l : List α, l.dropWhile p = [] ↔ ∀ c ∈ l, p c = true
  | [] => by simp
  | a :: l => by
    have ih := dropWhile_nil p l
    rw [List.dropWhile_cons]
    by_cases h : p a = true
    · rw [if_pos h, ih]; simp [h]
    · rw [if_neg h]; simp [h]
theorem trim_all {l : List UInt8} (h : l.all (fun c => c == 48 || c == 49) = true) : Lib.trimLeftS l [48, 49] = [] := by
  unfold Lib.trimLeftS
  rw [dropWhile_nil]
  intro c hc
  have := List.all_eq_true.1 h c hc
  simpa using this
theorem trim_not {l : List UInt8} (h : l.all (fun c => c == 48 || c == 49) = false) : Lib.trimLeftS l [48, 49] ≠ [] := by
  unfold Lib.trimLeftS
  intro h2
  rw [dropWhile_nil] at h2
  have : l.all (fun c => c == 48 || c == 49) = true := List.all_eq_true.2 fun c hc => by
    have := h2 c hc
    simpa using this
  rw [h] at this
  exact absurd this (by decide)

theorem trim_any (s : ByteArray) (w : World) :
    Calls Tryd.prog 67 #[.string s, .string ⟨#[48, 49]⟩] w fun e w' => e = .returned (.string ⟨(Lib.trimLeftS s.data.toList [48, 49]).toArray⟩) ∧ Below w.heap.size w w' :=
  Any.strings_TrimLeft_laid Tryd.lays161 (by kernel_rfl) s ⟨#[48, 49]⟩ w (by decide) (ascii_of_all (by decide))

set_option maxRecDepth 100000 in
set_option maxHeartbeats 1000000 in
theorem bitsRight_any (s : ByteArray) (w : World) (hs : s.size ≤ maxLen) :
    Calls Tryd.prog 47 #[.string s] w fun e w' => e = .returned (.bool (bitRow s.data.toList)) ∧ Below w.heap.size w w' := by
  unfold maxLen at hs
  have LS := hide (show s.data.toList.length = s.size from Array.length_toList)
  by_cases h4 : s.size ≤ 4000
  · have T := hide (fun W => trim_any s W)
    have h4' : (s.size : Int) ≤ 4000 := by omega
    rcases ha : s.data.toList.all (fun c => c == 48 || c == 49) with _ | _
    · have E := hide (trim_not ha)
      have B : bitRow s.data.toList = false := by unfold bitRow; rw [ha]; simp
      rw [B]
      clear B ha
      generalize hl : Lib.trimLeftS s.data.toList [48, 49] = l at *
      have e1 : (⟨l.toArray⟩ : ByteArray).toList.isEmpty = false := by
        rw [Lib.toList_data]
        cases l with
        | nil => exact absurd rfl E.out
        | cons a l => rfl
      have e3 : (!(⟨l.toArray⟩ : ByteArray).toList.isEmpty) = true := by rw [e1]; rfl
      have e4 : ¬ (⟨l.toArray⟩ : ByteArray).toList = [] := fun h => by rw [h] at e1; exact absurd e1 (by decide)
      clear hl E
      generalize (⟨l.toArray⟩ : ByteArray) = r at *
      go_enter Tryd.func47, Tryd.ntmps47
      go_wp2_with (go_at_call 67; refine (T.out _).mono ?_; rintro e1 w1 ⟨rfl, q1⟩)
      go_ret
      exact ⟨rfl, q1⟩
    · have E := trim_all ha
      have B : bitRow s.data.toList = true := by unfold bitRow; rw [ha, LS.out]; simp [h4]
      rw [B]
      rw [E] at T
      clear B ha E
      go_enter Tryd.func47, Tryd.ntmps47
      go_wp2_with (go_at_call 67; refine (T.out _).mono ?_; rintro e1 w1 ⟨rfl, q1⟩)
      go_ret
      exact ⟨rfl, q1⟩
  · have B : bitRow s.data.toList = false := by unfold bitRow; rw [LS.out]; simp [h4]
    rw [B]
    have h4' : ¬ (s.size : Int) ≤ 4000 := by omega
    go_enter Tryd.func47, Tryd.ntmps47
    go_wp2_with fail
    go_ret
    exact ⟨rfl, Below.refl _ _⟩
end Go.Proofs.YtmfgifinmeonjaaDoor
