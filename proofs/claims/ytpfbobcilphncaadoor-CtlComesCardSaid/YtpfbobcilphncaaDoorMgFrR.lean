/- The reference's Right of a frame. -/
import Derived.Test.YtpfbobcilphncaaDoorMgFrPlain
import Derived.Test.YtpfbobcilphncaaDoorFrB
import Derived.Test.YtpfbobcilphncaaDoorMgIfP
namespace Go.Proofs.YtpfbobcilphncaaDoor
open Go.ChangeShapes Go.WideShapes Go.ChangeAt Go.RowKit
open FP (Fr)

theorem empty_iff (s : ByteArray) : s.toList = [] ↔ s.size = 0 := by
  rw [ByteArray.toList_eq]
  have : s.data.toList.length = s.size := Array.length_toList
  rw [← this, List.length_eq_zero_iff]

set_option maxRecDepth 100000 in
set_option maxHeartbeats 1000000 in
theorem refRight04_any (f : Fr) (w : World) (hid : f.id < 4294967296) :
    Calls Tryd.prog 8 #[.agg #[.int .u32 f.id, .bool f.ext, .bool f.rem, .int .i64 f.dlc, .string f.data]] w fun e w' => e = .returned (.bool (FP.rightB f)) ∧ Below w.heap.size w w' := by
  obtain ⟨id, ext, rem, dlc, data⟩ := f
  dsimp only at *
  cases ext <;> cases rem
  all_goals
    go_enter Tryd.func8, Tryd.ntmps8
    go_wp2
    all_goals
      go_ret
      refine ⟨?_, (Below.refl _ _).alloc (Nat.le_refl _) _⟩
      refine ret_bool ?_
      have hsz := empty_iff data
      unfold FP.rightB
      generalize data.size = m at *
      rw [Bool.eq_iff_iff]
      simp at *
      try (first | omega | (simp_all; done) | (simp_all; omega))

end Go.Proofs.YtpfbobcilphncaaDoor

/- The walks of frame.Head, and of the reference's Of, Number, Right; few and alive of the statements' package. -/
namespace Go.Proofs.YtpfbobcilphncaaDoor
open Go.ChangeShapes Go.WideShapes Go.ChangeAt Go.RowKit
open FP (bit bitsOf numOf Fr bitB idPart dataPart headF)

theorem str_empty : (⟨([] : List UInt8).toArray⟩ : ByteArray) = ⟨#[]⟩ := rfl

def headV (f : Fr) : ByteArray := if FP.rightB f = true then ⟨(headF f).toArray⟩ else ⟨#[]⟩
def headE (f : Fr) : Int := if FP.rightB f = true then 0 else 1

theorem bitsOf_succ (n j : Nat) : bitsOf n (j + 1) = bit (n / 2 ^ j) :: bitsOf n j := rfl
theorem div_pow (n j : Nat) : n / 2 ^ (j + 1) = n / 2 ^ j / 2 := by rw [Nat.pow_succ, Nat.div_div_eq_div_mul]

set_option maxRecDepth 100000 in
set_option maxHeartbeats 1000000 in
theorem refOf_any (N K : Int) (n k : Nat) (hN : N = n) (hK : K = k) (hn : n < 4294967296) (hk : k ≤ 64) (w : World) :
    Calls Tryd.prog 33 #[.int .u64 N, .int .i64 K] w fun e w' => e = .returned (.string ⟨(bitsOf n k).toArray⟩) ∧ w = w' := by
  subst hN
  subst hK
  go_enter Tryd.func33, Tryd.ntmps33
  go_wp2
  go_loop [0, 5, 6] (fun m s i => ∃ (j v : Nat) (l : List UInt8), j ≤ k ∧ i = .int .i64 j ∧ m = .int .u64 v ∧ s = .string ⟨l.toArray⟩ ∧ Hid (v = n / 2 ^ j ∧ l = bitsOf n j)) (fun _ _ i => k - (intOf i).toNat)
  case atStart => exact ⟨0, n, [], Nat.zero_le _, rfl, rfl, rfl, by simp [Hid, bitsOf]⟩
  case round =>
    obtain ⟨j, v, l, hj, rfl, rfl, rfl, H⟩ := hrel
    have hv : v < 4294967296 := by have := H.out.1; have := Nat.div_le_self n (2 ^ j); omega
    have hl : l.length ≤ 64 := by rw [H.out.2, FP.bitsOf_length]; omega
    by_cases hlt : j < k
    · have H2 := hide (div_pow n j)
      have H3 := hide (bitsOf_succ n j)
      rcases Nat.mod_two_eq_zero_or_one v with hp | hp
      · have hb : ((v : Int) % 2 == 1) = false := by rw [beq_eq_false_iff_ne]; omega
        have HP := hide hp
        clear hp
        go_wp2
        go_round
        case rel => exact ⟨j + 1, v / 2, 48 :: l, by omega, by go_num, by simp, by simp [ByteArray.ext_iff], by rw [H2.out, H3.out, ← H.out.1, ← H.out.2]; exact ⟨rfl, by simp [bit, HP.out]⟩⟩
        case measure => simp [intOf]; omega
      · have hb : ((v : Int) % 2 == 1) = true := by rw [beq_iff_eq]; omega
        have HP := hide hp
        clear hp
        go_wp2
        go_round
        case rel => exact ⟨j + 1, v / 2, 49 :: l, by omega, by go_num, by simp, by simp [ByteArray.ext_iff], by rw [H2.out, H3.out, ← H.out.1, ← H.out.2]; exact ⟨rfl, by simp [bit, HP.out]⟩⟩
        case measure => simp [intOf]; omega
    · have hE := hide (show l = bitsOf n k by rw [H.out.2]; congr 1; omega)
      go_wp2
      go_ret
      exact ⟨by rw [← hE.out]; rfl, rfl⟩

end Go.Proofs.YtpfbobcilphncaaDoor

/- few and alive of the frame statements. -/
namespace Go.Proofs.YtpfbobcilphncaaDoor
open Go.ChangeShapes Go.WideShapes Go.ChangeAt Go.RowKit
open FP (bit bitsOf Fr bitB idPart dataPart headF)

def cutF (f : Fr) : Fr := { f with data := f.data.extract 0 (min f.data.size 12) }

end Go.Proofs.YtpfbobcilphncaaDoor

/- The walks of package bits' Right and Number. -/
namespace Go.Proofs.YtpfbobcilphncaaDoor
open Go.ChangeShapes Go.WideShapes Go.ChangeAt Go.RowKit
open FP (numOf)

/-- A row of bits. -/
def bitRow (l : List UInt8) : Bool := decide (l.length ≤ 4000) && l.all (fun c => c == 48 || c == 49)
theorem bitRow_iff {l : List UInt8} : bitRow l = true ↔ l.length ≤ 4000 ∧ ∀ c ∈ l, c = 48 ∨ c = 49 := by
  unfold bitRow
  simp
theorem dropWhile_nil {α : Type} (p : α → Bool) : ∀ l : List α, l.dropWhile p = [] ↔ ∀ c ∈ l, p c = true
  | [] => by simp
  | a :: l => by
    have ih := dropWhile_nil p l
    rw [List.dropWhile_cons]
    by_cases h : p a = true
    · rw [if_pos h, ih]; simp [h]
    · rw [if_neg h]; simp [h]
theorem trim_all {l : List UInt8} (h : l.all (fun c => c == 48 || c == 49) = true) : Lib.trimLeftS l [48, 49] = [] := by
  unfold Lib.trimLeftS
  rw [dropWhile_nil]
  intro c hc
  have := List.all_eq_true.1 h c hc
  simpa using this
theorem trim_not {l : List UInt8} (h : l.all (fun c => c == 48 || c == 49) = false) : Lib.trimLeftS l [48, 49] ≠ [] := by
  unfold Lib.trimLeftS
  intro h2
  rw [dropWhile_nil] at h2
  have : l.all (fun c => c == 48 || c == 49) = true := List.all_eq_true.2 fun c hc => by
    have := h2 c hc
    simpa using this
  rw [h] at this
  exact absurd this (by decide)

theorem trim_any (s : ByteArray) (w : World) :
    Calls Tryd.prog 57 #[.string s, .string ⟨#[48, 49]⟩] w fun e w' => e = .returned (.string ⟨(Lib.trimLeftS s.data.toList [48, 49]).toArray⟩) ∧ Below w.heap.size w w' :=
  Any.strings_TrimLeft_laid Tryd.lays161 (by kernel_rfl) s ⟨#[48, 49]⟩ w (by decide) (ascii_of_all (by decide))

set_option maxRecDepth 100000 in
set_option maxHeartbeats 1000000 in
theorem bitsRight_any (s : ByteArray) (w : World) (hs : s.size ≤ maxLen) :
    Calls Tryd.prog 45 #[.string s] w fun e w' => e = .returned (.bool (bitRow s.data.toList)) ∧ Below w.heap.size w w' := by
  unfold maxLen at hs
  have LS := hide (show s.data.toList.length = s.size from Array.length_toList)
  by_cases h4 : s.size ≤ 4000
  · have T := hide (fun W => trim_any s W)
    have h4' : (s.size : Int) ≤ 4000 := by omega
    rcases ha : s.data.toList.all (fun c => c == 48 || c == 49) with _ | _
    · have E := hide (trim_not ha)
      have B : bitRow s.data.toList = false := by unfold bitRow; rw [ha]; simp
      rw [B]
      clear B ha
      generalize hl : Lib.trimLeftS s.data.toList [48, 49] = l at *
      have e1 : (⟨l.toArray⟩ : ByteArray).toList.isEmpty = false := by
        rw [Lib.toList_data]
        cases l with
        | nil => exact absurd rfl E.out
        | cons a l => rfl
      have e3 : (!(⟨l.toArray⟩ : ByteArray).toList.isEmpty) = true := by rw [e1]; rfl
      have e4 : ¬ (⟨l.toArray⟩ : ByteArray).toList = [] := fun h => by rw [h] at e1; exact absurd e1 (by decide)
      clear hl E
      generalize (⟨l.toArray⟩ : ByteArray) = r at *
      go_enter Tryd.func45, Tryd.ntmps45
      go_wp2_with (go_at_call 57; refine (T.out _).mono ?_; rintro e1 w1 ⟨rfl, q1⟩)
      go_ret
      exact ⟨rfl, q1⟩
    · have E := trim_all ha
      have B : bitRow s.data.toList = true := by unfold bitRow; rw [ha, LS.out]; simp [h4]
      rw [B]
      rw [E] at T
      clear B ha E
      go_enter Tryd.func45, Tryd.ntmps45
      go_wp2_with (go_at_call 57; refine (T.out _).mono ?_; rintro e1 w1 ⟨rfl, q1⟩)
      go_ret
      exact ⟨rfl, q1⟩
  · have B : bitRow s.data.toList = false := by unfold bitRow; rw [LS.out]; simp [h4]
    rw [B]
    have h4' : ¬ (s.size : Int) ≤ 4000 := by omega
    go_enter Tryd.func45, Tryd.ntmps45
    go_wp2_with fail
    go_ret
    exact ⟨rfl, Below.refl _ _⟩
end Go.Proofs.YtpfbobcilphncaaDoor
