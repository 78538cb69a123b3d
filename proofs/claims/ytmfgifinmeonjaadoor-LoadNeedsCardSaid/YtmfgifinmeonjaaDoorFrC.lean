/- The walks of frame.Head, and of the reference's Of, Number, Right; few and alive of the statements' package. -/
import Derived.Test.YtmfgifinmeonjaaDoorFrB
namespace Go.Proofs.YtmfgifinmeonjaaDoor
open Go.ChangeShapes Go.WideShapes Go.ChangeAt Go.RowKit
open FP (bit bitsOf numOf Fr bitB idPart dataPart headF)

theorem empty_iff (s : ByteArray) : s.toList = [] ↔ s.size = 0 := by
  rw [Lib.toList_data]
  have : s.data.toList.length = s.size := Array.length_toList
  rw [← this, List.length_eq_zero_iff]
theorem str_empty : (⟨([] : List UInt8).toArray⟩ : ByteArray) = ⟨#[]⟩ := rfl

def headV (f : Fr) : ByteArray := if FP.rightB f = true then ⟨(headF f).toArray⟩ else ⟨#[]⟩
def headE (f : Fr) : Int := if FP.rightB f = true then 0 else 1

set_option maxRecDepth 100000 in
set_option maxHeartbeats 1000000 in
theorem Head_any (f : Fr) (w : World) (hid : f.id < 4294967296) :
    Calls Tryd.prog 11 #[.agg #[.int .u32 f.id, .bool f.ext, .bool f.rem, .int .i64 f.dlc, .string f.data]] w fun e w' => e = .returned (.tuple #[.string (headV f), .int .i64 (headE f)]) ∧ Below w.heap.size w w' := by
  have R := hide (fun W => frRight_any f W hid)
  have q0 : Below w.heap.size w (w.alloc (.cells #[.int .u32 f.id, .bool f.ext, .bool f.rem, .int .i64 f.dlc, .string f.data] 24)) := (Below.refl _ _).alloc (Nat.le_refl _) _
  rcases hb : FP.rightB f with _ | _
  · have V : headV f = ⟨#[]⟩ := by unfold headV; rw [hb]; rfl
    have E : headE f = 1 := by unfold headE; rw [hb]; rfl
    rw [V, E]
    rw [hb] at R
    clear V E hb
    obtain ⟨id, ext, rem, dlc, data⟩ := f
    dsimp only at *
    go_enter Tryd.func11, Tryd.ntmps11
    go_wp2_with fail
    refine (R.out _).mono ?_
    rintro e1 w1 ⟨rfl, q1⟩
    go_wp2
    go_ret2
    exact ⟨rfl, below_next q0 q0.size q1⟩
  · have V : headV f = ⟨(headF f).toArray⟩ := by unfold headV; rw [hb]; rfl
    have E : headE f = 0 := by unfold headE; rw [hb]; rfl
    rw [V, E]
    have H := hide (fun W => head_any f W hb)
    rw [hb] at R
    clear V E hb
    obtain ⟨id, ext, rem, dlc, data⟩ := f
    dsimp only at *
    generalize (⟨(headF ⟨id, ext, rem, dlc, data⟩).toArray⟩ : ByteArray) = HS at *
    go_enter Tryd.func11, Tryd.ntmps11
    go_wp2_with fail
    refine (R.out _).mono ?_
    rintro e1 w1 ⟨rfl, q1⟩
    have q1' := below_next q0 q0.size q1
    have c0 : w1.cell? ⟨w.heap.size, 0, none⟩ = some (.int .u32 id) := cellBelow q1 (by simp) (by simp [go_sem])
    have c1 : w1.cell? ⟨w.heap.size, 1, none⟩ = some (.bool ext) := cellBelow q1 (by simp) (by simp [go_sem])
    have c2 : w1.cell? ⟨w.heap.size, 2, none⟩ = some (.bool rem) := cellBelow q1 (by simp) (by simp [go_sem])
    have c3 : w1.cell? ⟨w.heap.size, 3, none⟩ = some (.int .i64 dlc) := cellBelow q1 (by simp) (by simp [go_sem])
    have c4 : w1.cell? ⟨w.heap.size, 4, none⟩ = some (.string data) := cellBelow q1 (by simp) (by simp [go_sem])
    go_wp2_with fail
    refine (H.out _).mono ?_
    rintro e2 w2 ⟨rfl, q2⟩
    go_wp2
    go_ret2
    exact ⟨rfl, below_next q1' q1'.size q2⟩

set_option maxRecDepth 100000 in
set_option maxHeartbeats 1000000 in
theorem refRight04_any (f : Fr) (w : World) (hid : f.id < 4294967296) :
    Calls Tryd.prog 13 #[.agg #[.int .u32 f.id, .bool f.ext, .bool f.rem, .int .i64 f.dlc, .string f.data]] w fun e w' => e = .returned (.bool (FP.rightB f)) ∧ Below w.heap.size w w' := by
  obtain ⟨id, ext, rem, dlc, data⟩ := f
  dsimp only at *
  cases ext <;> cases rem
  all_goals
    go_enter Tryd.func13, Tryd.ntmps13
    go_wp2
    all_goals
      go_ret
      refine ⟨?_, (Below.refl _ _).alloc (Nat.le_refl _) _⟩
      refine ret_bool ?_
      have hsz := empty_iff data
      unfold FP.rightB
      generalize data.size = m at *
      rw [Bool.eq_iff_iff]
      simp at *
      try (first | omega | (simp_all; done) | (simp_all; omega))

theorem bitsOf_succ (n j : Nat) : bitsOf n (j + 1) = bit (n / 2 ^ j) :: bitsOf n j := rfl
theorem div_pow (n j : Nat) : n / 2 ^ (j + 1) = n / 2 ^ j / 2 := by rw [Nat.pow_succ, Nat.div_div_eq_div_mul]

set_option maxRecDepth 100000 in
set_option maxHeartbeats 1000000 in
theorem refOf_any (N K : Int) (n k : Nat) (hN : N = n) (hK : K = k) (hn : n < 4294967296) (hk : k ≤ 64) (w : World) :
    Calls Tryd.prog 39 #[.int .u64 N, .int .i64 K] w fun e w' => e = .returned (.string ⟨(bitsOf n k).toArray⟩) ∧ w = w' := by
  subst hN
  subst hK
  go_enter Tryd.func39, Tryd.ntmps39
  go_wp2
  go_loop [0, 5, 6] (fun m s i => ∃ (j v : Nat) (l : List UInt8), j ≤ k ∧ i = .int .i64 j ∧ m = .int .u64 v ∧ s = .string ⟨l.toArray⟩ ∧ Hid (v = n / 2 ^ j ∧ l = bitsOf n j)) (fun _ _ i => k - (intOf i).toNat)
  case atStart => exact ⟨0, n, [], Nat.zero_le _, rfl, rfl, rfl, by simp [Hid, bitsOf]⟩
  case round =>
    obtain ⟨j, v, l, hj, rfl, rfl, rfl, H⟩ := hrel
    have hv : v < 4294967296 := by have := H.out.1; have := Nat.div_le_self n (2 ^ j); omega
    have hl : l.length ≤ 64 := by rw [H.out.2, FP.bitsOf_length]; omega
    by_cases hlt : j < k
    · have H2 := hide (div_pow n j)
      have H3 := hide (bitsOf_succ n j)
      rcases Nat.mod_two_eq_zero_or_one v with hp | hp
      · have hb : ((v : Int) % 2 == 1) = false := by rw [beq_eq_false_iff_ne]; omega
        have HP := hide hp
        clear hp
        go_wp2
        go_round
        case rel => exact ⟨j + 1, v / 2, 48 :: l, by omega, by go_num, by simp, by simp [ByteArray.ext_iff], by rw [H2.out, H3.out, ← H.out.1, ← H.out.2]; exact ⟨rfl, by simp [bit, HP.out]⟩⟩
        case measure => simp [intOf]; omega
      · have hb : ((v : Int) % 2 == 1) = true := by rw [beq_iff_eq]; omega
        have HP := hide hp
        clear hp
        go_wp2
        go_round
        case rel => exact ⟨j + 1, v / 2, 49 :: l, by omega, by go_num, by simp, by simp [ByteArray.ext_iff], by rw [H2.out, H3.out, ← H.out.1, ← H.out.2]; exact ⟨rfl, by simp [bit, HP.out]⟩⟩
        case measure => simp [intOf]; omega
    · have hE := hide (show l = bitsOf n k by rw [H.out.2]; congr 1; omega)
      go_wp2
      go_ret
      exact ⟨by rw [← hE.out]; rfl, rfl⟩

set_option maxRecDepth 100000 in
set_option maxHeartbeats 1000000 in
theorem refNumber_any (s : ByteArray) (hs : s.size ≤ 63) (w : World) :
    Calls Tryd.prog 53 #[.string s] w fun e w' => e = .returned (.int .u64 (numOf s.data.toList : Nat)) ∧ w = w' := by
  go_enter Tryd.func53, Tryd.ntmps53
  go_wp2
  go_loop [3, 4] (fun m i => ∃ (j v : Nat), j ≤ s.size ∧ i = .int .i64 j ∧ m = .int .u64 v ∧ Hid (v = numOf (s.data.toList.take j))) (fun _ i => s.size - (intOf i).toNat)
  case atStart => exact ⟨0, 0, Nat.zero_le _, rfl, rfl, by simp [Hid, FP.numOf]⟩
  case round =>
    obtain ⟨j, v, hj, rfl, rfl, H⟩ := hrel
    have hls := hide (show s.data.toList.length = s.size from Array.length_toList)
    by_cases hlt : j < s.size
    · have hv : v < 2 ^ 62 := by
        have h1 := H.out
        have h2 := FP.numOf_lt (s.data.toList.take j)
        have h3 : (s.data.toList.take j).length ≤ 62 := by rw [List.length_take]; omega
        have h4 := Nat.pow_le_pow_right (n := 2) (by omega) h3
        omega
      have hE := hide (show numOf (s.data.toList.take (j + 1)) = 2 * v + (if s[j] = 49 then 1 else 0) by
        rw [List.take_succ_eq_append_getElem (by rw [hls.out]; exact hlt), FP.numOf_snoc, H.out]; rfl)
      rw [show (2 : Nat) ^ 62 = 4611686018427387904 by decide] at hv
      by_cases hc : s[j] = 49
      · have hb : ((s[j].toNat : Int) == 49) = true := by rw [hc]; rfl
        have hE' := hide (show numOf (s.data.toList.take (j + 1)) = 2 * v + 1 by rw [hE.out, if_pos hc])
        clear hc
        go_wp2
        go_round
        case rel => exact ⟨j + 1, 2 * v + 1, by omega, by go_num, by simp, hE'.out.symm⟩
        case measure => simp [intOf]; omega
      · have hb : ((s[j].toNat : Int) == 49) = false := by
          rw [beq_eq_false_iff_ne]
          intro h
          apply hc
          apply UInt8.toNat_inj.1
          show s[j].toNat = 49
          omega
        have hE' := hide (show numOf (s.data.toList.take (j + 1)) = 2 * v by rw [hE.out, if_neg hc]; rfl)
        clear hc
        go_wp2
        go_round
        case rel => exact ⟨j + 1, 2 * v, by omega, by go_num, by simp, hE'.out.symm⟩
        case measure => simp [intOf]; omega
    · have hE := hide (show v = numOf s.data.toList by rw [H.out, List.take_of_length_le (by rw [hls.out]; omega)])
      go_wp2
      go_ret
      exact ⟨by rw [← hE.out]; rfl, rfl⟩
end Go.Proofs.YtmfgifinmeonjaaDoor
