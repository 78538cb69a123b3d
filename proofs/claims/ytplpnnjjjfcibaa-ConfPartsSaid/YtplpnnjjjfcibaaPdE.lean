/- Walks of ref14.Bit. -/
import Derived.Test.YtplpnnjjjfcibaaMgPdD
namespace Go.Proofs.Ytplpnnjjjfcibaa
open Go.ChangeShapes Go.WideShapes Go.ChangeAt Go.RowKit
open SG PD

theorem div_pow_succ (x i : Nat) : (x : Int) / 2 ^ i / 2 = (x : Int) / 2 ^ (i + 1) := by
  rw [Int.ediv_ediv_of_nonneg (Int.pow_nonneg (by omega)), Int.pow_succ]

set_option maxRecDepth 100000 in
theorem refBit_any (d : ByteArray) (p : Nat) (w : World) (hp : p < 8 * d.size) (hd : d.size ≤ 1000) :
    Calls Try.prog 14 #[.string d, .int .i64 p] w fun e w' => e = .returned (.int .i64 (if bitL d.data.toList p then 1 else 0)) ∧ w = w' := by
  obtain ⟨a, ha⟩ : ∃ a, a = p / 8 := ⟨_, rfl⟩
  obtain ⟨j, hj⟩ : ∃ j, j = p % 8 := ⟨_, rfl⟩
  have had : a < d.size := by omega
  have hj8 : j < 8 := by omega
  have hx : d[a].toNat < 256 := UInt8.toNat_lt _
  have BG := byte_get ⟨d[a].toNat, hx⟩ ⟨j, hj8⟩
  dsimp only at BG
  have EB : bitL d.data.toList p = d[a].toNat.testBit j := by
    unfold bitL
    rw [← ha, ← hj]
    congr 2
    have hz : a < d.data.toList.length := by simpa using had
    rw [List.getD_eq_getElem?_getD, List.getElem?_eq_getElem hz]
    rfl
  rw [EB, ← BG]
  clear EB BG
  have hai : (p : Int) / 8 = (a : Int) := by omega
  have hji : (p : Int) % 8 = (j : Int) := by omega
  have hat : (p : Int).tdiv 8 = (a : Int) := by rw [Int.tdiv_eq_ediv_of_nonneg (by omega)]; exact hai
  have hjt : (p : Int).tmod 8 = (j : Int) := by rw [Int.tmod_eq_emod_of_nonneg (by omega)]; exact hji
  have hwa : IntKind.i64.wrap (a : Int) = (a : Int) := IntWalk.i64_in _ (by omega)
  have hda : d.data[a]? = some d[a] := Array.getElem?_eq_getElem had
  have hadi : (a : Int) < (d.size : Int) := by omega
  clear ha hj hp
  obtain ⟨x, hxd⟩ : ∃ x, x = d[a].toNat := ⟨_, rfl⟩
  have hwx : wrap64 ((d[a].toNat : Nat) : Int) = (x : Int) := by
    rw [← hxd]
    have : x < 256 := by rw [hxd]; exact hx
    first | exact IntWalk.i64_in _ (by omega) | (unfold wrap64; omega)
  rw [← hxd] at hx ⊢
  clear hxd
  go_enter Try.func14, Try.ntmps14
  go_wp2_with fail
  rw [hwx]
  clear hwx hda
  go_loopw [5, 6] (fun vc vi W => ∃ i : Nat, i ≤ j ∧ vi = .int .i64 i ∧ vc = .int .i64 ((x : Int) / 2 ^ i) ∧ w = W) (fun _ vi _ => j - (intOf vi).toNat)
  case atStart => exact ⟨0, Nat.zero_le _, rfl, by simp, rfl⟩
  case round =>
    obtain ⟨i, hi, rfl, rfl, rfl⟩ := hrel
    have DP := hide (div_pow_succ x i)
    have h0 : 0 ≤ (x : Int) / 2 ^ i := Int.ediv_nonneg (by omega) (Int.pow_nonneg (by omega))
    have h1 : (x : Int) / 2 ^ i ≤ 255 := Int.le_trans (Int.ediv_le_self _ (by omega)) (by omega)
    by_cases hlt : i < j
    · have hlti : (i : Int) < (j : Int) := by omega
      generalize (x : Int) / 2 ^ i = y at *
      go_wp2_with fail
      go_roundw
      case rel => exact ⟨i + 1, by omega, by go_num, by rw [← DP.out], trivial⟩
      case measure => simp [intOf]; omega
    · obtain rfl : i = j := by omega
      clear DP
      obtain ⟨y, hy⟩ : ∃ y, y = (x : Int) / 2 ^ i := ⟨_, rfl⟩
      rw [← hy] at h0 h1 ⊢
      have HY := hide hy
      clear hy
      go_wp2_with fail
      go_ret
      exact ⟨by rw [← HY.out]; rfl, rfl⟩
end Go.Proofs.Ytplpnnjjjfcibaa
