/- The reference's Head, Field, First, Less. -/
import Derived.Test.YtbdgifngldipcaaOwS
import Derived.Test.YtbdgifngldipcaaPrK
import Derived.Test.YtbdgifngldipcaaFrC
namespace Go.Proofs.Ytbdgifngldipcaa
open Go.ChangeShapes Go.WideShapes Go.ChangeAt Go.RowKit
open FP (bit bitsOf Fr bitB idPart dataPart headF)

/-- The head, as far as k bytes. -/
def headK (f : Fr) (k : Nat) : List UInt8 := 48 :: (idPart f ++ (bitB f.rem :: (48 :: 48 :: (bitsOf f.dlc.toNat 4 ++ dataPart (f.data.data.toList.take k)))))
theorem headK_zero (f : Fr) : headK f 0 = 48 :: (idPart f ++ (bitB f.rem :: (48 :: 48 :: bitsOf f.dlc.toNat 4))) := by simp [headK, dataPart]
theorem headK_succ (f : Fr) (k : Nat) (h : k < f.data.size) : headK f (k + 1) = headK f k ++ bitsOf f.data[k].toNat 8 := by
  have hl : f.data.data.toList.length = f.data.size := Array.length_toList
  unfold headK
  rw [List.take_succ_eq_append_getElem (by omega), dataPart_snoc]
  simp
  rfl
theorem headK_len (f : Fr) (k : Nat) : (headK f k).length ≤ 39 + 8 * k := by
  unfold headK idPart
  have : (dataPart (f.data.data.toList.take k)).length ≤ 8 * k := by rw [FP.dataPart_length, List.length_take]; omega
  split <;> simp [FP.bitsOf_length] <;> omega
theorem headK_full (f : Fr) : headK f f.data.size = headF f := by
  have hl : f.data.data.toList.length = f.data.size := Array.length_toList
  unfold headK headF
  rw [List.take_of_length_le (by omega)]

set_option maxRecDepth 100000 in
set_option maxHeartbeats 2000000 in
theorem refHead_any (f : Fr) (w : World) (hr : FP.rightB f = true) :
    Calls Try.prog 58 #[.agg #[.int .u32 f.id, .bool f.ext, .bool f.rem, .int .i64 f.dlc, .string f.data]] w fun e w' => e = .returned (.string ⟨(headF f).toArray⟩) ∧ Below w.heap.size w w' := by
  have HK0 := hide (headK_zero f)
  have HKS := hide (headK_succ f)
  have HKL := hide (headK_len f)
  have HKF := hide (headK_full f)
  have hb : f.id < 536870912 ∧ 0 ≤ f.dlc ∧ f.dlc ≤ 8 ∧ f.data.size ≤ 8 := by
    simp [FP.rightB] at hr
    obtain ⟨⟨⟨h1, h2⟩, h3⟩, h4⟩ := hr
    refine ⟨by split at h1 <;> omega, h2, h3, by split at h4 <;> omega⟩
  obtain ⟨h1, h2, h3, h4⟩ := hb
  obtain ⟨d, hd⟩ : ∃ d : Nat, f.dlc = d := ⟨f.dlc.toNat, by omega⟩
  have R11 := hide (fun W => refOf_any f.id 11 f.id 11 rfl rfl (by omega) (by omega) W)
  have R29 := hide (fun W => refOf_any f.id 29 f.id 29 rfl rfl (by omega) (by omega) W)
  have R4 := hide (fun W => refOf_any d 4 d 4 rfl rfl (by omega) (by omega) W)
  have R8 := hide (fun (c : UInt8) W => refOf_any c.toNat 8 c.toNat 8 rfl rfl (by have := c.toNat_lt; omega) (by omega) W)
  obtain ⟨id, ext, rem, dlc, data⟩ := f
  dsimp only at *
  subst hd
  have hd9 : d ≤ 8 := by omega
  have q0 : Below w.heap.size w (w.alloc (.cells #[.int .u32 id, .bool ext, .bool rem, .int .i64 d, .string data] 39)) := (Below.refl _ _).alloc (Nat.le_refl _) _
  clear hr h2 h3
  have hs11 : (bitsOf id 11).length ≤ 11 := by rw [FP.bitsOf_length]; omega
  have hs29 : (bitsOf id 29).length ≤ 29 := by rw [FP.bitsOf_length]; omega
  have hs29' : 29 ≤ (bitsOf id 29).length := by rw [FP.bitsOf_length]; omega
  have hs4 : (bitsOf d 4).length ≤ 4 := by rw [FP.bitsOf_length]; omega
  have hs8 : ∀ c : UInt8, (bitsOf c.toNat 8).length ≤ 8 := fun c => by rw [FP.bitsOf_length]; omega
  have HS8 := hide hs8
  clear hs8
  have hx : Hid ((⟨(bitsOf id 29).toArray⟩ : ByteArray).extract 0 11 = ⟨(bitsOf (id / 262144) 11).toArray⟩ ∧ (⟨(bitsOf id 29).toArray⟩ : ByteArray).extract 11 (⟨(bitsOf id 29).toArray⟩ : ByteArray).size = ⟨(bitsOf (id % 262144) 18).toArray⟩) := by
    have e := FP.bitsOf_append id 11 18
    have e2 := FP.bitsOf_mod id 18
    have l1 := FP.bitsOf_length (id / 2 ^ 18) 11
    have l2 := FP.bitsOf_length id 18
    constructor
    · rw [ByteArray.ext_iff]
      simp only [ByteArray.data_extract, e]
      simp [l1]
    · rw [ByteArray.ext_iff]
      simp only [ByteArray.data_extract, e, ByteArray.size]
      simp [l1, l2]
      exact e2.symm
  cases ext
  · cases rem
    all_goals
      go_enter Try.func58, Try.ntmps58
      go_wp2_with fail
      refine (R11.out _).mono ?_
      rintro e1 w1 ⟨rfl, rfl⟩
      go_wp2_with fail
      refine (R4.out _).mono ?_
      rintro e1 w1 ⟨rfl, rfl⟩
      go_wp2
      go_loop [4, 6] (fun s i => ∃ (k : Nat) (l : List UInt8), k ≤ data.size ∧ i = .int .i64 k ∧ s = .string ⟨l.toArray⟩ ∧ l.length ≤ 39 + 8 * k ∧ Hid (l = headK _ k)) (fun _ i => data.size - (intOf i).toNat)
      case atStart => exact ⟨0, _, by omega, rfl, by rw [HK0.out]; simp [idPart, bitB, ByteArray.ext_iff], HKL.out 0, rfl⟩
      case round =>
        obtain ⟨k, l, hk, rfl, rfl, hl, HL⟩ := hrel
        by_cases hlt : k < data.size
        · have h8 := HS8.out data[k]
          have hw8 : IntKind.u64.wrap (data[k].toNat : Int) = (data[k].toNat : Int) := IntWalk.u64_in _ (by have := data[k].toNat_lt; omega)
          have E := hide (HKS.out k hlt)
          have L := hide (HKL.out (k + 1))
          go_wp2_with fail
          (with_reducible refine (R8.out data[k] _).mono ?_)
          rintro e1 w1 ⟨rfl, rfl⟩
          go_wp2
          go_round
          case rel => exact ⟨k + 1, _, by omega, by go_num, by rw [E.out, ← HL.out]; simp [ByteArray.ext_iff], L.out, rfl⟩
          case measure => simp [intOf]; omega
        · obtain rfl : k = data.size := by omega
          have E := hide (HL.out.trans HKF.out)
          go_wp2
          go_ret
          exact ⟨by rw [← E.out]; rfl, q0⟩
  · have hsz : (⟨(bitsOf id 29).toArray⟩ : ByteArray).size = 29 := by simp [ByteArray.size, FP.bitsOf_length]
    have HX := hide hx.out
    rw [hsz] at HX
    generalize (⟨(bitsOf id 29).toArray⟩ : ByteArray) = S at *
    have h11 : (11 : Int) ≤ (S.size : Int) := by omega
    have h11' : 11 ≤ S.size := by omega
    have h29 : S.size ≤ 29 := by omega
    have hx1 : S.extract 11 S.size = S.extract 11 29 := by rw [hsz]
    have y1 : (S.extract 0 11).size ≤ 29 := by rw [ByteArray.size_extract]; omega
    have y2 : (S.extract 11 29).size ≤ 29 := by rw [ByteArray.size_extract]; omega
    generalize S.extract 11 29 = T2 at *
    obtain ⟨T1, hT1⟩ : ∃ T, S.extract 0 11 = T := ⟨_, rfl⟩
    rw [hT1] at y1 HX
    clear hsz hx
    cases rem
    all_goals
      go_enter Try.func58, Try.ntmps58
      go_wp2_with fail
      refine (R11.out _).mono ?_
      rintro e1 w1 ⟨rfl, rfl⟩
      go_wp2_with fail
      refine (R29.out _).mono ?_
      rintro e1 w1 ⟨rfl, rfl⟩
      go_wp2_with fail
      go_quiet (fail)
      go_wp2_with fail
      refine (R4.out _).mono ?_
      rintro e1 w1 ⟨rfl, rfl⟩
      go_wp2
      go_loop [4, 6] (fun s i => ∃ (k : Nat) (l : List UInt8), k ≤ data.size ∧ i = .int .i64 k ∧ s = .string ⟨l.toArray⟩ ∧ l.length ≤ 39 + 8 * k ∧ Hid (l = headK _ k)) (fun _ i => data.size - (intOf i).toNat)
      case atStart => exact ⟨0, _, by omega, rfl, by rw [HK0.out, HX.out.1, HX.out.2]; simp [idPart, bitB, ByteArray.ext_iff], HKL.out 0, rfl⟩
      case round =>
        obtain ⟨k, l, hk, rfl, rfl, hl, HL⟩ := hrel
        by_cases hlt : k < data.size
        · have h8 := HS8.out data[k]
          have hw8 : IntKind.u64.wrap (data[k].toNat : Int) = (data[k].toNat : Int) := IntWalk.u64_in _ (by have := data[k].toNat_lt; omega)
          have E := hide (HKS.out k hlt)
          have L := hide (HKL.out (k + 1))
          go_wp2_with fail
          (with_reducible refine (R8.out data[k] _).mono ?_)
          rintro e1 w1 ⟨rfl, rfl⟩
          go_wp2
          go_round
          case rel => exact ⟨k + 1, _, by omega, by go_num, by rw [E.out, ← HL.out]; simp [ByteArray.ext_iff], L.out, rfl⟩
          case measure => simp [intOf]; omega
        · obtain rfl : k = data.size := by omega
          have E := hide (HL.out.trans HKF.out)
          go_wp2
          go_ret
          exact ⟨by rw [← E.out]; rfl, below_drewN q0 _⟩
end Go.Proofs.Ytbdgifngldipcaa
