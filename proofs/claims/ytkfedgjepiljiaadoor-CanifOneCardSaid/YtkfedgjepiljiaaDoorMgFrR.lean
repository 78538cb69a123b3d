/- The reference's Right of a frame. -/
import Derived.Test.YtkfedgjepiljiaaDoorMgFrPlain
import Derived.Test.YtkfedgjepiljiaaDoorFrB
import Derived.Test.YtkfedgjepiljiaaDoorOwS
import Derived.Test.YtkfedgjepiljiaaDoorMgPrK
namespace Go.Proofs.YtkfedgjepiljiaaDoor
open Go.ChangeShapes Go.WideShapes Go.ChangeAt Go.RowKit
open FP (Fr)

theorem empty_iff (s : ByteArray) : s.toList = [] ↔ s.size = 0 := by
  rw [ByteArray.toList_eq]
  have : s.data.toList.length = s.size := Array.length_toList
  rw [← this, List.length_eq_zero_iff]

set_option maxRecDepth 100000 in
set_option maxHeartbeats 1000000 in
theorem refRight04_any (f : Fr) (w : World) (hid : f.id < 4294967296) :
    Calls Tryd.prog 5 #[.agg #[.int .u32 f.id, .bool f.ext, .bool f.rem, .int .i64 f.dlc, .string f.data]] w fun e w' => e = .returned (.bool (FP.rightB f)) ∧ Below w.heap.size w w' := by
  obtain ⟨id, ext, rem, dlc, data⟩ := f
  dsimp only at *
  cases ext <;> cases rem
  all_goals
    go_enter Tryd.func5, Tryd.ntmps5
    go_wp2
    all_goals
      go_ret
      refine ⟨?_, (Below.refl _ _).alloc (Nat.le_refl _) _⟩
      refine ret_bool ?_
      have hsz := empty_iff data
      unfold FP.rightB
      generalize data.size = m at *
      rw [Bool.eq_iff_iff]
      simp at *
      try (first | omega | (simp_all; done) | (simp_all; omega))

end Go.Proofs.YtkfedgjepiljiaaDoor

/- The walks of frame.Head, and of the reference's Of, Number, Right; few and alive of the statements' package. -/
namespace Go.Proofs.YtkfedgjepiljiaaDoor
open Go.ChangeShapes Go.WideShapes Go.ChangeAt Go.RowKit
open FP (bit bitsOf numOf Fr bitB idPart dataPart headF)

theorem str_empty : (⟨([] : List UInt8).toArray⟩ : ByteArray) = ⟨#[]⟩ := rfl

def headV (f : Fr) : ByteArray := if FP.rightB f = true then ⟨(headF f).toArray⟩ else ⟨#[]⟩
def headE (f : Fr) : Int := if FP.rightB f = true then 0 else 1

theorem bitsOf_succ (n j : Nat) : bitsOf n (j + 1) = bit (n / 2 ^ j) :: bitsOf n j := rfl
theorem div_pow (n j : Nat) : n / 2 ^ (j + 1) = n / 2 ^ j / 2 := by rw [Nat.pow_succ, Nat.div_div_eq_div_mul]

set_option maxRecDepth 100000 in
set_option maxHeartbeats 1000000 in
theorem refOf_any (N K : Int) (n k : Nat) (hN : N = n) (hK : K = k) (hn : n < 4294967296) (hk : k ≤ 64) (w : World) :
    Calls Tryd.prog 65 #[.int .u64 N, .int .i64 K] w fun e w' => e = .returned (.string ⟨(bitsOf n k).toArray⟩) ∧ w = w' := by
  subst hN
  subst hK
  go_enter Tryd.func65, Tryd.ntmps65
  go_wp2
  go_loop [0, 5, 6] (fun m s i => ∃ (j v : Nat) (l : List UInt8), j ≤ k ∧ i = .int .i64 j ∧ m = .int .u64 v ∧ s = .string ⟨l.toArray⟩ ∧ Hid (v = n / 2 ^ j ∧ l = bitsOf n j)) (fun _ _ i => k - (intOf i).toNat)
  case atStart => exact ⟨0, n, [], Nat.zero_le _, rfl, rfl, rfl, by simp [Hid, bitsOf]⟩
  case round =>
    obtain ⟨j, v, l, hj, rfl, rfl, rfl, H⟩ := hrel
    have hv : v < 4294967296 := by have := H.out.1; have := Nat.div_le_self n (2 ^ j); omega
    have hl : l.length ≤ 64 := by rw [H.out.2, FP.bitsOf_length]; omega
    by_cases hlt : j < k
    · have H2 := hide (div_pow n j)
      have H3 := hide (bitsOf_succ n j)
      rcases Nat.mod_two_eq_zero_or_one v with hp | hp
      · have hb : ((v : Int) % 2 == 1) = false := by rw [beq_eq_false_iff_ne]; omega
        have HP := hide hp
        clear hp
        go_wp2
        go_round
        case rel => exact ⟨j + 1, v / 2, 48 :: l, by omega, by go_num, by simp, by simp [ByteArray.ext_iff], by rw [H2.out, H3.out, ← H.out.1, ← H.out.2]; exact ⟨rfl, by simp [bit, HP.out]⟩⟩
        case measure => simp [intOf]; omega
      · have hb : ((v : Int) % 2 == 1) = true := by rw [beq_iff_eq]; omega
        have HP := hide hp
        clear hp
        go_wp2
        go_round
        case rel => exact ⟨j + 1, v / 2, 49 :: l, by omega, by go_num, by simp, by simp [ByteArray.ext_iff], by rw [H2.out, H3.out, ← H.out.1, ← H.out.2]; exact ⟨rfl, by simp [bit, HP.out]⟩⟩
        case measure => simp [intOf]; omega
    · have hE := hide (show l = bitsOf n k by rw [H.out.2]; congr 1; omega)
      go_wp2
      go_ret
      exact ⟨by rw [← hE.out]; rfl, rfl⟩

end Go.Proofs.YtkfedgjepiljiaaDoor

/- The reference's Head, Field, First, Less. -/
namespace Go.Proofs.YtkfedgjepiljiaaDoor
open Go.ChangeShapes Go.WideShapes Go.ChangeAt Go.RowKit
open FP (bit bitsOf Fr bitB idPart dataPart headF)

/-- The head, as far as k bytes. -/
def headK (f : Fr) (k : Nat) : List UInt8 := 48 :: (idPart f ++ (bitB f.rem :: (48 :: 48 :: (bitsOf f.dlc.toNat 4 ++ dataPart (f.data.data.toList.take k)))))
theorem headK_zero (f : Fr) : headK f 0 = 48 :: (idPart f ++ (bitB f.rem :: (48 :: 48 :: bitsOf f.dlc.toNat 4))) := by simp [headK, dataPart]
theorem headK_succ (f : Fr) (k : Nat) (h : k < f.data.size) : headK f (k + 1) = headK f k ++ bitsOf f.data[k].toNat 8 := by
  have hl : f.data.data.toList.length = f.data.size := Array.length_toList
  unfold headK
  rw [List.take_succ_eq_append_getElem (by omega), dataPart_snoc]
  simp
  rfl
theorem headK_len (f : Fr) (k : Nat) : (headK f k).length ≤ 39 + 8 * k := by
  unfold headK idPart
  have : (dataPart (f.data.data.toList.take k)).length ≤ 8 * k := by rw [FP.dataPart_length, List.length_take]; omega
  split <;> simp [FP.bitsOf_length] <;> omega
theorem headK_full (f : Fr) : headK f f.data.size = headF f := by
  have hl : f.data.data.toList.length = f.data.size := Array.length_toList
  unfold headK headF
  rw [List.take_of_length_le (by omega)]

set_option maxRecDepth 100000 in
set_option maxHeartbeats 2000000 in
theorem refHeadA_any (f : Fr) (w : World) (hr : FP.rightB f = true) :
    Calls Tryd.prog 53 #[.agg #[.int .u32 f.id, .bool f.ext, .bool f.rem, .int .i64 f.dlc, .string f.data]] w fun e w' => e = .returned (.string ⟨(headF f).toArray⟩) ∧ Below w.heap.size w w' := by
  have HK0 := hide (headK_zero f)
  have HKS := hide (headK_succ f)
  have HKL := hide (headK_len f)
  have HKF := hide (headK_full f)
  have hb : f.id < 536870912 ∧ 0 ≤ f.dlc ∧ f.dlc ≤ 8 ∧ f.data.size ≤ 8 := by
    simp [FP.rightB] at hr
    obtain ⟨⟨⟨h1, h2⟩, h3⟩, h4⟩ := hr
    refine ⟨by split at h1 <;> omega, h2, h3, by split at h4 <;> omega⟩
  obtain ⟨h1, h2, h3, h4⟩ := hb
  obtain ⟨d, hd⟩ : ∃ d : Nat, f.dlc = d := ⟨f.dlc.toNat, by omega⟩
  have R11 := hide (fun W => refOf_any f.id 11 f.id 11 rfl rfl (by omega) (by omega) W)
  have R29 := hide (fun W => refOf_any f.id 29 f.id 29 rfl rfl (by omega) (by omega) W)
  have R4 := hide (fun W => refOf_any d 4 d 4 rfl rfl (by omega) (by omega) W)
  have R8 := hide (fun (c : UInt8) W => refOf_any c.toNat 8 c.toNat 8 rfl rfl (by have := c.toNat_lt; omega) (by omega) W)
  obtain ⟨id, ext, rem, dlc, data⟩ := f
  dsimp only at *
  subst hd
  have hd9 : d ≤ 8 := by omega
  have q0 : Below w.heap.size w (w.alloc (.cells #[.int .u32 id, .bool ext, .bool rem, .int .i64 d, .string data] 24)) := (Below.refl _ _).alloc (Nat.le_refl _) _
  clear hr h2 h3
  have hs11 : (bitsOf id 11).length ≤ 11 := by rw [FP.bitsOf_length]; omega
  have hs29 : (bitsOf id 29).length ≤ 29 := by rw [FP.bitsOf_length]; omega
  have hs29' : 29 ≤ (bitsOf id 29).length := by rw [FP.bitsOf_length]; omega
  have hs4 : (bitsOf d 4).length ≤ 4 := by rw [FP.bitsOf_length]; omega
  have hs8 : ∀ c : UInt8, (bitsOf c.toNat 8).length ≤ 8 := fun c => by rw [FP.bitsOf_length]; omega
  have HS8 := hide hs8
  clear hs8
  have hx : Hid ((⟨(bitsOf id 29).toArray⟩ : ByteArray).extract 0 11 = ⟨(bitsOf (id / 262144) 11).toArray⟩ ∧ (⟨(bitsOf id 29).toArray⟩ : ByteArray).extract 11 (⟨(bitsOf id 29).toArray⟩ : ByteArray).size = ⟨(bitsOf (id % 262144) 18).toArray⟩) := by
    have e := FP.bitsOf_append id 11 18
    have e2 := FP.bitsOf_mod id 18
    have l1 := FP.bitsOf_length (id / 2 ^ 18) 11
    have l2 := FP.bitsOf_length id 18
    constructor
    · rw [ByteArray.ext_iff]
      simp only [ByteArray.data_extract, e]
      simp [l1]
    · rw [ByteArray.ext_iff]
      simp only [ByteArray.data_extract, e, ByteArray.size]
      simp [l1, l2]
      exact e2.symm
  cases ext
  · cases rem
    all_goals
      go_enter Tryd.func53, Tryd.ntmps53
      go_wp2_with fail
      refine (R11.out _).mono ?_
      rintro e1 w1 ⟨rfl, rfl⟩
      go_wp2_with fail
      refine (R4.out _).mono ?_
      rintro e1 w1 ⟨rfl, rfl⟩
      go_wp2
      go_loop [4, 6] (fun s i => ∃ (k : Nat) (l : List UInt8), k ≤ data.size ∧ i = .int .i64 k ∧ s = .string ⟨l.toArray⟩ ∧ l.length ≤ 39 + 8 * k ∧ Hid (l = headK _ k)) (fun _ i => data.size - (intOf i).toNat)
      case atStart => exact ⟨0, _, by omega, rfl, by rw [HK0.out]; simp [idPart, bitB, ByteArray.ext_iff], HKL.out 0, rfl⟩
      case round =>
        obtain ⟨k, l, hk, rfl, rfl, hl, HL⟩ := hrel
        by_cases hlt : k < data.size
        · have h8 := HS8.out data[k]
          have hw8 : IntKind.u64.wrap (data[k].toNat : Int) = (data[k].toNat : Int) := IntWalk.u64_in _ (by have := data[k].toNat_lt; omega)
          have E := hide (HKS.out k hlt)
          have L := hide (HKL.out (k + 1))
          go_wp2_with fail
          (with_reducible refine (R8.out data[k] _).mono ?_)
          rintro e1 w1 ⟨rfl, rfl⟩
          go_wp2
          go_round
          case rel => exact ⟨k + 1, _, by omega, by go_num, by rw [E.out, ← HL.out]; simp [ByteArray.ext_iff], L.out, rfl⟩
          case measure => simp [intOf]; omega
        · obtain rfl : k = data.size := by omega
          have E := hide (HL.out.trans HKF.out)
          go_wp2
          go_ret
          exact ⟨by rw [← E.out]; rfl, q0⟩
  · have hsz : (⟨(bitsOf id 29).toArray⟩ : ByteArray).size = 29 := by simp [ByteArray.size, FP.bitsOf_length]
    have HX := hide hx.out
    rw [hsz] at HX
    generalize (⟨(bitsOf id 29).toArray⟩ : ByteArray) = S at *
    have h11 : (11 : Int) ≤ (S.size : Int) := by omega
    have h11' : 11 ≤ S.size := by omega
    have h29 : S.size ≤ 29 := by omega
    have hx1 : S.extract 11 S.size = S.extract 11 29 := by rw [hsz]
    have y1 : (S.extract 0 11).size ≤ 29 := by rw [ByteArray.size_extract]; omega
    have y2 : (S.extract 11 29).size ≤ 29 := by rw [ByteArray.size_extract]; omega
    generalize S.extract 11 29 = T2 at *
    obtain ⟨T1, hT1⟩ : ∃ T, S.extract 0 11 = T := ⟨_, rfl⟩
    rw [hT1] at y1 HX
    clear hsz hx
    cases rem
    all_goals
      go_enter Tryd.func53, Tryd.ntmps53
      go_wp2_with fail
      refine (R11.out _).mono ?_
      rintro e1 w1 ⟨rfl, rfl⟩
      go_wp2_with fail
      refine (R29.out _).mono ?_
      rintro e1 w1 ⟨rfl, rfl⟩
      go_wp2_with fail
      go_quiet (fail)
      go_wp2_with fail
      refine (R4.out _).mono ?_
      rintro e1 w1 ⟨rfl, rfl⟩
      go_wp2
      go_loop [4, 6] (fun s i => ∃ (k : Nat) (l : List UInt8), k ≤ data.size ∧ i = .int .i64 k ∧ s = .string ⟨l.toArray⟩ ∧ l.length ≤ 39 + 8 * k ∧ Hid (l = headK _ k)) (fun _ i => data.size - (intOf i).toNat)
      case atStart => exact ⟨0, _, by omega, rfl, by rw [HK0.out, HX.out.1, HX.out.2]; simp [idPart, bitB, ByteArray.ext_iff], HKL.out 0, rfl⟩
      case round =>
        obtain ⟨k, l, hk, rfl, rfl, hl, HL⟩ := hrel
        by_cases hlt : k < data.size
        · have h8 := HS8.out data[k]
          have hw8 : IntKind.u64.wrap (data[k].toNat : Int) = (data[k].toNat : Int) := IntWalk.u64_in _ (by have := data[k].toNat_lt; omega)
          have E := hide (HKS.out k hlt)
          have L := hide (HKL.out (k + 1))
          go_wp2_with fail
          (with_reducible refine (R8.out data[k] _).mono ?_)
          rintro e1 w1 ⟨rfl, rfl⟩
          go_wp2
          go_round
          case rel => exact ⟨k + 1, _, by omega, by go_num, by rw [E.out, ← HL.out]; simp [ByteArray.ext_iff], L.out, rfl⟩
          case measure => simp [intOf]; omega
        · obtain rfl : k = data.size := by omega
          have E := hide (HL.out.trans HKF.out)
          go_wp2
          go_ret
          exact ⟨by rw [← E.out]; rfl, below_drewN q0 _⟩
end Go.Proofs.YtkfedgjepiljiaaDoor

/- The reference's Field, First, Less of package 05. -/
namespace Go.Proofs.YtkfedgjepiljiaaDoor
open Go.ChangeShapes Go.WideShapes Go.ChangeAt Go.RowKit
open FP (bit bitsOf Fr bitB idPart dataPart headF)

namespace PP
/-- The first place at which two rows are unlike; -1: nowhere. -/
def firstF : List UInt8 → List UInt8 → Int
  | a :: x, b :: y => if a = b then (if firstF x y < 0 then -1 else firstF x y + 1) else 0
  | _, _ => -1
theorem firstF_at : ∀ (k : Nat) (x y : List UInt8) (a b : UInt8), x.take k = y.take k → x[k]? = some a → y[k]? = some b → a ≠ b → firstF x y = k
  | 0, [], _, _, _, _, h, _, _ => by simp at h
  | 0, _ :: _, [], _, _, _, _, h, _ => by simp at h
  | 0, c :: x, d :: y, a, b, _, h1, h2, h3 => by
    simp only [List.getElem?_cons_zero, Option.some.injEq] at h1 h2
    subst h1 h2
    simp [firstF, h3]
  | k + 1, [], _, _, _, _, h, _, _ => by simp at h
  | k + 1, _ :: _, [], _, _, _, _, h, _ => by simp at h
  | k + 1, c :: x, d :: y, a, b, ht, h1, h2, h3 => by
    simp only [List.take_succ_cons, List.cons.injEq] at ht
    obtain ⟨rfl, ht⟩ := ht
    simp only [List.getElem?_cons_succ] at h1 h2
    have := firstF_at k x y a b ht h1 h2 h3
    simp only [firstF, if_true]
    rw [this, if_neg (by omega)]
    rfl
theorem firstF_none : ∀ (x y : List UInt8), x.take (min x.length y.length) = y.take (min x.length y.length) → firstF x y = -1
  | [], y, _ => by simp [firstF]
  | _ :: _, [], _ => by simp [firstF]
  | c :: x, d :: y, ht => by
    simp only [List.length_cons, Nat.succ_min_succ, List.take_succ_cons, List.cons.injEq] at ht
    obtain ⟨rfl, ht⟩ := ht
    have := firstF_none x y ht
    simp only [firstF, if_true]
    rw [this, if_pos (by omega)]
theorem firstF_self (x : List UInt8) : firstF x x = -1 := firstF_none x x rfl
theorem firstF_symm : ∀ (x y : List UInt8), firstF x y = firstF y x
  | [], [] => rfl
  | [], _ :: _ => rfl
  | _ :: _, [] => rfl
  | a :: x, b :: y => by
    unfold firstF
    by_cases h : a = b
    · rw [if_pos h, if_pos h.symm, firstF_symm x y]
    · rw [if_neg h, if_neg (Ne.symm h)]
theorem firstF_neg {F G : List UInt8} (hF : Fld F) (hG : Fld G) : firstF F G < 0 ↔ F = G := by
  rcases fld_or hF hG with rfl | ⟨k, a, b, h1, h2, h3, h4⟩
  · simp [firstF_self]
  · rw [firstF_at k F G a b h1 h2 h3 h4]
    refine ⟨fun h => by omega, fun h => ?_⟩
    subst h
    rw [h2] at h3
    exact absurd (Option.some.inj h3) h4
end PP

theorem byte_take (s : ByteArray) (k : Nat) (h : k < s.size) : s.data.toList.take (k + 1) = s.data.toList.take k ++ [s[k]] := by
  rw [List.take_succ_eq_append_getElem (by simpa using h)]; rfl
theorem byte_getR (s : ByteArray) (k : Nat) (h : k < s.size) : s.data.toList[k]? = some s[k] := by
  rw [List.getElem?_eq_getElem (by simpa using h)]; rfl
theorem int_byte {a b : UInt8} : (((a.toNat : Int) == (b.toNat : Int)) = true ↔ a = b) := by
  rw [beq_iff_eq, Int.ofNat_inj]
  exact ⟨fun h => UInt8.toNat_inj.1 h, fun h => by rw [h]⟩

set_option maxRecDepth 100000 in
set_option maxHeartbeats 1000000 in
theorem refFirst_any (s t : ByteArray) (w : World) (hs : s.size ≤ 1000) (_ht : t.size ≤ 1000) :
    Calls Tryd.prog 40 #[.string s, .string t] w fun e w' => e = .returned (.int .i64 (PP.firstF s.data.toList t.data.toList)) ∧ Below w.heap.size w w' := by
  have hls := hide (show s.data.toList.length = s.size from Array.length_toList)
  have hlt := hide (show t.data.toList.length = t.size from Array.length_toList)
  go_enter Tryd.func40, Tryd.ntmps40
  go_wp2
  go_loopw [5] (fun i W => ∃ k : Nat, k ≤ s.size ∧ k ≤ t.size ∧ i = .int .i64 k ∧ Hid (s.data.toList.take k = t.data.toList.take k) ∧ Below w.heap.size w W) (fun i _ => s.size - (intOf i).toNat)
  case atStart => exact ⟨0, Nat.zero_le _, Nat.zero_le _, rfl, hide rfl, Below.refl _ _⟩
  case round =>
    obtain ⟨k, hk, hk2, rfl, HT, q⟩ := hrel
    by_cases h1 : k < s.size
    · by_cases h2 : k < t.size
      · have i1 : (k : Int) < (s.size : Int) := by omega
        have i2 : (k : Int) < (t.size : Int) := by omega
        have i0 : (0 : Int) ≤ (k : Int) := by omega
        by_cases he : s[k] = t[k]
        · have hb : ((s[k].toNat : Int) == (t[k].toNat : Int)) = true := int_byte.2 he
          have hb' : ((s[k].toNat : Int) != (t[k].toNat : Int)) = false := by simp [bne, hb]
          have HT2 := hide (show s.data.toList.take (k + 1) = t.data.toList.take (k + 1) by rw [byte_take s k h1, byte_take t k h2, HT.out, he])
          clear he
          go_wp2_with fail
          go_quiet (fail)
          go_wp2
          go_roundw
          case rel => exact ⟨k + 1, by omega, by omega, by go_num, HT2, below_drewN q _⟩
          case measure => simp [intOf]; omega
        · have hb : ((s[k].toNat : Int) == (t[k].toNat : Int)) = false := by rw [← Bool.not_eq_true, int_byte]; exact he
          have hb' : ((s[k].toNat : Int) != (t[k].toNat : Int)) = true := by simp [bne, hb]
          have HE := hide (PP.firstF_at k s.data.toList t.data.toList s[k] t[k] HT.out (byte_getR s k h1) (byte_getR t k h2) he)
          clear he
          go_wp2_with fail
          go_quiet (fail)
          go_wp2
          go_ret
          exact ⟨by rw [HE.out]; rfl, below_drewN q _⟩
      · have HE := hide (PP.firstF_none s.data.toList t.data.toList (by rw [hls.out, hlt.out, show min s.size t.size = k by omega]; exact HT.out))
        go_wp2
        go_ret
        exact ⟨by rw [HE.out]; rfl, q⟩
    · have HE := hide (PP.firstF_none s.data.toList t.data.toList (by rw [hls.out, hlt.out, show min s.size t.size = k by omega]; exact HT.out))
      go_wp2
      go_ret
      exact ⟨by rw [HE.out]; rfl, q⟩

theorem head_field (f : Fr) : headF f = 48 :: (fieldF f ++ (if f.ext then [48, 48] else [48]) ++ (bitsOf f.dlc.toNat 4 ++ dataPart f.data.data.toList)) := by
  unfold headF idPart fieldF
  have l1 := FP.bitsOf_length (f.id / 2 ^ 18) 11
  cases f.ext
  · simp
  · have e := FP.bitsOf_append f.id 11 18
    have e2 := FP.bitsOf_mod f.id 18
    simp only [if_true]
    rw [e, show (262144 : Nat) = 2 ^ 18 by decide, e2]
    simp [l1]

theorem field_len (f : Fr) : (fieldF f).length = if f.ext then 32 else 13 := by
  unfold fieldF
  split <;> simp [FP.bitsOf_length]

set_option maxRecDepth 100000 in
set_option maxHeartbeats 1000000 in
theorem refField_any (f : Fr) (w : World) (hr : FP.rightB f = true) :
    Calls Tryd.prog 39 #[.agg #[.int .u32 f.id, .bool f.ext, .bool f.rem, .int .i64 f.dlc, .string f.data]] w fun e w' => e = .returned (.string (fstr f)) ∧ Below w.heap.size w w' := by
  have H := hide (fun W => refHeadA_any f W hr)
  have E := head_field f
  have hl := field_len f
  have q0 : Below w.heap.size w (w.alloc (.cells #[.int .u32 f.id, .bool f.ext, .bool f.rem, .int .i64 f.dlc, .string f.data] 24)) := (Below.refl _ _).alloc (Nat.le_refl _) _
  have hx : Hid ((⟨(headF f).toArray⟩ : ByteArray).extract 1 (if f.ext then 33 else 14) = fstr f) := by
    rw [str_cut, E]
    unfold fstr
    congr 2
    cases hx : f.ext
    · rw [hx] at hl
      simp [List.extract_eq_take_drop, hl]
    · rw [hx] at hl
      simp [List.extract_eq_take_drop, hl]
  have hz : (if f.ext then 33 else 14) ≤ (⟨(headF f).toArray⟩ : ByteArray).size := by
    rw [E]
    simp only [ByteArray.size, List.size_toArray, List.length_cons, List.length_append, hl, FP.bitsOf_length]
    split <;> omega
  generalize (⟨(headF f).toArray⟩ : ByteArray) = S at *
  generalize fstr f = T at *
  obtain ⟨id, ext, rem, dlc, data⟩ := f
  dsimp only at *
  clear hr E hl
  cases ext
  all_goals
    simp only [if_true, if_false, Bool.false_eq_true] at hz hx
    first | have hzi : (33 : Int) ≤ (S.size : Int) := by omega | have hzi : (14 : Int) ≤ (S.size : Int) := by omega
    go_enter Tryd.func39, Tryd.ntmps39
    go_wp2_with fail
    (with_reducible refine (H.out _).mono ?_)
    rintro e1 w1 ⟨rfl, q1⟩
    obtain ⟨hc, hz1⟩ := bcell q1
    go_wp2
    go_ret
    exact ⟨by rw [← hx.out]; rfl, below_next q0 q0.size q1⟩

theorem refLess_eq {f g : Fr} (hf : FP.rightB f = true) (hg : FP.rightB g = true) :
    (PP.firstF (fieldF f) (fieldF g) < 0 ∧ lessB f g = false) ∨ ∃ (k : Nat) (a : UInt8), PP.firstF (fieldF f) (fieldF g) = k ∧ (fieldF f)[k]? = some a ∧ lessB f g = ((a.toNat : Int) == 48) := by
  rw [PP.lessB_bl hf hg]
  rcases PP.fld_or (PP.fld_of f) (PP.fld_of g) with h | ⟨k, a, b, h1, h2, h3, h4⟩
  · left
    rw [h, PP.firstF_self, PP.bl_irrefl]
    exact ⟨by omega, rfl⟩
  · right
    refine ⟨k, a, PP.firstF_at k _ _ a b h1 h2 h3 h4, h2, ?_⟩
    rw [PP.bl_first k _ _ h1 a b h2 h3 h4]
    rcases (PP.fld_of f).bits a (List.mem_of_getElem? h2) with rfl | rfl <;> rcases (PP.fld_of g).bits b (List.mem_of_getElem? h3) with rfl | rfl
    · exact absurd rfl h4
    · rfl
    · rfl
    · exact absurd rfl h4

set_option maxRecDepth 100000 in
set_option maxHeartbeats 1000000 in
theorem refLess_any (f g : Fr) (w : World) (hf : FP.rightB f = true) (hg : FP.rightB g = true) :
    Calls Tryd.prog 26 #[.agg #[.int .u32 f.id, .bool f.ext, .bool f.rem, .int .i64 f.dlc, .string f.data], .agg #[.int .u32 g.id, .bool g.ext, .bool g.rem, .int .i64 g.dlc, .string g.data]] w fun e w' => e = .returned (.bool (lessB f g)) ∧ Below w.heap.size w w' := by
  have HF := hide (fun W => refField_any f W hf)
  have HG := hide (fun W => refField_any g W hg)
  have lf := field_len f
  have lg := field_len g
  have sf : (fstr f).size ≤ 1000 := by unfold fstr; simp only [ByteArray.size, List.size_toArray, lf]; split <;> omega
  have sg : (fstr g).size ≤ 1000 := by unfold fstr; simp only [ByteArray.size, List.size_toArray, lg]; split <;> omega
  have FI := hide (fun W => refFirst_any (fstr f) (fstr g) W sf sg)
  have CASES := refLess_eq hf hg
  have e1 : (fstr f).data.toList = fieldF f := rfl
  have e2 : (fstr g).data.toList = fieldF g := rfl
  rw [e1, e2] at FI
  have hat : ∀ (k : Nat) (a : UInt8), (fieldF f)[k]? = some a → ∃ h : k < (fstr f).size, (fstr f)[k] = a := fun k a h => by
    obtain ⟨h1, h2⟩ := List.getElem?_eq_some_iff.1 h
    refine ⟨by simpa [fstr, ByteArray.size] using h1, ?_⟩
    rw [← h2]; rfl
  have q0 : Below w.heap.size w ((w.alloc (.cells #[.int .u32 f.id, .bool f.ext, .bool f.rem, .int .i64 f.dlc, .string f.data] 24)).alloc (.cells #[.int .u32 g.id, .bool g.ext, .bool g.rem, .int .i64 g.dlc, .string g.data] 24)) := ((Below.refl _ _).alloc (Nat.le_refl _) _).alloc (by simp) _
  generalize PP.firstF (fieldF f) (fieldF g) = X at *
  generalize lessB f g = B at *
  have HAT := hide hat
  clear hat e1 e2 lf lg hf hg
  generalize fieldF f = FF at *
  generalize fstr f = S at *
  generalize fstr g = T at *
  clear sf sg
  obtain ⟨id, ext, rem, dlc, data⟩ := f
  obtain ⟨id', ext', rem', dlc', data'⟩ := g
  dsimp only at *
  rcases CASES with ⟨h1, rfl⟩ | ⟨k, a, rfl, h2, hB⟩
  · go_enter Tryd.func26, Tryd.ntmps26
    go_wp2_with fail
    (with_reducible refine (HF.out _).mono ?_)
    rintro e1 w1 ⟨rfl, q1⟩
    have q1' := below_next q0 q0.size q1
    obtain ⟨hc, hz1⟩ := bcell q1
    go_wp2_with fail
    (with_reducible refine (HG.out _).mono ?_)
    rintro e1 w2 ⟨rfl, q2⟩
    have q2' := below_next q1' q1'.size q2
    go_wp2_with fail
    (with_reducible refine (FI.out _).mono ?_)
    rintro e1 w3 ⟨rfl, q3⟩
    have q3' := below_next q2' q2'.size q3
    go_wp2
    go_ret
    exact ⟨rfl, q3'⟩
  · obtain ⟨hk, hka⟩ := HAT.out k a h2
    have HB := hide hB
    have HKA := hide hka
    clear hB h2 hka
    have i0 : (0 : Int) ≤ (k : Int) := by omega
    have i1 : (k : Int) < (S.size : Int) := by omega
    go_enter Tryd.func26, Tryd.ntmps26
    go_wp2_with fail
    (with_reducible refine (HF.out _).mono ?_)
    rintro e1 w1 ⟨rfl, q1⟩
    have q1' := below_next q0 q0.size q1
    obtain ⟨hc, hz1⟩ := bcell q1
    go_wp2_with fail
    (with_reducible refine (HG.out _).mono ?_)
    rintro e1 w2 ⟨rfl, q2⟩
    have q2' := below_next q1' q1'.size q2
    go_wp2_with fail
    (with_reducible refine (FI.out _).mono ?_)
    rintro e1 w3 ⟨rfl, q3⟩
    have q3' := below_next q2' q2'.size q3
    go_wp2
    go_ret
    exact ⟨by rw [HB.out, ← HKA.out]; rfl, q3'⟩
end Go.Proofs.YtkfedgjepiljiaaDoor
