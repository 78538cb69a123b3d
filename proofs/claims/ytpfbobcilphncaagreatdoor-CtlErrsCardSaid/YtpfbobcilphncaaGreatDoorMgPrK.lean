/- PrioKinds. -/
import Derived.Test.YtpfbobcilphncaaGreatDoorMgPrF
import Derived.Test.YtpfbobcilphncaaGreatDoorOwS
import Derived.Test.YtpfbobcilphncaaGreatDoorMgFrR
namespace Go.Proofs.YtpfbobcilphncaaGreatDoor
open Go.ChangeShapes Go.WideShapes Go.ChangeAt Go.RowKit
open FP (bit bitsOf Fr bitB)

def al05 : List Fr := [⟨5, false, false, 0, ⟨#[]⟩⟩, ⟨3, false, false, 0, ⟨#[]⟩⟩, ⟨4, false, false, 0, ⟨#[]⟩⟩]
theorem al05_best : PP.Best al05 1 := ⟨by decide, by decide +kernel⟩
theorem al05_left : leftIdx (lostF al05) al05.length = [1] := by
  have h0 : ¬ lostF al05 0 < 0 := fun h => absurd ((PP.left_iff al05_best (j := 0) (by decide)).1 h) (by decide +kernel)
  have h1 : lostF al05 1 < 0 := (PP.left_iff al05_best (j := 1) (by decide)).2 rfl
  have h2 : ¬ lostF al05 2 < 0 := fun h => absurd ((PP.left_iff al05_best (j := 2) (by decide)).1 h) (by decide +kernel)
  show leftIdx (lostF al05) 3 = [1]
  rw [leftIdx_out h2, leftIdx_in h1, leftIdx_out h0]
  rfl

theorem rd_cell {w : World} {B : Nat} {A : Option Addr} {v : Value} (h : Rd w B A 1 [[v]]) : ∃ b off, A = some ⟨b, off, none⟩ ∧ w.cell? ⟨b, off, none⟩ = some v := by
  obtain ⟨b, off, e, _, hc⟩ := h (by simp)
  exact ⟨b, off, e, by simpa using hc 0 [v] 0 v rfl rfl⟩

def sh (a : Nat) (r : Bool) : Fr := ⟨a, false, r, 0, ⟨#[]⟩⟩
def lo (N : Nat) : Fr := ⟨N, true, false, 0, ⟨#[]⟩⟩
theorem sh_right {a : Nat} (ha : a < 2048) (r : Bool) : FP.rightB (sh a r) = true := by cases r <;> simp [FP.rightB, sh, ha] <;> rfl
theorem lo_right {a c : Nat} (ha : a < 2048) (hc : c < 262144) : FP.rightB (lo (a * 262144 + c)) = true := by
  have h : a * 262144 + c < 536870912 := by omega
  simp [FP.rightB, lo, h]; rfl
theorem sh_field (a : Nat) (r : Bool) : fieldF (sh a r) = bitsOf a 11 ++ [bitB r, 48] := by simp [fieldF, sh]
theorem lo_field {a c : Nat} (hc : c < 262144) : ∃ t, fieldF (lo (a * 262144 + c)) = bitsOf a 11 ++ ([49, 49] ++ t) := by
  have h := FP.bitsOf_append (a * 262144 + c) 11 18
  have hd : (a * 262144 + c) / 2 ^ 18 = a := by omega
  rw [hd] at h
  refine ⟨(bitsOf (a * 262144 + c) 29).drop 11 ++ [48], ?_⟩
  have ht : (bitsOf (a * 262144 + c) 29).take 11 = bitsOf a 11 := by
    rw [h, List.take_left' (FP.bitsOf_length _ _)]
  simp [fieldF, lo, ht, bitB]
theorem ls_ss {a b : Nat} (ha : a < 2048) (hb : b < 2048) (r s : Bool) : lessB (sh a r) (sh b s) = if a = b then (!r && s) else decide (a < b) := by
  rw [PP.lessB_bl (sh_right ha r) (sh_right hb s), sh_field, sh_field, PP.bl_bits a b 11 (by omega) (by omega)]
  cases r <;> cases s <;> simp [PP.bl, Op.bytesLess, bitB]
theorem ls_sl {a b c : Nat} (ha : a < 2048) (hb : b < 2048) (hc : c < 262144) (r : Bool) : lessB (sh a r) (lo (b * 262144 + c)) = decide (a ≤ b) := by
  obtain ⟨t, ht⟩ := lo_field (a := b) hc
  rw [PP.lessB_bl (sh_right ha r) (lo_right hb hc), sh_field, ht, PP.bl_bits a b 11 (by omega) (by omega)]
  by_cases h : a = b
  · subst h; cases r <;> simp [PP.bl, Op.bytesLess, bitB]
  · rw [if_neg h, decide_eq_decide]; omega
theorem ls_ls {a b c : Nat} (ha : a < 2048) (hb : b < 2048) (hc : c < 262144) (r : Bool) : lessB (lo (a * 262144 + c)) (sh b r) = decide (a < b) := by
  obtain ⟨t, ht⟩ := lo_field (a := a) hc
  rw [PP.lessB_bl (lo_right ha hc) (sh_right hb r), sh_field, ht, PP.bl_bits a b 11 (by omega) (by omega)]
  by_cases h : a = b
  · subst h; cases r <;> simp [PP.bl, Op.bytesLess, bitB]
  · rw [if_neg h]

/-- A frame lies in the block b. -/
def FrB (W : World) (b : Nat) (f : Fr) : Prop := b < W.heap.size ∧ W.cell? ⟨b, 0, none⟩ = some (.int .u32 f.id) ∧ W.cell? ⟨b, 1, none⟩ = some (.bool f.ext) ∧ W.cell? ⟨b, 2, none⟩ = some (.bool f.rem) ∧ W.cell? ⟨b, 3, none⟩ = some (.int .i64 f.dlc) ∧ W.cell? ⟨b, 4, none⟩ = some (.string f.data)
theorem FrB.below {W W' : World} {b : Nat} {f : Fr} (h : FrB W b f) (hb : Below W.heap.size W W') : FrB W' b f :=
  ⟨Nat.lt_of_lt_of_le h.1 hb.size, cellBelow hb h.1 h.2.1, cellBelow hb h.1 h.2.2.1, cellBelow hb h.1 h.2.2.2.1, cellBelow hb h.1 h.2.2.2.2.1, cellBelow hb h.1 h.2.2.2.2.2⟩

theorem orK_low (a c : Nat) (ha : a < 2048) (hc : c < 262144) : bits BinOp.or IntKind.u32 ((a : Int) * 262144) (c : Int) = ((a * 262144 + c : Nat) : Int) := by
  have h : bits BinOp.or IntKind.u32 ((a * 262144 : Nat) : Int) (c : Int) = ((a * 262144 ||| c : Nat) : Int) := Go.u32_or_nat _ _ (by omega) (by omega)
  have e := Nat.two_pow_add_eq_or_of_lt (i := 18) (b := c) (by omega) a
  rw [show ((a : Int) * 262144) = ((a * 262144 : Nat) : Int) by simp, h, show a * 262144 = 2 ^ 18 * a by omega, ← e]

end Go.Proofs.YtpfbobcilphncaaGreatDoor

/- The reference's Head, Field, First, Less. -/
namespace Go.Proofs.YtpfbobcilphncaaGreatDoor
open Go.ChangeShapes Go.WideShapes Go.ChangeAt Go.RowKit
open FP (bit bitsOf Fr bitB idPart dataPart headF)

/-- The head, as far as k bytes. -/
def headK (f : Fr) (k : Nat) : List UInt8 := 48 :: (idPart f ++ (bitB f.rem :: (48 :: 48 :: (bitsOf f.dlc.toNat 4 ++ dataPart (f.data.data.toList.take k)))))
theorem headK_zero (f : Fr) : headK f 0 = 48 :: (idPart f ++ (bitB f.rem :: (48 :: 48 :: bitsOf f.dlc.toNat 4))) := by simp [headK, dataPart]
theorem headK_succ (f : Fr) (k : Nat) (h : k < f.data.size) : headK f (k + 1) = headK f k ++ bitsOf f.data[k].toNat 8 := by
  have hl : f.data.data.toList.length = f.data.size := Array.length_toList
  unfold headK
  rw [List.take_succ_eq_append_getElem (by omega), dataPart_snoc]
  simp
  rfl
theorem headK_len (f : Fr) (k : Nat) : (headK f k).length ≤ 39 + 8 * k := by
  unfold headK idPart
  have : (dataPart (f.data.data.toList.take k)).length ≤ 8 * k := by rw [FP.dataPart_length, List.length_take]; omega
  split <;> simp [FP.bitsOf_length] <;> omega
theorem headK_full (f : Fr) : headK f f.data.size = headF f := by
  have hl : f.data.data.toList.length = f.data.size := Array.length_toList
  unfold headK headF
  rw [List.take_of_length_le (by omega)]

set_option maxRecDepth 100000 in
set_option maxHeartbeats 2000000 in
theorem refHeadA_any (f : Fr) (w : World) (hr : FP.rightB f = true) :
    Calls Tryz.prog 22 #[.agg #[.int .u32 f.id, .bool f.ext, .bool f.rem, .int .i64 f.dlc, .string f.data]] w fun e w' => e = .returned (.string ⟨(headF f).toArray⟩) ∧ Below w.heap.size w w' := by
  have HK0 := hide (headK_zero f)
  have HKS := hide (headK_succ f)
  have HKL := hide (headK_len f)
  have HKF := hide (headK_full f)
  have hb : f.id < 536870912 ∧ 0 ≤ f.dlc ∧ f.dlc ≤ 8 ∧ f.data.size ≤ 8 := by
    simp [FP.rightB] at hr
    obtain ⟨⟨⟨h1, h2⟩, h3⟩, h4⟩ := hr
    refine ⟨by split at h1 <;> omega, h2, h3, by split at h4 <;> omega⟩
  obtain ⟨h1, h2, h3, h4⟩ := hb
  obtain ⟨d, hd⟩ : ∃ d : Nat, f.dlc = d := ⟨f.dlc.toNat, by omega⟩
  have R11 := hide (fun W => refOf_any f.id 11 f.id 11 rfl rfl (by omega) (by omega) W)
  have R29 := hide (fun W => refOf_any f.id 29 f.id 29 rfl rfl (by omega) (by omega) W)
  have R4 := hide (fun W => refOf_any d 4 d 4 rfl rfl (by omega) (by omega) W)
  have R8 := hide (fun (c : UInt8) W => refOf_any c.toNat 8 c.toNat 8 rfl rfl (by have := c.toNat_lt; omega) (by omega) W)
  obtain ⟨id, ext, rem, dlc, data⟩ := f
  dsimp only at *
  subst hd
  have hd9 : d ≤ 8 := by omega
  have q0 : Below w.heap.size w (w.alloc (.cells #[.int .u32 id, .bool ext, .bool rem, .int .i64 d, .string data] 24)) := (Below.refl _ _).alloc (Nat.le_refl _) _
  clear hr h2 h3
  have hs11 : (bitsOf id 11).length ≤ 11 := by rw [FP.bitsOf_length]; omega
  have hs29 : (bitsOf id 29).length ≤ 29 := by rw [FP.bitsOf_length]; omega
  have hs29' : 29 ≤ (bitsOf id 29).length := by rw [FP.bitsOf_length]; omega
  have hs4 : (bitsOf d 4).length ≤ 4 := by rw [FP.bitsOf_length]; omega
  have hs8 : ∀ c : UInt8, (bitsOf c.toNat 8).length ≤ 8 := fun c => by rw [FP.bitsOf_length]; omega
  have HS8 := hide hs8
  clear hs8
  have hx : Hid ((⟨(bitsOf id 29).toArray⟩ : ByteArray).extract 0 11 = ⟨(bitsOf (id / 262144) 11).toArray⟩ ∧ (⟨(bitsOf id 29).toArray⟩ : ByteArray).extract 11 (⟨(bitsOf id 29).toArray⟩ : ByteArray).size = ⟨(bitsOf (id % 262144) 18).toArray⟩) := by
    have e := FP.bitsOf_append id 11 18
    have e2 := FP.bitsOf_mod id 18
    have l1 := FP.bitsOf_length (id / 2 ^ 18) 11
    have l2 := FP.bitsOf_length id 18
    constructor
    · rw [ByteArray.ext_iff]
      simp only [ByteArray.data_extract, e]
      simp [l1]
    · rw [ByteArray.ext_iff]
      simp only [ByteArray.data_extract, e, ByteArray.size]
      simp [l1, l2]
      exact e2.symm
  cases ext
  · cases rem
    all_goals
      go_enter Tryz.func22, Tryz.ntmps22
      go_wp2_with fail
      refine (R11.out _).mono ?_
      rintro e1 w1 ⟨rfl, rfl⟩
      go_wp2_with fail
      refine (R4.out _).mono ?_
      rintro e1 w1 ⟨rfl, rfl⟩
      go_wp2
      go_loop [4, 6] (fun s i => ∃ (k : Nat) (l : List UInt8), k ≤ data.size ∧ i = .int .i64 k ∧ s = .string ⟨l.toArray⟩ ∧ l.length ≤ 39 + 8 * k ∧ Hid (l = headK _ k)) (fun _ i => data.size - (intOf i).toNat)
      case atStart => exact ⟨0, _, by omega, rfl, by rw [HK0.out]; simp [idPart, bitB, ByteArray.ext_iff], HKL.out 0, rfl⟩
      case round =>
        obtain ⟨k, l, hk, rfl, rfl, hl, HL⟩ := hrel
        by_cases hlt : k < data.size
        · have h8 := HS8.out data[k]
          have hw8 : IntKind.u64.wrap (data[k].toNat : Int) = (data[k].toNat : Int) := IntWalk.u64_in _ (by have := data[k].toNat_lt; omega)
          have E := hide (HKS.out k hlt)
          have L := hide (HKL.out (k + 1))
          go_wp2_with fail
          (with_reducible refine (R8.out data[k] _).mono ?_)
          rintro e1 w1 ⟨rfl, rfl⟩
          go_wp2
          go_round
          case rel => exact ⟨k + 1, _, by omega, by go_num, by rw [E.out, ← HL.out]; simp [ByteArray.ext_iff], L.out, rfl⟩
          case measure => simp [intOf]; omega
        · obtain rfl : k = data.size := by omega
          have E := hide (HL.out.trans HKF.out)
          go_wp2
          go_ret
          exact ⟨by rw [← E.out]; rfl, q0⟩
  · have hsz : (⟨(bitsOf id 29).toArray⟩ : ByteArray).size = 29 := by simp [ByteArray.size, FP.bitsOf_length]
    have HX := hide hx.out
    rw [hsz] at HX
    generalize (⟨(bitsOf id 29).toArray⟩ : ByteArray) = S at *
    have h11 : (11 : Int) ≤ (S.size : Int) := by omega
    have h11' : 11 ≤ S.size := by omega
    have h29 : S.size ≤ 29 := by omega
    have hx1 : S.extract 11 S.size = S.extract 11 29 := by rw [hsz]
    have y1 : (S.extract 0 11).size ≤ 29 := by rw [ByteArray.size_extract]; omega
    have y2 : (S.extract 11 29).size ≤ 29 := by rw [ByteArray.size_extract]; omega
    generalize S.extract 11 29 = T2 at *
    obtain ⟨T1, hT1⟩ : ∃ T, S.extract 0 11 = T := ⟨_, rfl⟩
    rw [hT1] at y1 HX
    clear hsz hx
    cases rem
    all_goals
      go_enter Tryz.func22, Tryz.ntmps22
      go_wp2_with fail
      refine (R11.out _).mono ?_
      rintro e1 w1 ⟨rfl, rfl⟩
      go_wp2_with fail
      refine (R29.out _).mono ?_
      rintro e1 w1 ⟨rfl, rfl⟩
      go_wp2_with fail
      go_quiet (fail)
      go_wp2_with fail
      refine (R4.out _).mono ?_
      rintro e1 w1 ⟨rfl, rfl⟩
      go_wp2
      go_loop [4, 6] (fun s i => ∃ (k : Nat) (l : List UInt8), k ≤ data.size ∧ i = .int .i64 k ∧ s = .string ⟨l.toArray⟩ ∧ l.length ≤ 39 + 8 * k ∧ Hid (l = headK _ k)) (fun _ i => data.size - (intOf i).toNat)
      case atStart => exact ⟨0, _, by omega, rfl, by rw [HK0.out, HX.out.1, HX.out.2]; simp [idPart, bitB, ByteArray.ext_iff], HKL.out 0, rfl⟩
      case round =>
        obtain ⟨k, l, hk, rfl, rfl, hl, HL⟩ := hrel
        by_cases hlt : k < data.size
        · have h8 := HS8.out data[k]
          have hw8 : IntKind.u64.wrap (data[k].toNat : Int) = (data[k].toNat : Int) := IntWalk.u64_in _ (by have := data[k].toNat_lt; omega)
          have E := hide (HKS.out k hlt)
          have L := hide (HKL.out (k + 1))
          go_wp2_with fail
          (with_reducible refine (R8.out data[k] _).mono ?_)
          rintro e1 w1 ⟨rfl, rfl⟩
          go_wp2
          go_round
          case rel => exact ⟨k + 1, _, by omega, by go_num, by rw [E.out, ← HL.out]; simp [ByteArray.ext_iff], L.out, rfl⟩
          case measure => simp [intOf]; omega
        · obtain rfl : k = data.size := by omega
          have E := hide (HL.out.trans HKF.out)
          go_wp2
          go_ret
          exact ⟨by rw [← E.out]; rfl, below_drewN q0 _⟩
end Go.Proofs.YtpfbobcilphncaaGreatDoor
