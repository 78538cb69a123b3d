/- The walks of bits.Number and frame.Size. -/
import Derived.Test.YtkfedgjepiljiaaDoorStB
import Derived.Test.YtkfedgjepiljiaaDoorRdQ
import Derived.Test.YtkfedgjepiljiaaDoorMgCrA
import Derived.Test.YtkfedgjepiljiaaDoorMgPrK
import Derived.Test.YtkfedgjepiljiaaDoorOwS
import Derived.Lib.FrozenHead
import Derived.Lib.FrozenHead2
namespace Go.Proofs.YtkfedgjepiljiaaDoor
open Go.ChangeShapes Go.WideShapes Go.ChangeAt Go.RowKit
open FP (bit bitsOf numOf Fr sizeE sizeV fxN dlN)

theorem or_low (v : Nat) (hv : v < 4611686018427387904) : bits .or .u64 ((v : Int) * 2) 0 = ((2 * v : Nat) : Int) ∧ bits .or .u64 ((v : Int) * 2) 1 = ((2 * v + 1 : Nat) : Int) := by
  have e : ((v : Int) * 2) = ((2 * v : Nat) : Int) := by omega
  rw [e]
  have h0 := u64_or_nat (2 * v) 0 (by omega) (by omega)
  have h1 := u64_or_nat (2 * v) 1 (by omega) (by omega)
  rw [Nat.or_zero] at h0
  rw [nat_join 1 (2 * v) 1 (by omega) (by omega)] at h1
  exact ⟨h0, h1⟩

set_option maxRecDepth 100000 in
set_option maxHeartbeats 1000000 in
theorem bitsNumber_any (s : ByteArray) (w : World) (hb : ∀ c ∈ s.data.toList, c = 48 ∨ c = 49) (hs : s.size ≤ 62) :
    Calls Tryd.prog 54 #[.string s] w fun e w' => e = .returned (.tuple #[.int .u64 (numOf s.data.toList : Nat), .int .i64 0]) ∧ Below w.heap.size w w' := by
  have LS := hide (show s.data.toList.length = s.size from Array.length_toList)
  have RT := hide (fun W => bitsRight_any s W (by unfold maxLen; omega))
  have R : bitRow s.data.toList = true := bitRow_iff.2 ⟨by rw [LS.out]; omega, hb⟩
  rw [R] at RT
  have BT := hide (fun j (hj : j < s.size) => show s[j] = 48 ∨ s[j] = 49 from hb _ (List.getElem_mem (l := s.data.toList) (by rw [LS.out]; exact hj)))
  clear R hb
  go_enter Tryd.func54, Tryd.ntmps54
  go_wp2_with fail
  refine (RT.out _).mono ?_
  rintro e1 w1 ⟨rfl, q1⟩
  go_wp2_with fail
  go_loop [4, 16] (fun m i => ∃ (j v : Nat), j ≤ s.size ∧ i = .int .i64 j ∧ m = .int .u64 v ∧ Hid (v = numOf (s.data.toList.take j))) (fun _ i => s.size - (intOf i).toNat)
  case atStart => exact ⟨0, 0, Nat.zero_le _, rfl, rfl, by simp [Hid, FP.numOf]⟩
  case round =>
    obtain ⟨j, v, hj, rfl, rfl, H⟩ := hrel
    by_cases hlt : j < s.size
    · have hv : v < 2 ^ 62 := by
        have h1 := H.out
        have h2 := FP.numOf_lt (s.data.toList.take j)
        have h3 : (s.data.toList.take j).length ≤ 61 := by rw [List.length_take]; omega
        have h4 := Nat.pow_le_pow_right (n := 2) (by omega) h3
        omega
      have hE := hide (show numOf (s.data.toList.take (j + 1)) = 2 * v + (if s[j] = 49 then 1 else 0) by
        rw [List.take_succ_eq_append_getElem (by rw [LS.out]; exact hlt), FP.numOf_snoc, H.out]; rfl)
      rw [show (2 : Nat) ^ 62 = 4611686018427387904 by decide] at hv
      obtain ⟨o0, o1⟩ := or_low v hv
      rcases BT.out j hlt with hc | hc
      · have hE' := hide (show numOf (s.data.toList.take (j + 1)) = 2 * v by rw [hE.out, hc]; rfl)
        clear hE o1
        go_wp2_with fail
        go_round
        case rel => exact ⟨j + 1, 2 * v, by omega, by go_num, by simp, hE'.out.symm⟩
        case measure => simp [intOf]; omega
      · have hE' := hide (show numOf (s.data.toList.take (j + 1)) = 2 * v + 1 by rw [hE.out, hc]; rfl)
        clear hE o0
        go_wp2_with fail
        go_round
        case rel => exact ⟨j + 1, 2 * v + 1, by omega, by go_num, by simp, hE'.out.symm⟩
        case measure => simp [intOf]; omega
    · have hE := hide (show v = numOf s.data.toList by rw [H.out, List.take_of_length_le (by rw [LS.out]; omega)])
      go_wp2_with fail
      go_ret2
      exact ⟨by rw [← hE.out]; rfl, q1⟩

theorem toList_extract (s : ByteArray) (a b : Nat) : (s.extract a b).data.toList = s.data.toList.extract a b := by
  rw [ByteArray.data_extract]; simp
theorem get_some (s : ByteArray) (j : Nat) (h : j < s.size) : s.data.toList[j]? = some s[j] := by
  rw [List.getElem?_eq_getElem (by simpa using h)]; rfl
theorem bit_eq {c : UInt8} (h : c = 48 ∨ c = 49) : ((c.toNat : Int) == 49) = decide (some c = some 49) := by
  rcases h with rfl | rfl <;> decide
theorem extract_bits {s : ByteArray} (hb : ∀ c ∈ s.data.toList, c = 48 ∨ c = 49) (a b : Nat) : ∀ c ∈ (s.extract a b).data.toList, c = 48 ∨ c = 49 := by
  intro c hc
  rw [toList_extract, List.extract_eq_take_drop] at hc
  exact hb c (List.mem_of_mem_drop (List.mem_of_mem_take hc))

set_option maxRecDepth 100000 in
set_option maxHeartbeats 1000000 in
theorem frSize_no (s : ByteArray) (w : World) (hs : s.size ≤ maxLen) (hR : bitRow s.data.toList = false) :
    Calls Tryd.prog 41 #[.string s] w fun e w' => e = .returned (.tuple #[.int .i64 0, .int .i64 1]) ∧ Below w.heap.size w w' := by
  have RT := hide (fun W => bitsRight_any s W hs)
  rw [hR] at RT
  clear hR hs
  go_enter Tryd.func41, Tryd.ntmps41
  go_wp2_with fail
  refine (RT.out _).mono ?_
  rintro e1 w1 ⟨rfl, q1⟩
  go_wp2_with fail
  go_ret2
  exact ⟨rfl, q1⟩

set_option maxRecDepth 100000 in
set_option maxHeartbeats 4000000 in
theorem frSize_any (s : ByteArray) (w : World) (hb : ∀ c ∈ s.data.toList, c = 48 ∨ c = 49) (hs : s.size ≤ 4000) :
    Calls Tryd.prog 41 #[.string s] w fun e w' => e = .returned (.tuple #[.int .i64 (sizeV s.data.toList : Nat), .int .i64 (sizeE s.data.toList : Nat)]) ∧ Below w.heap.size w w' := by
  have LS := hide (show s.data.toList.length = s.size from Array.length_toList)
  have RT := hide (fun W => bitsRight_any s W (by unfold maxLen; omega))
  have R : bitRow s.data.toList = true := bitRow_iff.2 ⟨by rw [LS.out]; omega, hb⟩
  rw [R] at RT
  have BT := hide (fun j (hj : j < s.size) => show s[j] = 48 ∨ s[j] = 49 from hb _ (List.getElem_mem (l := s.data.toList) (by rw [LS.out]; exact hj)))
  have NB := hide (fun a b (h : b ≤ s.size) (h2 : b ≤ a + 60) W => bitsNumber_any (s.extract a b) W (extract_bits hb a b) (by rw [ByteArray.size_extract]; omega))
  have GS := hide (fun j (h : j < s.size) => get_some s j h)
  have SE := hide (show sizeE s.data.toList = if s.data.toList.length < 14 then 3 else if s.data.toList.length < fxN s.data.toList then 3 else if 8 < dlN s.data.toList then 12 else 0 from rfl)
  have SV := hide (show sizeV s.data.toList = if sizeE s.data.toList = 0 then fxN s.data.toList + 8 * (if s.data.toList[fxN s.data.toList - 7]? = some 49 then 0 else dlN s.data.toList) else 0 from rfl)
  have FX := hide (show fxN s.data.toList = if s.data.toList[13]? = some 49 then 39 else 19 from rfl)
  have DL := hide (show dlN s.data.toList = numOf (s.data.toList.extract (fxN s.data.toList - 4) (fxN s.data.toList)) from rfl)
  generalize sizeE s.data.toList = se at *
  generalize sizeV s.data.toList = sv at *
  generalize fxN s.data.toList = fx at *
  generalize dlN s.data.toList = dl at *
  rw [LS.out] at SE
  clear R hb
  by_cases h14 : s.size < 14
  · have e1 := SE.out
    rw [if_pos h14] at e1
    have e2 := SV.out
    rw [e1, if_neg (by omega)] at e2
    rw [e1, e2]
    clear SE SV FX DL NB GS BT e1 e2
    go_enter Tryd.func41, Tryd.ntmps41
    go_wp2_with fail
    refine (RT.out _).mono ?_
    rintro e1 w1 ⟨rfl, q1⟩
    go_wp2_with fail
    go_ret2
    exact ⟨rfl, q1⟩
  · have h14' : 13 < s.size := by omega
    have E := SE.out
    rw [if_neg h14] at E
    replace SE := hide E
    clear E
    have g13 := GS.out 13 h14'
    have b13 := bit_eq (BT.out 13 h14')
    rw [← g13] at b13
    by_cases hx : s.data.toList[13]? = some 49
    · have hfx := FX.out
      rw [if_pos hx] at hfx
      subst hfx
      rw [decide_eq_true hx] at b13
      clear g13 hx FX
      by_cases hK : s.size < 39
      · have e1 := SE.out
        rw [if_pos hK] at e1
        have e2 := SV.out
        rw [e1, if_neg (by omega)] at e2
        rw [e1, e2]
        clear SE SV DL NB GS BT e1 e2
        go_enter Tryd.func41, Tryd.ntmps41
        go_wp2_with fail
        refine (RT.out _).mono ?_
        rintro e1 w1 ⟨rfl, q1⟩
        go_wp2_with fail
        go_ret2
        exact ⟨rfl, q1⟩
      · have hK' : 39 ≤ s.size := by omega
        have E := SE.out
        rw [if_neg hK] at E
        replace SE := hide E
        clear E
        have N1 := hide (NB.out 35 39 (by omega) (by omega))
        rw [toList_extract] at N1
        have D2 : dl = numOf (s.data.toList.extract 35 39) := DL.out
        rw [← D2] at N1
        have hdl : dl < 16 := by
          have h := FP.numOf_lt (s.data.toList.extract 35 39)
          rw [← D2] at h
          have h2 : (s.data.toList.extract 35 39).length ≤ 4 := by rw [List.extract_eq_take_drop, List.length_take]; omega
          have h3 := Nat.pow_le_pow_right (n := 2) (by omega) h2
          omega
        have bA := bit_eq (BT.out 32 (by omega))
        have gA := GS.out 32 (by omega)
        rw [← gA] at bA
        clear NB BT GS DL D2 gA
        by_cases h8 : 8 < dl
        · have e1 := SE.out
          rw [if_pos h8] at e1
          have e2 := SV.out
          rw [e1, if_neg (by omega)] at e2
          rw [e1, e2]
          clear SE SV e1 e2 bA
          go_enter Tryd.func41, Tryd.ntmps41
          go_wp2_with fail
          refine (RT.out _).mono ?_
          rintro e1 w1 ⟨rfl, q1⟩
          go_wp2_with fail
          refine (N1.out _).mono ?_
          rintro e2 w2 ⟨rfl, q2⟩
          have Q2 := hide (below_next q1 q1.size q2)
          clear q1 q2
          go_wp2_with fail
          go_ret2
          exact ⟨rfl, Q2.out⟩
        · have e1 := SE.out
          rw [if_neg h8] at e1
          have e2 := SV.out
          rw [e1, if_pos rfl] at e2
          rw [e1]
          have e2' : sv = 39 + 8 * (if s.data.toList[32]? = some 49 then 0 else dl) := e2
          clear SE SV e2
          by_cases hA : s.data.toList[32]? = some 49
          · rw [if_pos hA] at e2'
            rw [decide_eq_true hA] at bA
            rw [e2']
            clear e2' e1 hA
            go_enter Tryd.func41, Tryd.ntmps41
            go_wp2_with fail
            refine (RT.out _).mono ?_
            rintro e1 w1 ⟨rfl, q1⟩
            go_wp2_with fail
            refine (N1.out _).mono ?_
            rintro e2 w2 ⟨rfl, q2⟩
            have Q2 := hide (below_next q1 q1.size q2)
            clear q1 q2
            go_wp2_with fail
            go_ret2
            exact ⟨rfl, Q2.out⟩
          · rw [if_neg hA] at e2'
            rw [decide_eq_false hA] at bA
            rw [e2']
            clear e2' e1 hA
            go_enter Tryd.func41, Tryd.ntmps41
            go_wp2_with fail
            refine (RT.out _).mono ?_
            rintro e1 w1 ⟨rfl, q1⟩
            go_wp2_with fail
            refine (N1.out _).mono ?_
            rintro e2 w2 ⟨rfl, q2⟩
            have Q2 := hide (below_next q1 q1.size q2)
            clear q1 q2
            go_wp2_with fail
            go_ret2
            exact ⟨by simp, Q2.out⟩
    · have hfx := FX.out
      rw [if_neg hx] at hfx
      subst hfx
      rw [decide_eq_false hx] at b13
      clear g13 hx FX
      by_cases hK : s.size < 19
      · have e1 := SE.out
        rw [if_pos hK] at e1
        have e2 := SV.out
        rw [e1, if_neg (by omega)] at e2
        rw [e1, e2]
        clear SE SV DL NB GS BT e1 e2
        go_enter Tryd.func41, Tryd.ntmps41
        go_wp2_with fail
        refine (RT.out _).mono ?_
        rintro e1 w1 ⟨rfl, q1⟩
        go_wp2_with fail
        go_ret2
        exact ⟨rfl, q1⟩
      · have hK' : 19 ≤ s.size := by omega
        have E := SE.out
        rw [if_neg hK] at E
        replace SE := hide E
        clear E
        have N1 := hide (NB.out 15 19 (by omega) (by omega))
        rw [toList_extract] at N1
        have D2 : dl = numOf (s.data.toList.extract 15 19) := DL.out
        rw [← D2] at N1
        have hdl : dl < 16 := by
          have h := FP.numOf_lt (s.data.toList.extract 15 19)
          rw [← D2] at h
          have h2 : (s.data.toList.extract 15 19).length ≤ 4 := by rw [List.extract_eq_take_drop, List.length_take]; omega
          have h3 := Nat.pow_le_pow_right (n := 2) (by omega) h2
          omega
        have bA := bit_eq (BT.out 12 (by omega))
        have gA := GS.out 12 (by omega)
        rw [← gA] at bA
        clear NB BT GS DL D2 gA
        by_cases h8 : 8 < dl
        · have e1 := SE.out
          rw [if_pos h8] at e1
          have e2 := SV.out
          rw [e1, if_neg (by omega)] at e2
          rw [e1, e2]
          clear SE SV e1 e2 bA
          go_enter Tryd.func41, Tryd.ntmps41
          go_wp2_with fail
          refine (RT.out _).mono ?_
          rintro e1 w1 ⟨rfl, q1⟩
          go_wp2_with fail
          refine (N1.out _).mono ?_
          rintro e2 w2 ⟨rfl, q2⟩
          have Q2 := hide (below_next q1 q1.size q2)
          clear q1 q2
          go_wp2_with fail
          go_ret2
          exact ⟨rfl, Q2.out⟩
        · have e1 := SE.out
          rw [if_neg h8] at e1
          have e2 := SV.out
          rw [e1, if_pos rfl] at e2
          rw [e1]
          have e2' : sv = 19 + 8 * (if s.data.toList[12]? = some 49 then 0 else dl) := e2
          clear SE SV e2
          by_cases hA : s.data.toList[12]? = some 49
          · rw [if_pos hA] at e2'
            rw [decide_eq_true hA] at bA
            rw [e2']
            clear e2' e1 hA
            go_enter Tryd.func41, Tryd.ntmps41
            go_wp2_with fail
            refine (RT.out _).mono ?_
            rintro e1 w1 ⟨rfl, q1⟩
            go_wp2_with fail
            refine (N1.out _).mono ?_
            rintro e2 w2 ⟨rfl, q2⟩
            have Q2 := hide (below_next q1 q1.size q2)
            clear q1 q2
            go_wp2_with fail
            go_ret2
            exact ⟨rfl, Q2.out⟩
          · rw [if_neg hA] at e2'
            rw [decide_eq_false hA] at bA
            rw [e2']
            clear e2' e1 hA
            go_enter Tryd.func41, Tryd.ntmps41
            go_wp2_with fail
            refine (RT.out _).mono ?_
            rintro e1 w1 ⟨rfl, q1⟩
            go_wp2_with fail
            refine (N1.out _).mono ?_
            rintro e2 w2 ⟨rfl, q2⟩
            have Q2 := hide (below_next q1 q1.size q2)
            clear q1 q2
            go_wp2_with fail
            go_ret2
            exact ⟨by simp, Q2.out⟩
end Go.Proofs.YtkfedgjepiljiaaDoor

/- The walks of frame.Bits and of the reference's Head, Sum and Bits. -/
namespace Go.Proofs.YtkfedgjepiljiaaDoor
open Go.ChangeShapes Go.WideShapes Go.ChangeAt Go.RowKit
open FP (bit bitsOf Fr bitB idPart dataPart headF crcOf stuffF sumF bitsF tenF)

def bitsV (f : Fr) : ByteArray := if FP.rightB f then ⟨(bitsF f).toArray⟩ else ⟨#[]⟩

set_option maxRecDepth 100000 in
set_option maxHeartbeats 1000000 in
theorem frBits_any (f : Fr) (w : World) (hid : f.id < 4294967296) :
    Calls Tryd.prog 46 #[.agg #[.int .u32 f.id, .bool f.ext, .bool f.rem, .int .i64 f.dlc, .string f.data]] w fun e w' => e = .returned (.tuple #[.string (bitsV f), .int .i64 (headE f)]) ∧ Below w.heap.size w w' := by
  have RT := hide (fun W => frRight_any f W hid)
  have q0 : Below w.heap.size w (w.alloc (.cells #[.int .u32 f.id, .bool f.ext, .bool f.rem, .int .i64 f.dlc, .string f.data] 24)) := (Below.refl _ _).alloc (Nat.le_refl _) _
  have B0 := hide (World.alloc_heap_new w (.cells #[.int .u32 f.id, .bool f.ext, .bool f.rem, .int .i64 f.dlc, .string f.data] 24))
  cases hr : FP.rightB f with
  | false =>
    have V : bitsV f = ⟨#[]⟩ := by unfold bitsV; rw [hr]; rfl
    have E : headE f = 1 := by unfold headE; rw [hr]; rfl
    rw [V, E]
    rw [hr] at RT
    clear V E hr B0
    obtain ⟨id, ext, rem, dlc, data⟩ := f
    dsimp only at *
    go_enter Tryd.func46, Tryd.ntmps46
    go_wp2_with fail
    refine (RT.out _).mono ?_
    rintro e1 w1 ⟨rfl, q1⟩
    go_wp2_with fail
    go_ret2
    exact ⟨rfl, below_next q0 q0.size q1⟩
  | true =>
    have V : bitsV f = ⟨(stuffF (sumF (headF f)) ++ [49, 49, 49, 49, 49, 49, 49, 49, 49, 49]).toArray⟩ := by unfold bitsV; rw [hr]; rfl
    have E : headE f = 0 := by unfold headE; rw [hr]; rfl
    have hL := FP.head_le hr
    have HD := hide (fun W => head_any f W hr)
    have CF := hide (fun W => crcFrame_any ⟨(headF f).toArray⟩ W (bitRow_iff.2 ⟨by rw [toList_of]; omega, FP.head_bits f⟩) (by rw [size_of]; omega))
    have SF := hide (fun W => stuff_any ⟨(sumF (headF f)).toArray⟩ W (bitRow_iff.2 ⟨by rw [toList_of, FP.sum_length]; omega, FP.sum_bits (FP.head_bits f)⟩) (by rw [size_of, FP.sum_length]; omega) (by rw [size_of, FP.sum_length]; omega))
    rw [toList_of] at CF SF
    have hB := FP.bits_len hr
    have hs := size_of (stuffF (sumF (headF f)))
    have V2 : bitsV f = ⟨(stuffF (sumF (headF f))).toArray⟩ ++ ⟨#[49, 49, 49, 49, 49, 49, 49, 49, 49, 49]⟩ := by rw [V, ← str_app]
    have hsz : (⟨(stuffF (sumF (headF f))).toArray⟩ : ByteArray).size ≤ 1000 := by omega
    rw [V2, E]
    rw [hr] at RT
    clear V V2 E hr hL hB hs
    generalize (⟨(stuffF (sumF (headF f))).toArray⟩ : ByteArray) = t at *
    generalize sumF (headF f) = t2 at *
    generalize headF f = t1 at *
    obtain ⟨id, ext, rem, dlc, data⟩ := f
    dsimp only at *
    go_enter Tryd.func46, Tryd.ntmps46
    go_wp2_with fail
    refine (RT.out _).mono ?_
    rintro e1 w1 ⟨rfl, q1⟩
    have Q1 := hide (below_next q0 q0.size q1)
    have B1 := hide (heap_below B0.out q1)
    have l0 : w1.cell? ⟨w.heap.size, 0, none⟩ = some (.int .u32 id) := by have := B1.out; simp [World.cell?, this]
    have l1 : w1.cell? ⟨w.heap.size, 1, none⟩ = some (.bool ext) := by have := B1.out; simp [World.cell?, this]
    have l2 : w1.cell? ⟨w.heap.size, 2, none⟩ = some (.bool rem) := by have := B1.out; simp [World.cell?, this]
    have l3 : w1.cell? ⟨w.heap.size, 3, none⟩ = some (.int .i64 dlc) := by have := B1.out; simp [World.cell?, this]
    have l4 : w1.cell? ⟨w.heap.size, 4, none⟩ = some (.string data) := by have := B1.out; simp [World.cell?, this]
    clear B0 q0 q1 B1
    go_wp2_with fail
    refine (HD.out _).mono ?_
    rintro e2 w2 ⟨rfl, q2⟩
    have Q2 := hide (below_next Q1.out Q1.out.size q2)
    clear q2 l0 l1 l2 l3 l4
    go_wp2_with fail
    refine (CF.out _).mono ?_
    rintro e3 w3 ⟨rfl, q3⟩
    have Q3 := hide (below_next Q2.out Q2.out.size q3)
    clear q3
    go_wp2_with fail
    refine (SF.out _).mono ?_
    rintro e4 w4 ⟨rfl, q4⟩
    have Q4 := hide (below_next Q3.out Q3.out.size q4)
    clear q4
    go_wp2_with fail
    go_ret2
    exact ⟨rfl, Q4.out⟩
end Go.Proofs.YtkfedgjepiljiaaDoor

/- The walk of FrameBits. -/
namespace Go.Proofs.YtkfedgjepiljiaaDoor
open Go.ChangeShapes Go.WideShapes Go.ChangeAt Go.RowKit
open FP (bit bitsOf Fr bitB idPart dataPart headF bitsF)

/-- A frame's block, read. -/
theorem frCells {W : World} {b : Nat} {id : Nat} {ext rem : Bool} {dlc : Int} {data : ByteArray} (h : W.heap[b]? = some (.cells #[.int .u32 id, .bool ext, .bool rem, .int .i64 dlc, .string data] 24 (0, 0))) :
    W.cell? ⟨b, 0, none⟩ = some (.int .u32 id) ∧ W.cell? ⟨b, 1, none⟩ = some (.bool ext) ∧ W.cell? ⟨b, 2, none⟩ = some (.bool rem) ∧ W.cell? ⟨b, 3, none⟩ = some (.int .i64 dlc) ∧ W.cell? ⟨b, 4, none⟩ = some (.string data) :=
  ⟨by simp [World.cell?, h], by simp [World.cell?, h], by simp [World.cell?, h], by simp [World.cell?, h], by simp [World.cell?, h]⟩

theorem frThere {W : World} {b : Nat} {id : Nat} {ext rem : Bool} {dlc : Int} {data : ByteArray} (h : W.heap[b]? = some (.cells #[.int .u32 id, .bool ext, .bool rem, .int .i64 dlc, .string data] 24 (0, 0))) : W.there b 0 5 :=
  there_heap (cs := [.int .u32 id, .bool ext, .bool rem, .int .i64 dlc, .string data]) h

end Go.Proofs.YtkfedgjepiljiaaDoor

/- strings.Builder that String() may have read: Len, WriteByte, String, in a block of whatever type begins with one. -/
namespace Go.Proofs.YtkfedgjepiljiaaDoor
open Go.ChangeShapes Go.WideShapes Go.ChangeAt Go.RowKit

theorem ccF_any (t b B : Nat) (ht : BT t) (bs : List Value) (w : World) (h : Lib.IsBuilderF t 5 B b bs w) :
    Calls Tryd.prog 87 #[.pointer (some ⟨b, 0, none⟩)] w fun e w' => e = .returned (.tuple #[]) ∧ Lib.BuilderAtF t 5 B b (.pointer (some ⟨b, 0, none⟩)) bs w' ∧ Below B w w' ∧ w.grownBy w' (some b) := by
  rcases h with h | h
  · exact (cc_fresh t b ht w h.cell0 h.shape h.frozen0).mono fun _ _ ⟨a, c⟩ => by
      subst c
      exact ⟨a, h.used _, (Below.refl B w).setCell (p := ⟨b, 0, none⟩) h.1 _, ⟨rfl, rfl, rfl, by simp [World.setCell], fun k _ hk => Below.heap_setCell _ _ _ _ (fun e => hk (by simp [e]))⟩⟩
  · exact (cc_used b w h.cell0).mono fun _ _ ⟨a, c⟩ => by subst c; exact ⟨a, h, Below.refl B _, grownBy_refl _ _⟩

set_option maxRecDepth 100000 in
set_option maxHeartbeats 400000 in
theorem blenF_any (t b B : Nat) (l : List UInt8) (w : World) (h : Lib.IsBuilderF t 5 B b (Lib.byteCells l) w) :
    Calls Tryd.prog 119 #[.pointer (some ⟨b, 0, none⟩)] w fun e w' => e = .returned (.int .i64 l.length) ∧ w = w' := by
  obtain ⟨p, v, hbk, hown⟩ : ∃ p v, w.heap[b]? = some (.cells #[p, v] t (0, 0)) ∧ w.ownsRowF B 5 1 v (Lib.byteCells l).length (Lib.byteCells l) := by
    rcases h with ⟨_, v, hbk, hown, _⟩ | ⟨_, v, hbk, hown, _⟩
    · exact ⟨_, v, hbk, hown⟩
    · exact ⟨_, v, hbk, hown⟩
  rw [Lib.byteCells_length] at hown
  obtain ⟨ao, cap, rfl⟩ : ∃ ao cap, v = .slice ao l.length cap := by
    rcases hown.2 with ⟨hv, h0⟩ | ⟨g, cap, cur, fz, hv, _⟩
    · exact ⟨none, 0, by rw [h0]; exact hv⟩
    · exact ⟨_, cap, hv⟩
  have c1 : w.cell? ⟨b, 1, none⟩ = some (.slice ao l.length cap) := by rw [Lib.cell_of_heap hbk]; rfl
  clear h hbk hown
  go_enter Tryd.func119, Tryd.ntmps119
  go_wp2
  go_ret
  exact ⟨rfl, rfl⟩

set_option maxRecDepth 100000 in
set_option maxHeartbeats 1000000 in
theorem bstrF_any (t b B : Nat) (l : List UInt8) (w : World) (h : Lib.IsBuilderF t 5 B b (Lib.byteCells l) w) (h0 : l ≠ []) :
    Calls Tryd.prog 76 #[.pointer (some ⟨b, 0, none⟩)] w fun e w' => e = .returned (.string ⟨l.toArray⟩) ∧ Lib.IsBuilderF t 5 B b (Lib.byteCells l) w' ∧ Below B w w' := by
  obtain ⟨p, hp, hAt⟩ : ∃ p, (p = .pointer none ∨ p = .pointer (some ⟨b, 0, none⟩)) ∧ Lib.BuilderAtF t 5 B b p (Lib.byteCells l) w := by
    rcases h with h | h
    · exact ⟨_, .inl rfl, h⟩
    · exact ⟨_, .inr rfl, h⟩
  obtain ⟨hB, v, hbk, hown, hne⟩ := hAt
  have hl0 : l.length ≠ 0 := by simpa using h0
  rw [Lib.byteCells_length] at hown
  obtain ⟨g, cap, cur, fz, rfl, hbg, hg, hfz, hnc, hcm, hcs, htake⟩ : ∃ g cap cur fz, v = .slice (some ⟨g, 0, none⟩) l.length cap ∧ B ≤ g ∧ w.heap[g]? = some (.cells cur 5 fz) ∧ fz.2 ≤ l.length * 1 ∧ l.length ≤ cap ∧ cap ≤ maxLen ∧ cur.size = cap * 1 ∧ cur.toList.take (l.length * 1) = Lib.byteCells l := by
    rcases hown.2 with ⟨_, hz⟩ | ⟨g, cap, cur, fz, hv, r⟩
    · exact absurd hz hl0
    · exact ⟨g, cap, cur, fz, hv, r⟩
  have c1 : w.drew.cell? ⟨b, 1, none⟩ = some (.slice (some ⟨g, 0, none⟩) l.length cap) := by
    have : w.drew.heap[b]? = some (.cells #[p, .slice (some ⟨g, 0, none⟩) l.length cap] t (0, 0)) := hbk
    rw [Lib.cell_of_heap this]; rfl
  have hSD : (Builtin.unsafeSliceData_ #[108] 150 #[.slice (some ⟨g, 0, none⟩) l.length cap]).run Tryd.prog w.drew = .ok (.pointer (some ⟨g, 0, none⟩)) w.drew :=
    Lib.run_unsafeSliceData_row _ _ _ _ _ _ (by omega)
  have hUS : (Builtin.unsafeString_ #[150, 3] 9 #[.pointer (some ⟨g, 0, none⟩), .int .i64 l.length]).run Tryd.prog w.drew = .ok (.string ⟨l.toArray⟩) (w.drew.freeze ⟨g, 0, none⟩ l.length) := by
    refine Lib.run_unsafeString_row w.drew 150 3 9 5 Tryd.underlying150 (by kernel_rfl) g cur.size (by have hg' : w.drew.heap[g]? = some (.cells cur 5 fz) := hg; simp [World.shape?, hg']) l h0 (by omega) (by unfold maxLen at hcm; omega) ?_
    intro j x hx
    have := hown.cells (g := g) rfl j (.int .u8 x.toNat) (by simp [Lib.byteCells, hx])
    exact this
  have hkeep : Lib.IsBuilderF t 5 B b (Lib.byteCells l) (w.drew.freeze ⟨g, 0, none⟩ l.length) := by
    have hA : Lib.BuilderAtF t 5 B b p (Lib.byteCells l) w.drew := ⟨hB, _, hbk, by rw [Lib.byteCells_length]; exact hown, hne⟩
    have hF := hA.froze (g := g) (cap := cap) (by rw [Lib.byteCells_length]; exact c1)
    rw [Lib.byteCells_length] at hF
    rcases hp with rfl | rfl
    · exact .inl hF
    · exact .inr hF
  have HKP := hide hkeep
  clear hkeep hown hbk hg hcs hcm hnc hfz htake hl0 h0 h
  go_enter Tryd.func76, Tryd.ntmps76
  go_wp2
  go_region
  all_goals
    go_wp2
    go_ret
    exact ⟨rfl, HKP.out, Lib.below_freeze (Below.drew (Below.refl B w)) (p := ⟨g, 0, none⟩) hbg _⟩

theorem bldAtF_keep {t e B b : Nat} {p : Value} {bs : List Value} {w w' : World} {row : Option Nat} (h : Lib.BuilderAtF t e B b p bs w) (hg : w.grownBy w' row) (hr : ∀ k, row = some k → k < B) : Lib.BuilderAtF t e B b p bs w' := by
  have hlt := h.lt
  obtain ⟨hB, v, hbk, hown, hne⟩ := h
  refine ⟨hB, v, (hg.block b hlt (fun e => by have := hr b e.symm; omega)).trans hbk, hown.kept hg ?_, hne⟩
  cases hv : v.ownBlock with
  | none => exact .inl rfl
  | some k =>
    right
    intro e
    have h1 := hr k e.symm
    have h2 := (hown.lt k hv).1
    omega
/-- A builder is kept where only blocks below it were written, or new ones laid. -/
theorem bldF_keep {t e B b : Nat} {bs : List Value} {w w' : World} {row : Option Nat} (h : Lib.IsBuilderF t e B b bs w) (hg : w.grownBy w' row) (hr : ∀ k, row = some k → k < B) : Lib.IsBuilderF t e B b bs w' :=
  h.elim (fun x => .inl (bldAtF_keep x hg hr)) (fun x => .inr (bldAtF_keep x hg hr))
theorem grown_none {w w' : World} (hb : Below w.heap.size w w') : w.grownBy w' none := ⟨hb.os, hb.tape, hb.output, hb.size, fun k hk _ => hb.block k hk⟩
theorem two_new (w : World) (X Y : Obj) : ((w.alloc X).alloc Y).heap[w.heap.size]? = some X ∧ ((w.alloc X).alloc Y).heap[w.heap.size + 1]? = some Y := by
  have hs : (w.alloc X).heap.size = w.heap.size + 1 := by simp
  have h1 := World.alloc_heap_new (w.alloc X) Y
  rw [hs] at h1
  exact ⟨heap_below (World.alloc_heap_new w X) ((Below.refl _ _).alloc (Nat.le_refl _) _), h1⟩
end Go.Proofs.YtkfedgjepiljiaaDoor
