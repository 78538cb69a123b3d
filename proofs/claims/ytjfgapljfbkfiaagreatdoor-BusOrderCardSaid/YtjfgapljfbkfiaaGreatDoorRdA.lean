/- The walks of bits.Number and frame.Size. -/
import Derived.Test.YtjfgapljfbkfiaaGreatDoorStB
import Derived.Test.YtjfgapljfbkfiaaGreatDoorRdQ
import Derived.Test.YtjfgapljfbkfiaaGreatDoorMgCrA
namespace Go.Proofs.YtjfgapljfbkfiaaGreatDoor
open Go.ChangeShapes Go.WideShapes Go.ChangeAt Go.RowKit
open FP (bit bitsOf numOf Fr sizeE sizeV fxN dlN)

theorem or_low (v : Nat) (hv : v < 4611686018427387904) : bits .or .u64 ((v : Int) * 2) 0 = ((2 * v : Nat) : Int) ∧ bits .or .u64 ((v : Int) * 2) 1 = ((2 * v + 1 : Nat) : Int) := by
  have e : ((v : Int) * 2) = ((2 * v : Nat) : Int) := by omega
  rw [e]
  have h0 := u64_or_nat (2 * v) 0 (by omega) (by omega)
  have h1 := u64_or_nat (2 * v) 1 (by omega) (by omega)
  rw [Nat.or_zero] at h0
  rw [nat_join 1 (2 * v) 1 (by omega) (by omega)] at h1
  exact ⟨h0, h1⟩

set_option maxRecDepth 100000 in
set_option maxHeartbeats 1000000 in
theorem bitsNumber_any (s : ByteArray) (w : World) (hb : ∀ c ∈ s.data.toList, c = 48 ∨ c = 49) (hs : s.size ≤ 62) :
    Calls Tryz.prog 48 #[.string s] w fun e w' => e = .returned (.tuple #[.int .u64 (numOf s.data.toList : Nat), .int .i64 0]) ∧ Below w.heap.size w w' := by
  have LS := hide (show s.data.toList.length = s.size from Array.length_toList)
  have RT := hide (fun W => bitsRight_any s W (by unfold maxLen; omega))
  have R : bitRow s.data.toList = true := bitRow_iff.2 ⟨by rw [LS.out]; omega, hb⟩
  rw [R] at RT
  have BT := hide (fun j (hj : j < s.size) => show s[j] = 48 ∨ s[j] = 49 from hb _ (List.getElem_mem (l := s.data.toList) (by rw [LS.out]; exact hj)))
  clear R hb
  go_enter Tryz.func48, Tryz.ntmps48
  go_wp2_with fail
  refine (RT.out _).mono ?_
  rintro e1 w1 ⟨rfl, q1⟩
  go_wp2_with fail
  go_loop [4, 16] (fun m i => ∃ (j v : Nat), j ≤ s.size ∧ i = .int .i64 j ∧ m = .int .u64 v ∧ Hid (v = numOf (s.data.toList.take j))) (fun _ i => s.size - (intOf i).toNat)
  case atStart => exact ⟨0, 0, Nat.zero_le _, rfl, rfl, by simp [Hid, FP.numOf]⟩
  case round =>
    obtain ⟨j, v, hj, rfl, rfl, H⟩ := hrel
    by_cases hlt : j < s.size
    · have hv : v < 2 ^ 62 := by
        have h1 := H.out
        have h2 := FP.numOf_lt (s.data.toList.take j)
        have h3 : (s.data.toList.take j).length ≤ 61 := by rw [List.length_take]; omega
        have h4 := Nat.pow_le_pow_right (n := 2) (by omega) h3
        omega
      have hE := hide (show numOf (s.data.toList.take (j + 1)) = 2 * v + (if s[j] = 49 then 1 else 0) by
        rw [List.take_succ_eq_append_getElem (by rw [LS.out]; exact hlt), FP.numOf_snoc, H.out]; rfl)
      rw [show (2 : Nat) ^ 62 = 4611686018427387904 by decide] at hv
      obtain ⟨o0, o1⟩ := or_low v hv
      rcases BT.out j hlt with hc | hc
      · have hE' := hide (show numOf (s.data.toList.take (j + 1)) = 2 * v by rw [hE.out, hc]; rfl)
        clear hE o1
        go_wp2_with fail
        go_round
        case rel => exact ⟨j + 1, 2 * v, by omega, by go_num, by simp, hE'.out.symm⟩
        case measure => simp [intOf]; omega
      · have hE' := hide (show numOf (s.data.toList.take (j + 1)) = 2 * v + 1 by rw [hE.out, hc]; rfl)
        clear hE o0
        go_wp2_with fail
        go_round
        case rel => exact ⟨j + 1, 2 * v + 1, by omega, by go_num, by simp, hE'.out.symm⟩
        case measure => simp [intOf]; omega
    · have hE := hide (show v = numOf s.data.toList by rw [H.out, List.take_of_length_le (by rw [LS.out]; omega)])
      go_wp2_with fail
      go_ret2
      exact ⟨by rw [← hE.out]; rfl, q1⟩

theorem toList_extract (s : ByteArray) (a b : Nat) : (s.extract a b).data.toList = s.data.toList.extract a b := by
  rw [ByteArray.data_extract]; simp
theorem get_some (s : ByteArray) (j : Nat) (h : j < s.size) : s.data.toList[j]? = some s[j] := by
  rw [List.getElem?_eq_getElem (by simpa using h)]; rfl
theorem bit_eq {c : UInt8} (h : c = 48 ∨ c = 49) : ((c.toNat : Int) == 49) = decide (some c = some 49) := by
  rcases h with rfl | rfl <;> decide
theorem extract_bits {s : ByteArray} (hb : ∀ c ∈ s.data.toList, c = 48 ∨ c = 49) (a b : Nat) : ∀ c ∈ (s.extract a b).data.toList, c = 48 ∨ c = 49 := by
  intro c hc
  rw [toList_extract, List.extract_eq_take_drop] at hc
  exact hb c (List.mem_of_mem_drop (List.mem_of_mem_take hc))

set_option maxRecDepth 100000 in
set_option maxHeartbeats 1000000 in
theorem frSize_no (s : ByteArray) (w : World) (hs : s.size ≤ maxLen) (hR : bitRow s.data.toList = false) :
    Calls Tryz.prog 36 #[.string s] w fun e w' => e = .returned (.tuple #[.int .i64 0, .int .i64 1]) ∧ Below w.heap.size w w' := by
  have RT := hide (fun W => bitsRight_any s W hs)
  rw [hR] at RT
  clear hR hs
  go_enter Tryz.func36, Tryz.ntmps36
  go_wp2_with fail
  refine (RT.out _).mono ?_
  rintro e1 w1 ⟨rfl, q1⟩
  go_wp2_with fail
  go_ret2
  exact ⟨rfl, q1⟩

set_option maxRecDepth 100000 in
set_option maxHeartbeats 4000000 in
theorem frSize_any (s : ByteArray) (w : World) (hb : ∀ c ∈ s.data.toList, c = 48 ∨ c = 49) (hs : s.size ≤ 4000) :
    Calls Tryz.prog 36 #[.string s] w fun e w' => e = .returned (.tuple #[.int .i64 (sizeV s.data.toList : Nat), .int .i64 (sizeE s.data.toList : Nat)]) ∧ Below w.heap.size w w' := by
  have LS := hide (show s.data.toList.length = s.size from Array.length_toList)
  have RT := hide (fun W => bitsRight_any s W (by unfold maxLen; omega))
  have R : bitRow s.data.toList = true := bitRow_iff.2 ⟨by rw [LS.out]; omega, hb⟩
  rw [R] at RT
  have BT := hide (fun j (hj : j < s.size) => show s[j] = 48 ∨ s[j] = 49 from hb _ (List.getElem_mem (l := s.data.toList) (by rw [LS.out]; exact hj)))
  have NB := hide (fun a b (h : b ≤ s.size) (h2 : b ≤ a + 60) W => bitsNumber_any (s.extract a b) W (extract_bits hb a b) (by rw [ByteArray.size_extract]; omega))
  have GS := hide (fun j (h : j < s.size) => get_some s j h)
  have SE := hide (show sizeE s.data.toList = if s.data.toList.length < 14 then 3 else if s.data.toList.length < fxN s.data.toList then 3 else if 8 < dlN s.data.toList then 12 else 0 from rfl)
  have SV := hide (show sizeV s.data.toList = if sizeE s.data.toList = 0 then fxN s.data.toList + 8 * (if s.data.toList[fxN s.data.toList - 7]? = some 49 then 0 else dlN s.data.toList) else 0 from rfl)
  have FX := hide (show fxN s.data.toList = if s.data.toList[13]? = some 49 then 39 else 19 from rfl)
  have DL := hide (show dlN s.data.toList = numOf (s.data.toList.extract (fxN s.data.toList - 4) (fxN s.data.toList)) from rfl)
  generalize sizeE s.data.toList = se at *
  generalize sizeV s.data.toList = sv at *
  generalize fxN s.data.toList = fx at *
  generalize dlN s.data.toList = dl at *
  rw [LS.out] at SE
  clear R hb
  by_cases h14 : s.size < 14
  · have e1 := SE.out
    rw [if_pos h14] at e1
    have e2 := SV.out
    rw [e1, if_neg (by omega)] at e2
    rw [e1, e2]
    clear SE SV FX DL NB GS BT e1 e2
    go_enter Tryz.func36, Tryz.ntmps36
    go_wp2_with fail
    refine (RT.out _).mono ?_
    rintro e1 w1 ⟨rfl, q1⟩
    go_wp2_with fail
    go_ret2
    exact ⟨rfl, q1⟩
  · have h14' : 13 < s.size := by omega
    have E := SE.out
    rw [if_neg h14] at E
    replace SE := hide E
    clear E
    have g13 := GS.out 13 h14'
    have b13 := bit_eq (BT.out 13 h14')
    rw [← g13] at b13
    by_cases hx : s.data.toList[13]? = some 49
    · have hfx := FX.out
      rw [if_pos hx] at hfx
      subst hfx
      rw [decide_eq_true hx] at b13
      clear g13 hx FX
      by_cases hK : s.size < 39
      · have e1 := SE.out
        rw [if_pos hK] at e1
        have e2 := SV.out
        rw [e1, if_neg (by omega)] at e2
        rw [e1, e2]
        clear SE SV DL NB GS BT e1 e2
        go_enter Tryz.func36, Tryz.ntmps36
        go_wp2_with fail
        refine (RT.out _).mono ?_
        rintro e1 w1 ⟨rfl, q1⟩
        go_wp2_with fail
        go_ret2
        exact ⟨rfl, q1⟩
      · have hK' : 39 ≤ s.size := by omega
        have E := SE.out
        rw [if_neg hK] at E
        replace SE := hide E
        clear E
        have N1 := hide (NB.out 35 39 (by omega) (by omega))
        rw [toList_extract] at N1
        have D2 : dl = numOf (s.data.toList.extract 35 39) := DL.out
        rw [← D2] at N1
        have hdl : dl < 16 := by
          have h := FP.numOf_lt (s.data.toList.extract 35 39)
          rw [← D2] at h
          have h2 : (s.data.toList.extract 35 39).length ≤ 4 := by rw [List.extract_eq_take_drop, List.length_take]; omega
          have h3 := Nat.pow_le_pow_right (n := 2) (by omega) h2
          omega
        have bA := bit_eq (BT.out 32 (by omega))
        have gA := GS.out 32 (by omega)
        rw [← gA] at bA
        clear NB BT GS DL D2 gA
        by_cases h8 : 8 < dl
        · have e1 := SE.out
          rw [if_pos h8] at e1
          have e2 := SV.out
          rw [e1, if_neg (by omega)] at e2
          rw [e1, e2]
          clear SE SV e1 e2 bA
          go_enter Tryz.func36, Tryz.ntmps36
          go_wp2_with fail
          refine (RT.out _).mono ?_
          rintro e1 w1 ⟨rfl, q1⟩
          go_wp2_with fail
          refine (N1.out _).mono ?_
          rintro e2 w2 ⟨rfl, q2⟩
          have Q2 := hide (below_next q1 q1.size q2)
          clear q1 q2
          go_wp2_with fail
          go_ret2
          exact ⟨rfl, Q2.out⟩
        · have e1 := SE.out
          rw [if_neg h8] at e1
          have e2 := SV.out
          rw [e1, if_pos rfl] at e2
          rw [e1]
          have e2' : sv = 39 + 8 * (if s.data.toList[32]? = some 49 then 0 else dl) := e2
          clear SE SV e2
          by_cases hA : s.data.toList[32]? = some 49
          · rw [if_pos hA] at e2'
            rw [decide_eq_true hA] at bA
            rw [e2']
            clear e2' e1 hA
            go_enter Tryz.func36, Tryz.ntmps36
            go_wp2_with fail
            refine (RT.out _).mono ?_
            rintro e1 w1 ⟨rfl, q1⟩
            go_wp2_with fail
            refine (N1.out _).mono ?_
            rintro e2 w2 ⟨rfl, q2⟩
            have Q2 := hide (below_next q1 q1.size q2)
            clear q1 q2
            go_wp2_with fail
            go_ret2
            exact ⟨rfl, Q2.out⟩
          · rw [if_neg hA] at e2'
            rw [decide_eq_false hA] at bA
            rw [e2']
            clear e2' e1 hA
            go_enter Tryz.func36, Tryz.ntmps36
            go_wp2_with fail
            refine (RT.out _).mono ?_
            rintro e1 w1 ⟨rfl, q1⟩
            go_wp2_with fail
            refine (N1.out _).mono ?_
            rintro e2 w2 ⟨rfl, q2⟩
            have Q2 := hide (below_next q1 q1.size q2)
            clear q1 q2
            go_wp2_with fail
            go_ret2
            exact ⟨by simp, Q2.out⟩
    · have hfx := FX.out
      rw [if_neg hx] at hfx
      subst hfx
      rw [decide_eq_false hx] at b13
      clear g13 hx FX
      by_cases hK : s.size < 19
      · have e1 := SE.out
        rw [if_pos hK] at e1
        have e2 := SV.out
        rw [e1, if_neg (by omega)] at e2
        rw [e1, e2]
        clear SE SV DL NB GS BT e1 e2
        go_enter Tryz.func36, Tryz.ntmps36
        go_wp2_with fail
        refine (RT.out _).mono ?_
        rintro e1 w1 ⟨rfl, q1⟩
        go_wp2_with fail
        go_ret2
        exact ⟨rfl, q1⟩
      · have hK' : 19 ≤ s.size := by omega
        have E := SE.out
        rw [if_neg hK] at E
        replace SE := hide E
        clear E
        have N1 := hide (NB.out 15 19 (by omega) (by omega))
        rw [toList_extract] at N1
        have D2 : dl = numOf (s.data.toList.extract 15 19) := DL.out
        rw [← D2] at N1
        have hdl : dl < 16 := by
          have h := FP.numOf_lt (s.data.toList.extract 15 19)
          rw [← D2] at h
          have h2 : (s.data.toList.extract 15 19).length ≤ 4 := by rw [List.extract_eq_take_drop, List.length_take]; omega
          have h3 := Nat.pow_le_pow_right (n := 2) (by omega) h2
          omega
        have bA := bit_eq (BT.out 12 (by omega))
        have gA := GS.out 12 (by omega)
        rw [← gA] at bA
        clear NB BT GS DL D2 gA
        by_cases h8 : 8 < dl
        · have e1 := SE.out
          rw [if_pos h8] at e1
          have e2 := SV.out
          rw [e1, if_neg (by omega)] at e2
          rw [e1, e2]
          clear SE SV e1 e2 bA
          go_enter Tryz.func36, Tryz.ntmps36
          go_wp2_with fail
          refine (RT.out _).mono ?_
          rintro e1 w1 ⟨rfl, q1⟩
          go_wp2_with fail
          refine (N1.out _).mono ?_
          rintro e2 w2 ⟨rfl, q2⟩
          have Q2 := hide (below_next q1 q1.size q2)
          clear q1 q2
          go_wp2_with fail
          go_ret2
          exact ⟨rfl, Q2.out⟩
        · have e1 := SE.out
          rw [if_neg h8] at e1
          have e2 := SV.out
          rw [e1, if_pos rfl] at e2
          rw [e1]
          have e2' : sv = 19 + 8 * (if s.data.toList[12]? = some 49 then 0 else dl) := e2
          clear SE SV e2
          by_cases hA : s.data.toList[12]? = some 49
          · rw [if_pos hA] at e2'
            rw [decide_eq_true hA] at bA
            rw [e2']
            clear e2' e1 hA
            go_enter Tryz.func36, Tryz.ntmps36
            go_wp2_with fail
            refine (RT.out _).mono ?_
            rintro e1 w1 ⟨rfl, q1⟩
            go_wp2_with fail
            refine (N1.out _).mono ?_
            rintro e2 w2 ⟨rfl, q2⟩
            have Q2 := hide (below_next q1 q1.size q2)
            clear q1 q2
            go_wp2_with fail
            go_ret2
            exact ⟨rfl, Q2.out⟩
          · rw [if_neg hA] at e2'
            rw [decide_eq_false hA] at bA
            rw [e2']
            clear e2' e1 hA
            go_enter Tryz.func36, Tryz.ntmps36
            go_wp2_with fail
            refine (RT.out _).mono ?_
            rintro e1 w1 ⟨rfl, q1⟩
            go_wp2_with fail
            refine (N1.out _).mono ?_
            rintro e2 w2 ⟨rfl, q2⟩
            have Q2 := hide (below_next q1 q1.size q2)
            clear q1 q2
            go_wp2_with fail
            go_ret2
            exact ⟨by simp, Q2.out⟩
end Go.Proofs.YtjfgapljfbkfiaaGreatDoor
