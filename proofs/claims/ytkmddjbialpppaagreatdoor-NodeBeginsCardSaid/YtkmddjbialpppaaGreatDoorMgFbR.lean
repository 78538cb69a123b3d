import Derived.Test.YtkmddjbialpppaaGreatDoorMgOrdL
import Derived.Test.YtkmddjbialpppaaGreatDoorMgFin
import Derived.Test.YtkmddjbialpppaaGreatDoorMgFrC
import Derived.Test.YtkmddjbialpppaaGreatDoorMgGd
import Derived.Test.YtkmddjbialpppaaGreatDoorMem
import Derived.Test.YtkmddjbialpppaaGreatDoorMgCrB
import Derived.Test.YtkmddjbialpppaaGreatDoorMgPrA
import Derived.Lib.FrozenHead
import Derived.Lib.FrozenHead2
import Derived.Maps.OwnOps
import Derived.Maps.OwnSet
namespace Go.Proofs.YtkmddjbialpppaaGreatDoor
open Go.ChangeShapes Go.WideShapes Go.ChangeAt Go.RowKit
open FP (bit aY Fr dT gY bT cC dG dJ fP gE tenF)
theorem jI (l : List UInt8) : (⟨l.toArray⟩ : ByteArray).data.toList = l := rfl
theorem kJ (l : List UInt8) : (⟨l.toArray⟩ : ByteArray).size = l.length := by simp [ByteArray.size]
theorem str_app (a b : List UInt8) : (⟨a.toArray⟩ : ByteArray) ++ ⟨b.toArray⟩ = ⟨(a ++ b).toArray⟩ := by rw [ByteArray.ext_iff]; simp
theorem str_of (s : ByteArray) : s = ⟨s.data.toList.toArray⟩ := by rw [ByteArray.ext_iff]
end Go.Proofs.YtkmddjbialpppaaGreatDoor
namespace Go.Proofs.YtkmddjbialpppaaGreatDoor
open Go.ChangeShapes Go.WideShapes Go.ChangeAt Go.RowKit
open FP (bit aY numOf Fr cE cT iG dlN)
theorem or_low (v : Nat) (hv : v < 4611686018427387904) : bits .or .u64 ((v : Int) * 2) 0 = ((2 * v : Nat) : Int) ∧ bits .or .u64 ((v : Int) * 2) 1 = ((2 * v + 1 : Nat) : Int) := by
  have e : ((v : Int) * 2) = ((2 * v : Nat) : Int) := by omega
  rw [e]
  have h0 := u64_or_nat (2 * v) 0 (by omega) (by omega)
  have h1 := u64_or_nat (2 * v) 1 (by omega) (by omega)
  rw [Nat.or_zero] at h0
  rw [nat_join 1 (2 * v) 1 (by omega) (by omega)] at h1
  exact ⟨h0, h1⟩
set_option maxRecDepth 100000 in
set_option maxHeartbeats 1000000 in
theorem i7 (s : ByteArray) (w : World) (hb : ∀ c ∈ s.data.toList, c = 48 ∨ c = 49) (hs : s.size ≤ 62) :
    Calls Tryz.prog 172 #[.string s] w fun e w' => e = .returned (.tuple #[.int .u64 (numOf s.data.toList : Nat), .int .i64 0]) ∧ Below w.heap.size w w' := by
  have LS := aA (show s.data.toList.length = s.size from Array.length_toList)
  have RT := aA (fun W => eF s W (by unfold maxLen; omega))
  have R : dU s.data.toList = true := eJ.2 ⟨by rw [LS.out]; omega, hb⟩
  rw [R] at RT
  have BT := aA (fun j (hj : j < s.size) => show s[j] = 48 ∨ s[j] = 49 from hb _ (List.getElem_mem (l := s.data.toList) (by rw [LS.out]; exact hj)))
  clear R hb
  go_enter Tryz.func172, Tryz.ntmps172
  go_wp2_with fail
  refine (RT.out _).mono ?_
  rintro e1 w1 ⟨rfl, q1⟩
  go_wp2_with fail
  go_loop [4, 16] (fun m i => ∃ (j v : Nat), j ≤ s.size ∧ i = .int .i64 j ∧ m = .int .u64 v ∧ Hid (v = numOf (s.data.toList.take j))) (fun _ i => s.size - (intOf i).toNat)
  case atStart => exact ⟨0, 0, Nat.zero_le _, rfl, rfl, by simp [Hid, FP.numOf]⟩
  case round =>
    obtain ⟨j, v, hj, rfl, rfl, H⟩ := hrel
    by_cases hlt : j < s.size
    · have hv : v < 2 ^ 62 := by
        have h1 := H.out
        have h2 := FP.numOf_lt (s.data.toList.take j)
        have h3 : (s.data.toList.take j).length ≤ 61 := by rw [List.length_take]; omega
        have h4 := Nat.pow_le_pow_right (n := 2) (by omega) h3
        omega
      have hE := aA (show numOf (s.data.toList.take (j + 1)) = 2 * v + (if s[j] = 49 then 1 else 0) by
        rw [List.take_succ_eq_append_getElem (by rw [LS.out]; exact hlt), FP.numOf_snoc, H.out]; rfl)
      rw [show (2 : Nat) ^ 62 = 4611686018427387904 by decide] at hv
      obtain ⟨o0, o1⟩ := or_low v hv
      rcases BT.out j hlt with hc | hc
      · have hE' := aA (show numOf (s.data.toList.take (j + 1)) = 2 * v by rw [hE.out, hc]; rfl)
        clear hE o1
        go_wp2_with fail
        go_round
        case rel => exact ⟨j + 1, 2 * v, by omega, by go_num, by simp, hE'.out.symm⟩
        case measure => simp [intOf]; omega
      · have hE' := aA (show numOf (s.data.toList.take (j + 1)) = 2 * v + 1 by rw [hE.out, hc]; rfl)
        clear hE o0
        go_wp2_with fail
        go_round
        case rel => exact ⟨j + 1, 2 * v + 1, by omega, by go_num, by simp, hE'.out.symm⟩
        case measure => simp [intOf]; omega
    · have hE := aA (show v = numOf s.data.toList by rw [H.out, List.take_of_length_le (by rw [LS.out]; omega)])
      go_wp2_with fail
      go_ret2
      exact ⟨by rw [← hE.out]; rfl, q1⟩
theorem dD (s : ByteArray) (a b : Nat) : (s.extract a b).data.toList = s.data.toList.extract a b := by
  rw [ByteArray.data_extract]; simp
theorem get_some (s : ByteArray) (j : Nat) (h : j < s.size) : s.data.toList[j]? = some s[j] := by
  rw [List.getElem?_eq_getElem (by simpa using h)]; rfl
theorem bit_eq {c : UInt8} (h : c = 48 ∨ c = 49) : ((c.toNat : Int) == 49) = decide (some c = some 49) := by
  rcases h with rfl | rfl <;> decide
theorem fV {s : ByteArray} (hb : ∀ c ∈ s.data.toList, c = 48 ∨ c = 49) (a b : Nat) : ∀ c ∈ (s.extract a b).data.toList, c = 48 ∨ c = 49 := by
  intro c hc
  rw [dD, List.extract_eq_take_drop] at hc
  exact hb c (List.mem_of_mem_drop (List.mem_of_mem_take hc))
set_option maxRecDepth 100000 in
set_option maxHeartbeats 4000000 in
theorem iH (s : ByteArray) (w : World) (hb : ∀ c ∈ s.data.toList, c = 48 ∨ c = 49) (hs : s.size ≤ 4000) :
    Calls Tryz.prog 134 #[.string s] w fun e w' => e = .returned (.tuple #[.int .i64 (cT s.data.toList : Nat), .int .i64 (cE s.data.toList : Nat)]) ∧ Below w.heap.size w w' := by
  have LS := aA (show s.data.toList.length = s.size from Array.length_toList)
  have RT := aA (fun W => eF s W (by unfold maxLen; omega))
  have R : dU s.data.toList = true := eJ.2 ⟨by rw [LS.out]; omega, hb⟩
  rw [R] at RT
  have BT := aA (fun j (hj : j < s.size) => show s[j] = 48 ∨ s[j] = 49 from hb _ (List.getElem_mem (l := s.data.toList) (by rw [LS.out]; exact hj)))
  have NB := aA (fun a b (h : b ≤ s.size) (h2 : b ≤ a + 60) W => i7 (s.extract a b) W (fV hb a b) (by rw [ByteArray.size_extract]; omega))
  have GS := aA (fun j (h : j < s.size) => get_some s j h)
  have SE := aA (show cE s.data.toList = if s.data.toList.length < 14 then 3 else if s.data.toList.length < iG s.data.toList then 3 else if 8 < dlN s.data.toList then 12 else 0 from rfl)
  have SV := aA (show cT s.data.toList = if cE s.data.toList = 0 then iG s.data.toList + 8 * (if s.data.toList[iG s.data.toList - 7]? = some 49 then 0 else dlN s.data.toList) else 0 from rfl)
  have FX := aA (show iG s.data.toList = if s.data.toList[13]? = some 49 then 39 else 19 from rfl)
  have DL := aA (show dlN s.data.toList = numOf (s.data.toList.extract (iG s.data.toList - 4) (iG s.data.toList)) from rfl)
  generalize cE s.data.toList = se at *
  generalize cT s.data.toList = sv at *
  generalize iG s.data.toList = fx at *
  generalize dlN s.data.toList = dl at *
  rw [LS.out] at SE
  clear R hb
  by_cases h14 : s.size < 14
  · have e1 := SE.out
    rw [if_pos h14] at e1
    have e2 := SV.out
    rw [e1, if_neg (by omega)] at e2
    rw [e1, e2]
    clear SE SV FX DL NB GS BT e1 e2
    go_enter Tryz.func134, Tryz.ntmps134
    go_wp2_with fail
    refine (RT.out _).mono ?_
    rintro e1 w1 ⟨rfl, q1⟩
    go_wp2_with fail
    go_ret2
    exact ⟨rfl, q1⟩
  · have h14' : 13 < s.size := by omega
    have E := SE.out
    rw [if_neg h14] at E
    replace SE := aA E
    clear E
    have g13 := GS.out 13 h14'
    have b13 := bit_eq (BT.out 13 h14')
    rw [← g13] at b13
    by_cases hx : s.data.toList[13]? = some 49
    · have hfx := FX.out
      rw [if_pos hx] at hfx
      subst hfx
      rw [decide_eq_true hx] at b13
      clear g13 hx FX
      by_cases hK : s.size < 39
      · have e1 := SE.out
        rw [if_pos hK] at e1
        have e2 := SV.out
        rw [e1, if_neg (by omega)] at e2
        rw [e1, e2]
        clear SE SV DL NB GS BT e1 e2
        go_enter Tryz.func134, Tryz.ntmps134
        go_wp2_with fail
        refine (RT.out _).mono ?_
        rintro e1 w1 ⟨rfl, q1⟩
        go_wp2_with fail
        go_ret2
        exact ⟨rfl, q1⟩
      · have hK' : 39 ≤ s.size := by omega
        have E := SE.out
        rw [if_neg hK] at E
        replace SE := aA E
        clear E
        have N1 := aA (NB.out 35 39 (by omega) (by omega))
        rw [dD] at N1
        have D2 : dl = numOf (s.data.toList.extract 35 39) := DL.out
        rw [← D2] at N1
        have hdl : dl < 16 := by
          have h := FP.numOf_lt (s.data.toList.extract 35 39)
          rw [← D2] at h
          have h2 : (s.data.toList.extract 35 39).length ≤ 4 := by rw [List.extract_eq_take_drop, List.length_take]; omega
          have h3 := Nat.pow_le_pow_right (n := 2) (by omega) h2
          omega
        have bA := bit_eq (BT.out 32 (by omega))
        have gA := GS.out 32 (by omega)
        rw [← gA] at bA
        clear NB BT GS DL D2 gA
        by_cases h8 : 8 < dl
        · have e1 := SE.out
          rw [if_pos h8] at e1
          have e2 := SV.out
          rw [e1, if_neg (by omega)] at e2
          rw [e1, e2]
          clear SE SV e1 e2 bA
          go_enter Tryz.func134, Tryz.ntmps134
          go_wp2_with fail
          refine (RT.out _).mono ?_
          rintro e1 w1 ⟨rfl, q1⟩
          go_wp2_with fail
          refine (N1.out _).mono ?_
          rintro e2 w2 ⟨rfl, q2⟩
          have Q2 := aA (aC q1 q1.size q2)
          clear q1 q2
          go_wp2_with fail
          go_ret2
          exact ⟨rfl, Q2.out⟩
        · have e1 := SE.out
          rw [if_neg h8] at e1
          have e2 := SV.out
          rw [e1, if_pos rfl] at e2
          rw [e1]
          have e2' : sv = 39 + 8 * (if s.data.toList[32]? = some 49 then 0 else dl) := e2
          clear SE SV e2
          by_cases hA : s.data.toList[32]? = some 49
          · rw [if_pos hA] at e2'
            rw [decide_eq_true hA] at bA
            rw [e2']
            clear e2' e1 hA
            go_enter Tryz.func134, Tryz.ntmps134
            go_wp2_with fail
            refine (RT.out _).mono ?_
            rintro e1 w1 ⟨rfl, q1⟩
            go_wp2_with fail
            refine (N1.out _).mono ?_
            rintro e2 w2 ⟨rfl, q2⟩
            have Q2 := aA (aC q1 q1.size q2)
            clear q1 q2
            go_wp2_with fail
            go_ret2
            exact ⟨rfl, Q2.out⟩
          · rw [if_neg hA] at e2'
            rw [decide_eq_false hA] at bA
            rw [e2']
            clear e2' e1 hA
            go_enter Tryz.func134, Tryz.ntmps134
            go_wp2_with fail
            refine (RT.out _).mono ?_
            rintro e1 w1 ⟨rfl, q1⟩
            go_wp2_with fail
            refine (N1.out _).mono ?_
            rintro e2 w2 ⟨rfl, q2⟩
            have Q2 := aA (aC q1 q1.size q2)
            clear q1 q2
            go_wp2_with fail
            go_ret2
            exact ⟨by simp, Q2.out⟩
    · have hfx := FX.out
      rw [if_neg hx] at hfx
      subst hfx
      rw [decide_eq_false hx] at b13
      clear g13 hx FX
      by_cases hK : s.size < 19
      · have e1 := SE.out
        rw [if_pos hK] at e1
        have e2 := SV.out
        rw [e1, if_neg (by omega)] at e2
        rw [e1, e2]
        clear SE SV DL NB GS BT e1 e2
        go_enter Tryz.func134, Tryz.ntmps134
        go_wp2_with fail
        refine (RT.out _).mono ?_
        rintro e1 w1 ⟨rfl, q1⟩
        go_wp2_with fail
        go_ret2
        exact ⟨rfl, q1⟩
      · have hK' : 19 ≤ s.size := by omega
        have E := SE.out
        rw [if_neg hK] at E
        replace SE := aA E
        clear E
        have N1 := aA (NB.out 15 19 (by omega) (by omega))
        rw [dD] at N1
        have D2 : dl = numOf (s.data.toList.extract 15 19) := DL.out
        rw [← D2] at N1
        have hdl : dl < 16 := by
          have h := FP.numOf_lt (s.data.toList.extract 15 19)
          rw [← D2] at h
          have h2 : (s.data.toList.extract 15 19).length ≤ 4 := by rw [List.extract_eq_take_drop, List.length_take]; omega
          have h3 := Nat.pow_le_pow_right (n := 2) (by omega) h2
          omega
        have bA := bit_eq (BT.out 12 (by omega))
        have gA := GS.out 12 (by omega)
        rw [← gA] at bA
        clear NB BT GS DL D2 gA
        by_cases h8 : 8 < dl
        · have e1 := SE.out
          rw [if_pos h8] at e1
          have e2 := SV.out
          rw [e1, if_neg (by omega)] at e2
          rw [e1, e2]
          clear SE SV e1 e2 bA
          go_enter Tryz.func134, Tryz.ntmps134
          go_wp2_with fail
          refine (RT.out _).mono ?_
          rintro e1 w1 ⟨rfl, q1⟩
          go_wp2_with fail
          refine (N1.out _).mono ?_
          rintro e2 w2 ⟨rfl, q2⟩
          have Q2 := aA (aC q1 q1.size q2)
          clear q1 q2
          go_wp2_with fail
          go_ret2
          exact ⟨rfl, Q2.out⟩
        · have e1 := SE.out
          rw [if_neg h8] at e1
          have e2 := SV.out
          rw [e1, if_pos rfl] at e2
          rw [e1]
          have e2' : sv = 19 + 8 * (if s.data.toList[12]? = some 49 then 0 else dl) := e2
          clear SE SV e2
          by_cases hA : s.data.toList[12]? = some 49
          · rw [if_pos hA] at e2'
            rw [decide_eq_true hA] at bA
            rw [e2']
            clear e2' e1 hA
            go_enter Tryz.func134, Tryz.ntmps134
            go_wp2_with fail
            refine (RT.out _).mono ?_
            rintro e1 w1 ⟨rfl, q1⟩
            go_wp2_with fail
            refine (N1.out _).mono ?_
            rintro e2 w2 ⟨rfl, q2⟩
            have Q2 := aA (aC q1 q1.size q2)
            clear q1 q2
            go_wp2_with fail
            go_ret2
            exact ⟨rfl, Q2.out⟩
          · rw [if_neg hA] at e2'
            rw [decide_eq_false hA] at bA
            rw [e2']
            clear e2' e1 hA
            go_enter Tryz.func134, Tryz.ntmps134
            go_wp2_with fail
            refine (RT.out _).mono ?_
            rintro e1 w1 ⟨rfl, q1⟩
            go_wp2_with fail
            refine (N1.out _).mono ?_
            rintro e2 w2 ⟨rfl, q2⟩
            have Q2 := aA (aC q1 q1.size q2)
            clear q1 q2
            go_wp2_with fail
            go_ret2
            exact ⟨by simp, Q2.out⟩
end Go.Proofs.YtkmddjbialpppaaGreatDoor
namespace Go.Proofs.YtkmddjbialpppaaGreatDoor
open Go.ChangeShapes Go.WideShapes Go.ChangeAt Go.RowKit
open FP (bit aY Fr dT gY bT cC dG dJ fP gE tenF)
def bitsV (f : Fr) : ByteArray := if FP.rightB f then ⟨(gE f).toArray⟩ else ⟨#[]⟩
set_option maxRecDepth 100000 in
set_option maxHeartbeats 1000000 in
theorem frBits_any (f : Fr) (w : World) (hid : f.id < 4294967296) :
    Calls Tryz.prog 139 #[.agg #[.int .u32 f.id, .bool f.ext, .bool f.rem, .int .i64 f.dlc, .string f.data]] w fun e w' => e = .returned (.tuple #[.string (bitsV f), .int .i64 (headE f)]) ∧ Below w.heap.size w w' := by
  have RT := aA (fun W => eL f W hid)
  have q0 : Below w.heap.size w (w.alloc (.cells #[.int .u32 f.id, .bool f.ext, .bool f.rem, .int .i64 f.dlc, .string f.data] 35)) := (Below.refl _ _).alloc (Nat.le_refl _) _
  have B0 := aA (World.alloc_heap_new w (.cells #[.int .u32 f.id, .bool f.ext, .bool f.rem, .int .i64 f.dlc, .string f.data] 35))
  cases hr : FP.rightB f with
  | false =>
    have V : bitsV f = ⟨#[]⟩ := by unfold bitsV; rw [hr]; rfl
    have E : headE f = 1 := by unfold headE; rw [hr]; rfl
    rw [V, E]
    rw [hr] at RT
    clear V E hr B0
    obtain ⟨id, ext, rem, dlc, data⟩ := f
    dsimp only at *
    go_enter Tryz.func139, Tryz.ntmps139
    go_wp2_with fail
    refine (RT.out _).mono ?_
    rintro e1 w1 ⟨rfl, q1⟩
    go_wp2_with fail
    go_ret2
    exact ⟨rfl, aC q0 q0.size q1⟩
  | true =>
    have V : bitsV f = ⟨(dJ (fP (cC f)) ++ [49, 49, 49, 49, 49, 49, 49, 49, 49, 49]).toArray⟩ := by unfold bitsV; rw [hr]; rfl
    have E : headE f = 0 := by unfold headE; rw [hr]; rfl
    have hL := FP.head_le hr
    have HD := aA (fun W => head_any f W hr)
    have CF := aA (fun W => crcFrame_any ⟨(cC f).toArray⟩ W (eJ.2 ⟨by rw [jI]; omega, FP.head_bits f⟩) (by rw [kJ]; omega))
    have SF := aA (fun W => stuff_any ⟨(fP (cC f)).toArray⟩ W (eJ.2 ⟨by rw [jI, FP.sum_length]; omega, FP.sum_bits (FP.head_bits f)⟩) (by rw [kJ, FP.sum_length]; omega) (by rw [kJ, FP.sum_length]; omega))
    rw [jI] at CF SF
    have hB := FP.bits_len hr
    have hs := kJ (dJ (fP (cC f)))
    have V2 : bitsV f = ⟨(dJ (fP (cC f))).toArray⟩ ++ ⟨#[49, 49, 49, 49, 49, 49, 49, 49, 49, 49]⟩ := by rw [V, ← str_app]
    have hsz : (⟨(dJ (fP (cC f))).toArray⟩ : ByteArray).size ≤ 1000 := by omega
    rw [V2, E]
    rw [hr] at RT
    clear V V2 E hr hL hB hs
    generalize (⟨(dJ (fP (cC f))).toArray⟩ : ByteArray) = t at *
    generalize fP (cC f) = t2 at *
    generalize cC f = t1 at *
    obtain ⟨id, ext, rem, dlc, data⟩ := f
    dsimp only at *
    go_enter Tryz.func139, Tryz.ntmps139
    go_wp2_with fail
    refine (RT.out _).mono ?_
    rintro e1 w1 ⟨rfl, q1⟩
    have Q1 := aA (aC q0 q0.size q1)
    have B1 := aA (aB B0.out q1)
    have l0 : w1.cell? ⟨w.heap.size, 0, none⟩ = some (.int .u32 id) := by have := B1.out; simp [World.cell?, this]
    have l1 : w1.cell? ⟨w.heap.size, 1, none⟩ = some (.bool ext) := by have := B1.out; simp [World.cell?, this]
    have l2 : w1.cell? ⟨w.heap.size, 2, none⟩ = some (.bool rem) := by have := B1.out; simp [World.cell?, this]
    have l3 : w1.cell? ⟨w.heap.size, 3, none⟩ = some (.int .i64 dlc) := by have := B1.out; simp [World.cell?, this]
    have l4 : w1.cell? ⟨w.heap.size, 4, none⟩ = some (.string data) := by have := B1.out; simp [World.cell?, this]
    clear B0 q0 q1 B1
    go_wp2_with fail
    refine (HD.out _).mono ?_
    rintro e2 w2 ⟨rfl, q2⟩
    have Q2 := aA (aC Q1.out Q1.out.size q2)
    clear q2 l0 l1 l2 l3 l4
    go_wp2_with fail
    refine (CF.out _).mono ?_
    rintro e3 w3 ⟨rfl, q3⟩
    have Q3 := aA (aC Q2.out Q2.out.size q3)
    clear q3
    go_wp2_with fail
    refine (SF.out _).mono ?_
    rintro e4 w4 ⟨rfl, q4⟩
    have Q4 := aA (aC Q3.out Q3.out.size q4)
    clear q4
    go_wp2_with fail
    go_ret2
    exact ⟨rfl, Q4.out⟩
end Go.Proofs.YtkmddjbialpppaaGreatDoor
namespace Go.Proofs.YtkmddjbialpppaaGreatDoor
open Go.ChangeShapes Go.WideShapes Go.ChangeAt Go.RowKit
open FP (bit aY Fr dT gY bT cC gE)
theorem eN {W : World} {b : Nat} {id : Nat} {ext rem : Bool} {dlc : Int} {data : ByteArray} (h : W.heap[b]? = some (.cells #[.int .u32 id, .bool ext, .bool rem, .int .i64 dlc, .string data] 35 (0, 0))) :
    W.cell? ⟨b, 0, none⟩ = some (.int .u32 id) ∧ W.cell? ⟨b, 1, none⟩ = some (.bool ext) ∧ W.cell? ⟨b, 2, none⟩ = some (.bool rem) ∧ W.cell? ⟨b, 3, none⟩ = some (.int .i64 dlc) ∧ W.cell? ⟨b, 4, none⟩ = some (.string data) :=
  ⟨by simp [World.cell?, h], by simp [World.cell?, h], by simp [World.cell?, h], by simp [World.cell?, h], by simp [World.cell?, h]⟩
theorem kQ {W : World} {b : Nat} {id : Nat} {ext rem : Bool} {dlc : Int} {data : ByteArray} (h : W.heap[b]? = some (.cells #[.int .u32 id, .bool ext, .bool rem, .int .i64 dlc, .string data] 35 (0, 0))) : W.there b 0 5 :=
  aK (cs := [.int .u32 id, .bool ext, .bool rem, .int .i64 dlc, .string data]) h
end Go.Proofs.YtkmddjbialpppaaGreatDoor
namespace Go.Proofs.YtkmddjbialpppaaGreatDoor
open Go.ChangeShapes Go.WideShapes Go.ChangeAt Go.RowKit
theorem gT (w : World) (X Y : Obj) : ((w.alloc X).alloc Y).heap[w.heap.size]? = some X ∧ ((w.alloc X).alloc Y).heap[w.heap.size + 1]? = some Y := by
  have hs : (w.alloc X).heap.size = w.heap.size + 1 := by simp
  have h1 := World.alloc_heap_new (w.alloc X) Y
  rw [hs] at h1
  exact ⟨aB (World.alloc_heap_new w X) ((Below.refl _ _).alloc (Nat.le_refl _) _), h1⟩
end Go.Proofs.YtkmddjbialpppaaGreatDoor
namespace Go.Proofs.YtkmddjbialpppaaGreatDoor
open Go.ChangeShapes Go.WideShapes Go.ChangeAt Go.RowKit
open FP (uN uK iR cE cT SR)
def StK (last : UInt8) (n : Nat) : Prop := (n = 0 ∧ last = 0) ∨ ((last = 48 ∨ last = 49) ∧ 1 ≤ n ∧ n ≤ 5)
theorem StK.le {last : UInt8} {n : Nat} (h : StK last n) : n ≤ 5 := by rcases h with h | h <;> omega
theorem StK.step {last : UInt8} {n : Nat} (h : StK last n) {c : UInt8} (hc : c = 48 ∨ c = 49) : StK c (uN last n c) := by
  have := FP.uN_le (last := last) h.le c
  exact .inr ⟨hc, this.1, this.2⟩
set_option maxRecDepth 100000 in
theorem stBit_any (c : UInt8) (w : World) (hc : c = 48 ∨ c = 49) : Calls Tryz.prog 174 #[.int .u8 c.toNat] w fun e w' => e = .returned (.bool true) ∧ w = w' := by
  rcases hc with rfl | rfl
  all_goals
    go_enter Tryz.func174, Tryz.ntmps174
    go_wp2
    go_ret
    exact ⟨rfl, rfl⟩
set_option maxRecDepth 100000 in
set_option maxHeartbeats 1000000 in
theorem stRight_any (last : UInt8) (n : Nat) (w : World) (h : StK last n) : Calls Tryz.prog 136 #[.agg #[.int .u8 last.toNat, .int .i64 n]] w fun e w' => e = .returned (.bool true) ∧ Below w.heap.size w w' := by
  have q0 : Below w.heap.size w (w.alloc (.cells #[.int .u8 last.toNat, .int .i64 n] 37)) := (Below.refl _ _).alloc (Nat.le_refl _) _
  have BB := aA (fun c W hc => stBit_any c W hc)
  rcases h with ⟨rfl, rfl⟩ | ⟨hl, h1, h5⟩
  · clear BB
    go_enter Tryz.func136, Tryz.ntmps136
    go_wp2
    go_ret
    exact ⟨rfl, q0⟩
  · have e0 : ((last.toNat : Int) == 0) = false := by rcases hl with rfl | rfl <;> decide
    have B1 := aA (fun W => BB.out last W hl)
    have h1' : decide ((1 : Int) ≤ n) = true := decide_eq_true (by omega)
    have h5' : decide ((n : Int) ≤ 5) = true := decide_eq_true (by omega)
    clear BB hl
    go_enter Tryz.func136, Tryz.ntmps136
    go_wp2_with fail
    refine (B1.out _).mono ?_
    rintro e1 w1 ⟨rfl, rfl⟩
    go_wp2
    go_ret
    exact ⟨rfl, q0⟩
set_option maxRecDepth 100000 in
set_option maxHeartbeats 1000000 in
theorem stStep_any (last : UInt8) (n : Nat) (c : UInt8) (w : World) (h : StK last n) (hc : c = 48 ∨ c = 49) :
    Calls Tryz.prog 180 #[.agg #[.int .u8 last.toNat, .int .i64 n], .int .u8 c.toNat] w fun e w' => e = .returned (.tuple #[.agg #[.int .u8 c.toNat, .int .i64 (uN last n c : Nat)], .int .i64 (uK last n c : Nat), .int .i64 0]) ∧ Below w.heap.size w w' := by
  have RT := aA (fun W => stRight_any last n W h)
  have BB := aA (fun W => stBit_any c W hc)
  have hn := h.le
  have ST := aA (fun b W hW => step_any b last n c hn W hW)
  have q0 : Below w.heap.size w ((w.alloc (.cells #[.int .u8 last.toNat, .int .i64 n] 37)).alloc (.cells #[.int .u8 0, .int .i64 0] 37)) := ((Below.refl _ _).alloc (Nat.le_refl _) _).alloc (by simp) _
  have B0 := aA (show ((w.alloc (.cells #[.int .u8 last.toNat, .int .i64 n] 37)).alloc (.cells #[.int .u8 0, .int .i64 0] 37)).heap[w.heap.size + 1]? = some (.cells #[.int .u8 0, .int .i64 0] 37 (0, 0)) from (gT _ _ _).2)
  have B1 := aA (show ((w.alloc (.cells #[.int .u8 last.toNat, .int .i64 n] 37)).alloc (.cells #[.int .u8 0, .int .i64 0] 37)).heap[w.heap.size]? = some (.cells #[.int .u8 last.toNat, .int .i64 n] 37 (0, 0)) from (gT _ _ _).1)
  clear h hc
  go_enter Tryz.func180, Tryz.ntmps180
  go_wp2_with fail
  refine (RT.out _).mono ?_
  rintro e1 w1 ⟨rfl, q1⟩
  have Q1 := aA (aC q0 q0.size q1)
  have C0 := aA (aB B0.out q1)
  have C1 := aA (aB B1.out q1)
  clear q0 q1 B0 B1
  go_wp2_with fail
  refine (BB.out _).mono ?_
  rintro e2 w2 ⟨rfl, rfl⟩
  obtain ⟨x0, x1, _⟩ := two_st C1.out
  go_wp2_with fail
  have hz1 : w.heap.size + 1 < w1.heap.size := aH C0.out
  have al := (Below.refl w1.heap.size w1).alloc (Nat.le_refl _) (.cells #[.int .u8 last.toNat, .int .i64 n] 325)
  have C2 := aA (aB C0.out al)
  have Q2 := aA (aC Q1.out Q1.out.size al)
  have S2 := aA (World.alloc_heap_new w1 (.cells #[.int .u8 last.toNat, .int .i64 n] 325))
  clear al x0 x1 C0 C1 Q1
  refine (ST.out _ _ S2.out).mono ?_
  rintro e3 w3 ⟨rfl, h3, g3⟩
  have C3 := aA (bX C2.out g3 (by simp; omega))
  have Q3 := aA (Q2.out.grown g3 Q2.out.size (fun k hk => by simp at hk; omega))
  obtain ⟨y0, y1, _⟩ := two_st h3
  have hN : (stN last n c : Nat) = uN last n c := rfl
  have hK : (stK last n c : Nat) = uK last n c := rfl
  rw [hN] at y1
  rw [hK]
  clear h3 g3 C2 Q2 S2 ST hN hK
  go_wp2_with (refine aF (by rfl) 37 (.tmp 4) (.tmp 27) (by rfl) (w.heap.size + 1) 0 [.int .u8 c.toNat, .int .i64 (uN last n c : Nat)] (by rfl) (by rfl) (by exact (show w3.there (w.heap.size + 1) 0 2 from aK (cs := [_, _]) C3.out)) (by kernel_rfl) (by simp [Value.oneCell']) ?_)
  intro W4 e4
  have C4 := aJ [.int .u8 c.toNat, .int .i64 (uN last n c : Nat)] (xs := [_, _]) C3.out rfl
  have Q4 := Q3.out.trans (aE (g := w.heap.size + 1) [.int .u8 c.toNat, .int .i64 (uN last n c : Nat)] 0 _ (by omega))
  rw [← e4.out] at C4 Q4
  clear e4 C3 Q3 y0 y1
  obtain ⟨z0, z1, _⟩ := two_st C4
  have QQ := aA Q4
  clear C4 Q4
  go_wp2
  refine bodyPost_ret (v := .tuple #[.agg #[.int .u8 c.toNat, .int .i64 (uN last n c : Nat)], .int .i64 (uK last n c : Nat), .int .i64 0]) (by simp [results, Tryz.results180, go_sem, z0, z1]) rfl ⟨rfl, QQ.out⟩
end Go.Proofs.YtkmddjbialpppaaGreatDoor
namespace Go.Proofs.YtkmddjbialpppaaGreatDoor
open Go.ChangeShapes Go.WideShapes Go.ChangeAt Go.RowKit
open FP (Fr uN uK iR cE cT eB jZ gE dK RS i6 rs0 iV jB)
def Cl.L (c : Cl) : UInt8 := UInt8.ofNat c.last.toNat
def Cl.N (c : Cl) : Nat := c.sn.toNat
def Cl.g (c : Cl) : List UInt8 := c.got.data.toList
structure Cl.In (c : Cl) : Prop where
  last : c.last = (c.L.toNat : Int)
  sn : c.sn = (c.N : Int)
  stk : StK c.L c.N
  n1 : 1 ≤ c.N
  bits : ∀ x ∈ c.g, x = 48 ∨ x = 49
  first : c.g[0]? = some 48
  size : cE c.g ≠ 12
  le : cE c.g = 0 → c.g.length ≤ cT c.g + 15
  en : c.en = iR c.g c.N
  good : c.good = (c.en && jB c.g)
  t0 : 0 ≤ c.tail
  t9 : c.tail ≤ 9
  tn : c.en = false → c.tail = 0
  no : c.sends = false → c.out = ⟨#[]⟩ ∧ c.at_ = 0
  yes : c.sends = true → c.has = true ∧ c.out = ⟨(gE c.f).toArray⟩ ∧ (c.en = true → c.at_ = (dK c.f).length + c.tail) ∧ (c.en = false → 1 ≤ c.at_ ∧ c.at_ < (dK c.f).length) ∧ iV ((dK c.f).take c.at_.toNat) = ⟨c.L, c.N, c.g⟩
def topN (s : Int) : Int := if s = 0 ∨ s = 8 then 10 else if s = 3 then 5 else if s = 4 then 1000000000 else if s = 5 ∨ s = 7 then 7 else if s = 6 then 2 else 0
structure Cl.Ok (c : Cl) : Prop where
  cnt : cntB c.tc c.rc c.off c.rs = true
  offs : c.off = (c.st == 8)
  has : c.has = true → FP.rightB c.f = true
  hasn : c.has = false → c.f = zFr
  s0 : 0 ≤ c.st
  s8 : c.st ≤ 8
  n0 : 0 ≤ c.n
  n9 : c.n ≤ topN c.st
  n5 : c.st = 5 → 1 ≤ c.n
  out : c.st ≠ 2 → c.Out
  inn : c.st = 2 → c.In
theorem zCl_ok : zCl.Ok := ⟨rfl, rfl, (fun e => by cases e), fun _ => rfl, by decide, by decide, by decide, by decide, (fun e => by cases e), fun _ => ⟨rfl, rfl, rfl, rfl, rfl, rfl, rfl, rfl, rfl⟩, (fun e => by cases e)⟩
end Go.Proofs.YtkmddjbialpppaaGreatDoor
namespace Go.Proofs.YtkmddjbialpppaaGreatDoor
open Go.ChangeShapes Go.WideShapes Go.ChangeAt Go.RowKit
open FP (bit aY numOf Fr cC cE cT iG dlN rawF gJ jH fD jF idF fr0)
theorem jT {P : Program} (w : World) (src dst e : TypeId) (hs : P.underlying src = some (.slice e)) (he : P.underlying e = some (.int .u8)) (hd : P.underlying dst = some .string)
    {base : Nat} {A : Option Addr} {c : Nat} {l : List UInt8} (h : Own w base 5 1 A c (cP l)) (n : Nat) (hn : n = l.length) : (convert src dst (.slice A n c)).run P w = .ok (.string ⟨l.toArray⟩) w := by
  subst hn
  rcases Nat.eq_zero_or_pos l.length with h0 | h0
  · have hl : l = [] := List.length_eq_zero_iff.1 h0
    subst hl
    rw [run_convert_bytes_string w src dst e _ _ _ hs he hd]
    cases A with
    | none => simp [Conv.bytesToString, Sem.run_pure]; rfl
    | some a =>
      exact run_bytesToString (P := P) w a 0 c [] (by simp [loadCells, loadCellsFrom])
  · obtain ⟨g, rfl, _, _⟩ := h.ofLen (by rw [dH]; exact h0)
    exact eE w src dst e hs he hd g l.length c l rfl (fun i hi => byOwn_cell h hi)
set_option maxRecDepth 100000 in
set_option maxHeartbeats 1000000 in
theorem rdNum_any (s : ByteArray) (b frm tt : Nat) (N M : Int) (w : World) (hb : ∀ c ∈ s.data.toList, c = 48 ∨ c = 49) (hN : N = frm) (hT : N + M = tt) (hft : frm ≤ tt) (hto : tt ≤ s.size) (h60 : tt ≤ frm + 60) (hs : s.size ≤ 4000)
    (h : w.heap[b]? = some (.cells #[.string s] 9 (0, 0))) :
    Calls Tryz.prog 215 #[.int .i64 N, .int .i64 M, .pointer (some ⟨b, 0, none⟩)] w fun e w' => e = .returned (.int .u64 (numOf (s.data.toList.extract frm tt) : Nat)) ∧ Below w.heap.size w w' := by
  have NB := aA (fun W => i7 (s.extract frm tt) W (fV hb frm tt) (by rw [ByteArray.size_extract]; omega))
  rw [dD] at NB
  have c0 : w.cell? ⟨b, 0, none⟩ = some (.string s) := by simp [World.cell?, h]
  subst hN
  have hT1 : ((frm : Int) + M) = tt := hT
  clear h hb hT
  generalize numOf (s.data.toList.extract frm tt) = v at *
  go_enter Tryz.func215, Tryz.ntmps215
  go_wp2_with fail
  refine (NB.out _).mono ?_
  rintro e1 w1 ⟨rfl, q1⟩
  go_wp2_with fail
  go_ret
  exact ⟨rfl, q1⟩
structure RdM (w : World) (g : Nat) (s : ByteArray) (f : Fr) (W : World) : Prop where
  q : Below w.heap.size w W
  sb : W.heap[w.heap.size]? = some (.cells #[.string s] 9 (0, 0))
  zb : W.heap[w.heap.size + 1]? = some (.cells #[.int .u32 0, .bool false, .bool false, .int .i64 0, .string ⟨#[]⟩] 35 (0, 0))
  fb : W.heap[g]? = some (.cells #[.int .u32 f.id, .bool f.ext, .bool f.rem, .int .i64 f.dlc, .string f.data] 35 (0, 0))
  hg : w.heap.size + 2 ≤ g
theorem RdM.below {w W W' : World} {g : Nat} {s : ByteArray} {f : Fr} (h : RdM w g s f W) (q : Below W.heap.size W W') : RdM w g s f W' :=
  ⟨aC h.q h.q.size q, aB h.sb q, aB h.zb q, aB h.fb q, h.hg⟩
theorem RdM.grown {w W W' : World} {g : Nat} {s : ByteArray} {f : Fr} (h : RdM w g s f W) {row : Option Nat} (hr : ∀ k, row = some k → g < k) (q : W.grownBy W' row) : RdM w g s f W' := by
  have hg := h.hg
  refine ⟨h.q.grown q h.q.size (fun k hk => by have := hr k hk; omega), bX h.sb q ?_, bX h.zb q ?_, bX h.fb q ?_, h.hg⟩
  · intro e; have := hr _ e; omega
  · intro e; have := hr _ e; omega
  · intro e; have := hr _ e; omega
theorem RdM.set {w W : World} {g : Nat} {s : ByteArray} {f : Fr} (h : RdM w g s f W) (j : Nat) (v : Value) (f' : Fr) (hv : #[Value.int .u32 f.id, .bool f.ext, .bool f.rem, .int .i64 f.dlc, .string f.data].setIfInBounds j v = #[.int .u32 f'.id, .bool f'.ext, .bool f'.rem, .int .i64 f'.dlc, .string f'.data]) : RdM w g s f' (W.setCell ⟨g, j, none⟩ v) := by
  have hg := h.hg
  refine ⟨h.q.setCell (p := ⟨g, j, none⟩) (by show w.heap.size ≤ g; omega) v, ?_, ?_, ?_, h.hg⟩
  · rw [heap_setCell_other W ⟨g, j, none⟩ _ v (by show w.heap.size ≠ g; omega)]; exact h.sb
  · rw [heap_setCell_other W ⟨g, j, none⟩ _ v (by show w.heap.size + 1 ≠ g; omega)]; exact h.zb
  · rw [heap_setCell_same W g j _ 35 v h.fb, hv]
theorem RdM.drew {w W : World} {g : Nat} {s : ByteArray} {f : Fr} (h : RdM w g s f W) : RdM w g s f W.drew := ⟨h.q.drew, h.sb, h.zb, h.fb, h.hg⟩
theorem RdM.scell {w W : World} {g : Nat} {s : ByteArray} {f : Fr} (h : RdM w g s f W) : W.cell? ⟨w.heap.size, 0, none⟩ = some (.string s) := by simp [World.cell?, h.sb]
theorem RdM.lt {w W : World} {g : Nat} {s : ByteArray} {f : Fr} (h : RdM w g s f W) : g < W.heap.size := aH h.fb
set_option maxRecDepth 100000 in
set_option maxHeartbeats 4000000 in
theorem frRead_no (s : ByteArray) (w : World) (v e0 : Int) (hs : s.size ≤ maxLen) (h : (e0 != 0) = true ∨ (e0 != 0) = false ∧ (v != (s.size : Int)) = true)
    (SZ : ∀ W, Calls Tryz.prog 134 #[.string s] W fun e w' => e = .returned (.tuple #[.int .i64 v, .int .i64 e0]) ∧ Below W.heap.size W w') :
    Calls Tryz.prog 176 #[.string s] w fun e w' => e = .returned (.tuple #[.agg #[.int .u32 0, .bool false, .bool false, .int .i64 0, .string ⟨#[]⟩], .int .i64 12]) ∧ Below w.heap.size w w' := by
  have S := aA SZ
  clear SZ
  unfold maxLen at hs
  have q0 : Below w.heap.size w ((w.alloc (.cells #[.string s] 9)).alloc (.cells #[.int .u32 0, .bool false, .bool false, .int .i64 0, .string ⟨#[]⟩] 35)) := ((Below.refl _ _).alloc (Nat.le_refl _) _).alloc (by simp) _
  have B0 := aA (show ((w.alloc (.cells #[.string s] 9)).alloc (.cells #[.int .u32 0, .bool false, .bool false, .int .i64 0, .string ⟨#[]⟩] 35)).heap[w.heap.size + 1]? = some (.cells #[.int .u32 0, .bool false, .bool false, .int .i64 0, .string ⟨#[]⟩] 35 (0, 0)) from (gT _ _ _).2)
  have B1 := aA (show ((w.alloc (.cells #[.string s] 9)).alloc (.cells #[.int .u32 0, .bool false, .bool false, .int .i64 0, .string ⟨#[]⟩] 35)).heap[w.heap.size]? = some (.cells #[.string s] 9 (0, 0)) from (gT _ _ _).1)
  rcases h with h | ⟨h1, h⟩
  all_goals
    go_enter Tryz.func176, Tryz.ntmps176
    go_wp2_with fail
    refine (S.out _).mono ?_
    rintro e1 w1 ⟨rfl, q1⟩
    have C1 : Hid (w1.heap[w.heap.size + 1]? = _) := aA (aB B0.out q1)
    have Q1 := aA (aC q0 q0.size q1)
    have c0 : w1.cell? ⟨w.heap.size, 0, none⟩ = some (.string s) := by have := aB B1.out q1; simp [World.cell?, this]
    clear q0 B0 q1 B1
    go_wp2_with (refine aF (by rfl) 35 (.tmp 2) (.tmp 23) (by rfl) (w.heap.size + 1) 0 [.int .u32 0, .bool false, .bool false, .int .i64 0, .string ⟨#[]⟩] (by rfl) (by rfl) (by exact aK (cs := [_, _, _, _, _]) C1.out) (by kernel_rfl) (by simp [Value.oneCell']) ?_)
    intro W2 e2
    have C2 := aJ [.int .u32 0, .bool false, .bool false, .int .i64 0, .string ⟨#[]⟩] (xs := [_, _, _, _, _]) C1.out rfl
    have q2 := Q1.out.trans (aE (g := w.heap.size + 1) [.int .u32 0, .bool false, .bool false, .int .i64 0, .string ⟨#[]⟩] 0 w1 (by omega))
    rw [← e2.out] at C2 q2
    clear e2
    obtain ⟨y0, y1, y2, y3, y4⟩ := eN (id := 0) C2
    have Q2 := aA q2
    clear C2 q2
    go_wp2
    refine bodyPost_ret (v := .tuple #[.agg #[.int .u32 0, .bool false, .bool false, .int .i64 0, .string ⟨#[]⟩], .int .i64 12]) (by simp [results, Tryz.results176, go_sem, y0, y1, y2, y3, y4]) rfl ⟨rfl, Q2.out⟩
end Go.Proofs.YtkmddjbialpppaaGreatDoor
