/- The walks of the reference's Size of heads and Step of stuffing. -/
import Derived.Test.YtmfgifinmeonjaaDoorRdF
namespace Go.Proofs.YtmfgifinmeonjaaDoor
open Go.ChangeShapes Go.WideShapes Go.ChangeAt Go.RowKit
open FP (bit bitsOf numOf Fr sizeE sizeV fxN dlN uN uK)

set_option maxRecDepth 100000 in
set_option maxHeartbeats 4000000 in
theorem refSize_any (s : ByteArray) (w : World) (hb : ∀ c ∈ s.data.toList, c = 48 ∨ c = 49) (hs : s.size ≤ 4000) :
    Calls Tryd.prog 32 #[.string s] w fun e w' => e = .returned (.tuple #[.int .i64 (sizeV s.data.toList : Nat), .int .i64 (sizeE s.data.toList : Nat)]) ∧ w = w' := by
  have LS := hide (show s.data.toList.length = s.size from Array.length_toList)
  have BT := hide (fun j (hj : j < s.size) => show s[j] = 48 ∨ s[j] = 49 from hb _ (List.getElem_mem (l := s.data.toList) (by rw [LS.out]; exact hj)))
  have NB := hide (fun a b (h : b ≤ s.size) (h2 : b ≤ a + 60) W => refNumber_any (s.extract a b) (by rw [ByteArray.size_extract]; omega) W)
  have GS := hide (fun j (h : j < s.size) => get_some s j h)
  have SE := hide (show sizeE s.data.toList = if s.data.toList.length < 14 then 3 else if s.data.toList.length < fxN s.data.toList then 3 else if 8 < dlN s.data.toList then 12 else 0 from rfl)
  have SV := hide (show sizeV s.data.toList = if sizeE s.data.toList = 0 then fxN s.data.toList + 8 * (if s.data.toList[fxN s.data.toList - 7]? = some 49 then 0 else dlN s.data.toList) else 0 from rfl)
  have FX := hide (show fxN s.data.toList = if s.data.toList[13]? = some 49 then 39 else 19 from rfl)
  have DL := hide (show dlN s.data.toList = numOf (s.data.toList.extract (fxN s.data.toList - 4) (fxN s.data.toList)) from rfl)
  generalize sizeE s.data.toList = se at *
  generalize sizeV s.data.toList = sv at *
  generalize fxN s.data.toList = fx at *
  generalize dlN s.data.toList = dl at *
  rw [LS.out] at SE
  by_cases h14 : s.size < 14
  · have e1 := SE.out
    rw [if_pos h14] at e1
    have e2 := SV.out
    rw [e1, if_neg (by omega)] at e2
    rw [e1, e2]
    clear SE SV FX DL NB GS BT e1 e2 hb
    go_enter Tryd.func32, Tryd.ntmps32
    go_wp2_with fail
    go_ret2
    exact ⟨rfl, rfl⟩
  · have h14' : 13 < s.size := by omega
    have E := SE.out
    rw [if_neg h14] at E
    replace SE := hide E
    clear E
    have g13 := GS.out 13 h14'
    have b13 := bit_eq (BT.out 13 h14')
    rw [← g13] at b13
    by_cases hx : s.data.toList[13]? = some 49
    · have hfx := FX.out
      rw [if_pos hx] at hfx
      subst hfx
      rw [decide_eq_true hx] at b13
      clear g13 hx FX
      by_cases hK : s.size < 39
      · have e1 := SE.out
        rw [if_pos hK] at e1
        have e2 := SV.out
        rw [e1, if_neg (by omega)] at e2
        rw [e1, e2]
        clear SE SV DL NB GS BT e1 e2 hb
        go_enter Tryd.func32, Tryd.ntmps32
        go_wp2_with fail
        go_ret2
        exact ⟨rfl, rfl⟩
      · have hK' : 39 ≤ s.size := by omega
        have E := SE.out
        rw [if_neg hK] at E
        replace SE := hide E
        clear E
        have N1 := hide (NB.out 35 39 (by omega) (by omega))
        rw [toList_extract] at N1
        have D2 : dl = numOf (s.data.toList.extract 35 39) := DL.out
        rw [← D2] at N1
        have hdl : dl < 16 := by
          have h := FP.numOf_lt (s.data.toList.extract 35 39)
          rw [← D2] at h
          have h2 : (s.data.toList.extract 35 39).length ≤ 4 := by rw [List.extract_eq_take_drop, List.length_take]; omega
          have h3 := Nat.pow_le_pow_right (n := 2) (by omega) h2
          omega
        have bA := bit_eq (BT.out 32 (by omega))
        have gA := GS.out 32 (by omega)
        rw [← gA] at bA
        have hdl' : IntKind.i64.wrap (dl : Int) = dl := IntWalk.i64_in _ (by omega)
        clear NB BT GS DL D2 gA hb
        by_cases h8 : 8 < dl
        · have e1 := SE.out
          rw [if_pos h8] at e1
          have e2 := SV.out
          rw [e1, if_neg (by omega)] at e2
          rw [e1, e2]
          clear SE SV e1 e2 bA
          go_enter Tryd.func32, Tryd.ntmps32
          go_wp2_with fail
          refine (N1.out _).mono ?_
          rintro e2 w2 ⟨rfl, rfl⟩
          go_wp2_with fail
          go_ret2
          exact ⟨rfl, rfl⟩
        · have e1 := SE.out
          rw [if_neg h8] at e1
          have e2 := SV.out
          rw [e1, if_pos rfl] at e2
          rw [e1]
          have e2' : sv = 39 + 8 * (if s.data.toList[32]? = some 49 then 0 else dl) := e2
          clear SE SV e2
          by_cases hA : s.data.toList[32]? = some 49
          · rw [if_pos hA] at e2'
            rw [decide_eq_true hA] at bA
            rw [e2']
            clear e2' e1 hA
            go_enter Tryd.func32, Tryd.ntmps32
            go_wp2_with fail
            refine (N1.out _).mono ?_
            rintro e2 w2 ⟨rfl, rfl⟩
            go_wp2_with fail
            go_ret2
            exact ⟨rfl, rfl⟩
          · rw [if_neg hA] at e2'
            rw [decide_eq_false hA] at bA
            rw [e2']
            clear e2' e1 hA
            go_enter Tryd.func32, Tryd.ntmps32
            go_wp2_with fail
            refine (N1.out _).mono ?_
            rintro e2 w2 ⟨rfl, rfl⟩
            go_wp2_with fail
            go_ret2
            exact ⟨by simp, rfl⟩
    · have hfx := FX.out
      rw [if_neg hx] at hfx
      subst hfx
      rw [decide_eq_false hx] at b13
      clear g13 hx FX
      by_cases hK : s.size < 19
      · have e1 := SE.out
        rw [if_pos hK] at e1
        have e2 := SV.out
        rw [e1, if_neg (by omega)] at e2
        rw [e1, e2]
        clear SE SV DL NB GS BT e1 e2 hb
        go_enter Tryd.func32, Tryd.ntmps32
        go_wp2_with fail
        go_ret2
        exact ⟨rfl, rfl⟩
      · have hK' : 19 ≤ s.size := by omega
        have E := SE.out
        rw [if_neg hK] at E
        replace SE := hide E
        clear E
        have N1 := hide (NB.out 15 19 (by omega) (by omega))
        rw [toList_extract] at N1
        have D2 : dl = numOf (s.data.toList.extract 15 19) := DL.out
        rw [← D2] at N1
        have hdl : dl < 16 := by
          have h := FP.numOf_lt (s.data.toList.extract 15 19)
          rw [← D2] at h
          have h2 : (s.data.toList.extract 15 19).length ≤ 4 := by rw [List.extract_eq_take_drop, List.length_take]; omega
          have h3 := Nat.pow_le_pow_right (n := 2) (by omega) h2
          omega
        have bA := bit_eq (BT.out 12 (by omega))
        have gA := GS.out 12 (by omega)
        rw [← gA] at bA
        have hdl' : IntKind.i64.wrap (dl : Int) = dl := IntWalk.i64_in _ (by omega)
        clear NB BT GS DL D2 gA hb
        by_cases h8 : 8 < dl
        · have e1 := SE.out
          rw [if_pos h8] at e1
          have e2 := SV.out
          rw [e1, if_neg (by omega)] at e2
          rw [e1, e2]
          clear SE SV e1 e2 bA
          go_enter Tryd.func32, Tryd.ntmps32
          go_wp2_with fail
          refine (N1.out _).mono ?_
          rintro e2 w2 ⟨rfl, rfl⟩
          go_wp2_with fail
          go_ret2
          exact ⟨rfl, rfl⟩
        · have e1 := SE.out
          rw [if_neg h8] at e1
          have e2 := SV.out
          rw [e1, if_pos rfl] at e2
          rw [e1]
          have e2' : sv = 19 + 8 * (if s.data.toList[12]? = some 49 then 0 else dl) := e2
          clear SE SV e2
          by_cases hA : s.data.toList[12]? = some 49
          · rw [if_pos hA] at e2'
            rw [decide_eq_true hA] at bA
            rw [e2']
            clear e2' e1 hA
            go_enter Tryd.func32, Tryd.ntmps32
            go_wp2_with fail
            refine (N1.out _).mono ?_
            rintro e2 w2 ⟨rfl, rfl⟩
            go_wp2_with fail
            go_ret2
            exact ⟨rfl, rfl⟩
          · rw [if_neg hA] at e2'
            rw [decide_eq_false hA] at bA
            rw [e2']
            clear e2' e1 hA
            go_enter Tryd.func32, Tryd.ntmps32
            go_wp2_with fail
            refine (N1.out _).mono ?_
            rintro e2 w2 ⟨rfl, rfl⟩
            go_wp2_with fail
            go_ret2
            exact ⟨by simp, rfl⟩
set_option maxRecDepth 100000 in
set_option maxHeartbeats 1000000 in
theorem refStep_any (last c : UInt8) (n : Nat) (w : World) (hn : n ≤ 5) :
    Calls Tryd.prog 71 #[.agg #[.int .u8 last.toNat, .int .i64 n], .int .u8 c.toNat] w fun e w' => e = .returned (.tuple #[.agg #[.int .u8 c.toNat, .int .i64 (uN last n c : Nat)], .int .i64 (uK last n c : Nat)]) ∧ Below w.heap.size w w' := by
  have q0 : Below w.heap.size w ((w.alloc (.cells #[.int .u8 last.toNat, .int .i64 n] 94)).alloc (.cells #[.int .u8 0, .int .i64 0] 94)) := ((Below.refl _ _).alloc (Nat.le_refl _) _).alloc (by simp) _
  have B0 := hide (show ((w.alloc (.cells #[.int .u8 last.toNat, .int .i64 n] 94)).alloc (.cells #[.int .u8 0, .int .i64 0] 94)).heap[w.heap.size + 1]? = some (.cells #[.int .u8 0, .int .i64 0] 94 (0, 0)) from (two_new _ _ _).2)
  by_cases h5 : n = 5
  · have e5 : ((n : Int) == 5) = true := by rw [h5]; rfl
    by_cases hc : c = last
    · subst hc
      have KN := hide (show uN c n c = n by rw [h5]; simp [FP.uN])
      have KU := hide (show uK c n c = 3 by rw [h5]; simp [FP.uK])
      generalize uN c n c = un at *
      generalize uK c n c = uk at *
      clear h5
      go_enter Tryd.func71, Tryd.ntmps71
      go_wp2_with (refine wpList_store_hid (by rfl) 94 (.tmp 4) (.tmp 15) (by rfl) (w.heap.size + 1) 0 [.int .u8 c.toNat, .int .i64 n] (by rfl) (by rfl) (by exact (show World.there _ (w.heap.size + 1) 0 2 from there_heap (cs := [_, _]) B0.out)) (by kernel_rfl) (by simp [Value.oneCell']) ?_)
      intro We ee
      have Cz := whole_heap [.int .u8 c.toNat, .int .i64 n] (xs := [_, _]) B0.out rfl
      have qz := q0.trans (below_setCells (g := w.heap.size + 1) [.int .u8 c.toNat, .int .i64 n] 0 _ (by omega))
      rw [← ee.out] at Cz qz
      clear ee B0 q0
      obtain ⟨z0, z1, _⟩ := two_st Cz
      have Qz := hide qz
      clear Cz qz
      go_wp2_with fail
      refine bodyPost_ret (v := .tuple #[.agg #[.int .u8 c.toNat, .int .i64 n], .int .i64 3]) (by simp [results, Tryd.results71, go_sem, z0, z1]) rfl ⟨by rw [KU.out, KN.out]; rfl, Qz.out⟩
    · have e1 : ((c.toNat : Int) == (last.toNat : Int)) = false := by
        rw [beq_eq_false_iff_ne]; intro e; exact hc (UInt8.toNat_inj.1 (by omega))
      have KN := hide (show uN last n c = 1 by rw [h5]; simp [FP.uN, hc])
      have KU := hide (show uK last n c = 2 by rw [h5]; simp [FP.uK, hc])
      generalize uN last n c = un at *
      generalize uK last n c = uk at *
      clear hc h5
      go_enter Tryd.func71, Tryd.ntmps71
      go_wp2_with (refine wpList_store_hid (by rfl) 94 (.tmp 4) (.tmp 20) (by rfl) (w.heap.size + 1) 0 [.int .u8 c.toNat, .int .i64 1] (by rfl) (by rfl) (by exact (show World.there _ (w.heap.size + 1) 0 2 from there_heap (cs := [_, _]) B0.out)) (by kernel_rfl) (by simp [Value.oneCell']) ?_)
      intro We ee
      have Cz := whole_heap [.int .u8 c.toNat, .int .i64 1] (xs := [_, _]) B0.out rfl
      have qz := q0.trans (below_setCells (g := w.heap.size + 1) [.int .u8 c.toNat, .int .i64 1] 0 _ (by omega))
      rw [← ee.out] at Cz qz
      clear ee B0 q0
      obtain ⟨z0, z1, _⟩ := two_st Cz
      have Qz := hide qz
      clear Cz qz
      go_wp2_with fail
      refine bodyPost_ret (v := .tuple #[.agg #[.int .u8 c.toNat, .int .i64 1], .int .i64 2]) (by simp [results, Tryd.results71, go_sem, z0, z1]) rfl ⟨by rw [KU.out, KN.out]; rfl, Qz.out⟩
  · have e5 : ((n : Int) == 5) = false := by rw [beq_eq_false_iff_ne]; omega
    have hn4 : n ≤ 4 := by omega
    by_cases hc : c = last
    · subst hc
      have KN := hide (show uN c n c = n + 1 by simp [FP.uN, h5])
      have KU := hide (show uK c n c = 1 by simp [FP.uK, h5])
      generalize uN c n c = un at *
      generalize uK c n c = uk at *
      clear h5
      go_enter Tryd.func71, Tryd.ntmps71
      go_wp2_with (refine wpList_store_hid (by rfl) 94 (.tmp 4) (.tmp 29) (by rfl) (w.heap.size + 1) 0 [.int .u8 c.toNat, .int .i64 ((n : Int) + 1)] (by rfl) (by rfl) (by exact (show World.there _ (w.heap.size + 1) 0 2 from there_heap (cs := [_, _]) B0.out)) (by kernel_rfl) (by simp [Value.oneCell']) ?_)
      intro We ee
      have Cz := whole_heap [.int .u8 c.toNat, .int .i64 ((n : Int) + 1)] (xs := [_, _]) B0.out rfl
      have qz := q0.trans (below_setCells (g := w.heap.size + 1) [.int .u8 c.toNat, .int .i64 ((n : Int) + 1)] 0 _ (by omega))
      rw [← ee.out] at Cz qz
      clear ee B0 q0
      obtain ⟨z0, z1, _⟩ := two_st Cz
      have Qz := hide qz
      clear Cz qz
      go_wp2_with fail
      refine bodyPost_ret (v := .tuple #[.agg #[.int .u8 c.toNat, .int .i64 ((n : Int) + 1)], .int .i64 1]) (by simp [results, Tryd.results71, go_sem, z0, z1]) rfl ⟨by rw [KU.out, KN.out]; rfl, Qz.out⟩
    · have e1 : ((c.toNat : Int) == (last.toNat : Int)) = false := by
        rw [beq_eq_false_iff_ne]; intro e; exact hc (UInt8.toNat_inj.1 (by omega))
      have KN := hide (show uN last n c = 1 by simp [FP.uN, h5, hc])
      have KU := hide (show uK last n c = 1 by simp [FP.uK, h5])
      generalize uN last n c = un at *
      generalize uK last n c = uk at *
      clear h5 hc
      go_enter Tryd.func71, Tryd.ntmps71
      go_wp2_with (refine wpList_store_hid (by rfl) 94 (.tmp 4) (.tmp 31) (by rfl) (w.heap.size + 1) 0 [.int .u8 c.toNat, .int .i64 1] (by rfl) (by rfl) (by exact (show World.there _ (w.heap.size + 1) 0 2 from there_heap (cs := [_, _]) B0.out)) (by kernel_rfl) (by simp [Value.oneCell']) ?_)
      intro We ee
      have Cz := whole_heap [.int .u8 c.toNat, .int .i64 1] (xs := [_, _]) B0.out rfl
      have qz := q0.trans (below_setCells (g := w.heap.size + 1) [.int .u8 c.toNat, .int .i64 1] 0 _ (by omega))
      rw [← ee.out] at Cz qz
      clear ee B0 q0
      obtain ⟨z0, z1, _⟩ := two_st Cz
      have Qz := hide qz
      clear Cz qz
      go_wp2_with fail
      refine bodyPost_ret (v := .tuple #[.agg #[.int .u8 c.toNat, .int .i64 1], .int .i64 1]) (by simp [results, Tryd.results71, go_sem, z0, z1]) rfl ⟨by rw [KU.out, KN.out]; rfl, Qz.out⟩
end Go.Proofs.YtmfgifinmeonjaaDoor
