/- The walks of the reference's Turn and Right of rows. -/
import Derived.Test.YtmfgifinmeonjaaDoorRdF
import Derived.Test.YtmfgifinmeonjaaDoorRdR
namespace Go.Proofs.YtmfgifinmeonjaaDoor
open Go.ChangeShapes Go.WideShapes Go.ChangeAt Go.RowKit
open FP (turnF)

theorem turn_str (s : ByteArray) (i k : Nat) (h : i < s.size) (hk : k = i + 1) (c : UInt8) (hc : (if s.data.toList[i]? = some 48 then (49 : UInt8) else 48) = c) :
    s.extract 0 i ++ ⟨#[c]⟩ ++ s.extract k s.size = ⟨(turnF s.data.toList i).toArray⟩ := by
  have LS : s.data.toList.length = s.size := Array.length_toList
  rw [ByteArray.ext_iff, ← Array.toList_inj]
  unfold turnF
  rw [hc, hk]
  simp only [ByteArray.data_append, Array.toList_append, toList_extract]
  rw [List.extract_eq_take_drop, List.extract_eq_take_drop, List.drop_zero, Nat.sub_zero, List.take_of_length_le (i := s.size - (i + 1)) (by rw [List.length_drop]; omega)]
  simp

set_option maxRecDepth 100000 in
set_option maxHeartbeats 1000000 in
theorem refTurn_any (s : ByteArray) (N : Int) (i : Nat) (w : World) (hN : N = i) (h : i < s.size) (hb : ∀ c ∈ s.data.toList, c = 48 ∨ c = 49) (hs : s.size ≤ 4000) :
    Calls Tryd.prog 35 #[.string s, .int .i64 N] w fun e w' => e = .returned (.string ⟨(turnF s.data.toList i).toArray⟩) ∧ Below w.heap.size w w' := by
  subst hN
  have hi' : (i : Int) < s.size := by omega
  obtain ⟨k, hk⟩ : ∃ k : Nat, (i : Int) + 1 = k := ⟨i + 1, by omega⟩
  have hki : k = i + 1 := by omega
  have hks : (k : Int) ≤ s.size := by omega
  have hkn : k ≤ s.size := by omega
  have g := get_some s i h
  have TS := hide (fun c hc => turn_str s i k h hki c hc)
  generalize turnF s.data.toList i = tl at *
  have LS : s.data.toList.length = s.size := Array.length_toList
  rcases hb _ (List.getElem_mem (l := s.data.toList) (n := i) (by omega)) with hc | hc
  · have hsi : s[i] = 48 := hc
    have e1 : ((s[i].toNat : Int) == 48) = true := by rw [hsi]; rfl
    have T := hide (TS.out 49 (by rw [g, hsi]; rfl))
    clear TS hc g hsi hki hb
    generalize hts : (⟨tl.toArray⟩ : ByteArray) = ts at *
    go_enter Tryd.func35, Tryd.ntmps35
    go_wp2_with fail
    refine wp_region_tame (by kernel_rfl) (by kernel_rfl) ?_
    repeat (go_big_quiet_step (fail))
    refine wpQuiet_nil ?_
    rintro _ ⟨sw, rfl⟩
    have q := sw.h
    go_wp2
    go_ret
    exact ⟨by rw [← T.out]; rfl, q⟩
  · have hsi : s[i] = 49 := hc
    have e1 : ((s[i].toNat : Int) == 48) = false := by rw [hsi]; rfl
    have T := hide (TS.out 48 (by rw [g, hsi]; rfl))
    clear TS hc g hsi hki hb
    generalize hts : (⟨tl.toArray⟩ : ByteArray) = ts at *
    go_enter Tryd.func35, Tryd.ntmps35
    go_wp2_with fail
    refine wp_region_tame (by kernel_rfl) (by kernel_rfl) ?_
    repeat (go_big_quiet_step (fail))
    refine wpQuiet_nil ?_
    rintro _ ⟨sw, rfl⟩
    have q := sw.h
    go_wp2
    go_ret
    exact ⟨by rw [← T.out]; rfl, q⟩

theorem bitRow_no {l : List UInt8} {j : Nat} {c : UInt8} (h : l[j]? = some c) (h0 : c ≠ 48) (h1 : c ≠ 49) : bitRow l = false := by
  have hm : c ∈ l := List.mem_of_getElem? h
  cases hb : bitRow l with
  | false => rfl
  | true => exact ((bitRow_iff.1 hb).2 c hm).elim (fun e => absurd e h0) (fun e => absurd e h1)

set_option maxRecDepth 100000 in
set_option maxHeartbeats 1000000 in
theorem refBits01_any (s : ByteArray) (w : World) (hs : s.size ≤ maxLen) :
    Calls Tryd.prog 31 #[.string s] w fun e w' => e = .returned (.bool (bitRow s.data.toList)) ∧ w = w' := by
  unfold maxLen at hs
  have LS := hide (show s.data.toList.length = s.size from Array.length_toList)
  have GS := hide (fun j (h : j < s.size) => get_some s j h)
  have NO := hide (fun j c h h0 h1 => bitRow_no (l := s.data.toList) (j := j) (c := c) h h0 h1)
  have YES := hide (fun (h : ∀ j, j < s.size → ∃ c, s.data.toList[j]? = some c ∧ (c = 48 ∨ c = 49)) => show bitRow s.data.toList = decide ((s.size : Int) ≤ 4000) from by
    have hall : ∀ c ∈ s.data.toList, c = 48 ∨ c = 49 := fun c hc => by
      obtain ⟨j, hj, rfl⟩ := List.getElem_of_mem hc
      obtain ⟨c, hc1, hc2⟩ := h j (by rw [← LS.out]; exact hj)
      rw [List.getElem?_eq_getElem hj, Option.some.injEq] at hc1
      rw [hc1]; exact hc2
    unfold bitRow
    rw [LS.out, List.all_eq_true.2 (fun c hc => by rcases hall c hc with rfl | rfl <;> rfl), Bool.and_true]
    congr 1
    rw [eq_iff_iff]; omega)
  generalize bitRow s.data.toList = br at *
  go_enter Tryd.func31, Tryd.ntmps31
  go_wp2
  go_loop [3] (fun vi => ∃ j : Nat, j ≤ s.size ∧ vi = .int .i64 j ∧ Hid (∀ k, k < j → ∃ c, s.data.toList[k]? = some c ∧ (c = 48 ∨ c = 49))) (fun vi => s.size - (intOf vi).toNat)
  case atStart => exact ⟨0, Nat.zero_le _, rfl, hide (fun k h => by omega)⟩
  case round =>
    obtain ⟨j, hj, rfl, H⟩ := hrel
    by_cases hlt : j < s.size
    · have hlt' : (j : Int) < s.size := by omega
      by_cases h8 : s[j] = 48
      · have e1 : ((s[j].toNat : Int) != 48) = false := by rw [h8]; rfl
        have H2 := hide (show ∀ k, k < j + 1 → ∃ c, s.data.toList[k]? = some c ∧ (c = 48 ∨ c = 49) from fun k hk => by
          by_cases e : k = j
          · subst e; exact ⟨_, GS.out k hlt, .inl h8⟩
          · exact H.out k (by omega))
        clear h8
        go_wp2
        go_round
        case rel => exact ⟨j + 1, by omega, by go_num, H2⟩
        case measure => simp [intOf]; omega
      · have e1 : ((s[j].toNat : Int) != 48) = true := by
          rw [bne_iff_ne]; intro e; exact h8 (UInt8.toNat_inj.1 (by show s[j].toNat = 48; omega))
        by_cases h9 : s[j] = 49
        · have e2 : ((s[j].toNat : Int) != 49) = false := by rw [h9]; rfl
          have H2 := hide (show ∀ k, k < j + 1 → ∃ c, s.data.toList[k]? = some c ∧ (c = 48 ∨ c = 49) from fun k hk => by
            by_cases e : k = j
            · subst e; exact ⟨_, GS.out k hlt, .inr h9⟩
            · exact H.out k (by omega))
          clear h8 h9
          go_wp2
          go_round
          case rel => exact ⟨j + 1, by omega, by go_num, H2⟩
          case measure => simp [intOf]; omega
        · have e2 : ((s[j].toNat : Int) != 49) = true := by
            rw [bne_iff_ne]; intro e; exact h9 (UInt8.toNat_inj.1 (by show s[j].toNat = 49; omega))
          have HN := hide (NO.out j _ (GS.out j hlt) h8 h9)
          clear h8 h9
          go_wp2
          go_ret
          exact ⟨by rw [HN.out]; rfl, rfl⟩
    · have HY := hide (YES.out (fun k hk => H.out k (by omega)))
      go_wp2
      all_goals
        go_ret
        exact ⟨by rw [HY.out]; first | rfl | (refine ret_bool ?_; simp; omega), rfl⟩
end Go.Proofs.YtmfgifinmeonjaaDoor
