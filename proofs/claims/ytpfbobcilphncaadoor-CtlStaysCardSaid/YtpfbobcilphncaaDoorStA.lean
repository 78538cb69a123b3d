/- The walks of the reference's stuffing. -/
import Derived.Test.YtpfbobcilphncaaDoorMem
import Derived.Test.YtpfbobcilphncaaDoorMgCtQ
namespace Go.Proofs.YtpfbobcilphncaaDoor
open Go.ChangeShapes Go.WideShapes Go.ChangeAt Go.RowKit
open FP (SS SInv ssN ssStep stuffS stuffF oth equalB)

theorem equalB_true {l : List UInt8} {fr : Nat} (h : 5 ≤ l.length - fr) (ha : ∀ m, m < 5 → l[l.length - 5 + m]? = l[l.length - 1]?) : equalB l fr = true := by
  unfold equalB
  rw [decide_eq_true h, Bool.true_and, List.all_eq_true]
  intro j hj
  rw [List.mem_range] at hj
  have := ha (4 - j) (by omega)
  rw [show l.length - 5 + (4 - j) = l.length - 1 - j by omega] at this
  rw [this]
  simp
theorem equalB_false {l : List UInt8} {fr m : Nat} (h : 5 ≤ l.length - fr) (hm : m < 5) (ha : l[l.length - 5 + m]? ≠ l[l.length - 1]?) : equalB l fr = false := by
  unfold equalB
  rw [Bool.and_eq_false_iff]
  right
  rw [List.all_eq_false]
  refine ⟨4 - m, by rw [List.mem_range]; omega, ?_⟩
  rw [show l.length - 1 - (4 - m) = l.length - 5 + m by omega]
  simpa using ha
theorem equalB_short {l : List UInt8} {fr : Nat} (h : ¬ 5 ≤ l.length - fr) : equalB l fr = false := by
  unfold equalB
  rw [decide_eq_false h, Bool.false_and]

set_option maxRecDepth 100000 in
set_option maxHeartbeats 1000000 in
theorem refEqual_any (s : ByteArray) (fr : Nat) (w : World) (hf : fr ≤ s.size) (hs : s.size ≤ 100000) :
    Calls Tryd.prog 32 #[.string s, .int .i64 fr] w fun e w' => e = .returned (.bool (equalB s.data.toList fr)) ∧ Below w.heap.size w w' := by
  have LS := hide (show s.data.toList.length = s.size from Array.length_toList)
  have AT := hide (fun j (hj : j < s.size) => show s.data.toList[j]? = some s[j] from by rw [List.getElem?_eq_getElem (by simpa using hj)]; rfl)
  by_cases h5 : 5 ≤ s.size - fr
  · have ET := hide (fun (ha : ∀ m, m < 5 → s.data.toList[s.data.toList.length - 5 + m]? = s.data.toList[s.data.toList.length - 1]?) => equalB_true (fr := fr) (by rw [LS.out]; exact h5) ha)
    have EF := hide (fun m (hm : m < 5) (ha : s.data.toList[s.data.toList.length - 5 + m]? ≠ s.data.toList[s.data.toList.length - 1]?) => equalB_false (fr := fr) (by rw [LS.out]; exact h5) hm ha)
    rw [LS.out] at ET EF
    generalize equalB s.data.toList fr = eb at *
    obtain ⟨m, hm⟩ : ∃ m : Nat, (s.size : Int) - 1 = m := ⟨s.size - 1, by omega⟩
    have hms : m < s.size := by omega
    have AT1 := AT.out m hms
    have em : s.size - 1 = m := by omega
    rw [em] at ET EF
    clear em
    have h6 : ¬ (s.size : Int) - fr < 5 := by omega
    have hs5 : 5 ≤ s.size := by omega
    go_enter Tryd.func32, Tryd.ntmps32
    go_wp2
    go_loopw [6] (fun i W => ∃ j : Nat, s.size - 5 ≤ j ∧ j ≤ s.size ∧ i = .int .i64 j ∧ Hid (∀ m', s.size - 5 + m' < j → s.data.toList[s.size - 5 + m']? = s.data.toList[m]?) ∧ Below w.heap.size w W) (fun i _ => s.size - (intOf i).toNat)
    case atStart => exact ⟨s.size - 5, by omega, by omega, by congr 1; omega, hide (fun m h => by omega), Below.refl _ _⟩
    case round =>
      obtain ⟨j, hj5, hj, rfl, H, q⟩ := hrel
      by_cases hlt : j < s.size
      · have ATj := AT.out j hlt
        by_cases hq : s[j] = s[m]
        · have e1 : ((s[j].toNat : Int) != (s[m].toNat : Int)) = false := by rw [hq]; simp
          have H2 := hide (show ∀ m', s.size - 5 + m' < j + 1 → s.data.toList[s.size - 5 + m']? = s.data.toList[m]? from fun m' hm => by
            by_cases e : s.size - 5 + m' = j
            · rw [e, ATj, AT1, hq]
            · exact H.out m' (by omega))
          clear ATj AT1 hq
          go_wp2_with fail
          refine wp_region_tame (by kernel_rfl) (by kernel_rfl) ?_
          repeat (go_big_quiet_step (fail))
          refine wpQuiet_nil ?_
          rintro _ ⟨sw, rfl⟩
          have q2 := below_next q q.size sw.h
          go_wp2
          go_roundw
          case rel => exact ⟨j + 1, by omega, by omega, by go_num, H2, q2⟩
          case measure => simp [intOf]; omega
        · have e1 : ((s[j].toNat : Int) != (s[m].toNat : Int)) = true := by
            rw [bne_iff_ne]; intro e; exact hq (UInt8.toNat_inj.1 (by omega))
          have E2 := hide (EF.out (j - (s.size - 5)) (by omega) (by rw [show s.size - 5 + (j - (s.size - 5)) = j by omega, ATj, AT1]; exact fun e => hq (Option.some.inj e)))
          clear ATj AT1 hq
          go_wp2_with fail
          refine wp_region_tame (by kernel_rfl) (by kernel_rfl) ?_
          repeat (go_big_quiet_step (fail))
          refine wpQuiet_nil ?_
          rintro _ ⟨sw, rfl⟩
          have q2 := below_next q q.size sw.h
          go_wp2
          go_ret
          exact ⟨ret_bool E2.out.symm, q2⟩
      · have E2 := hide (ET.out (fun m hm => H.out m (by omega)))
        go_wp2
        go_ret
        exact ⟨ret_bool E2.out.symm, q⟩
  · have E := equalB_short (l := s.data.toList) (fr := fr) (by rw [LS.out]; exact h5)
    rw [E]
    have h6 : (s.size : Int) - fr < 5 := by omega
    go_enter Tryd.func32, Tryd.ntmps32
    go_wp2
    go_ret
    exact ⟨rfl, Below.refl _ _⟩
end Go.Proofs.YtpfbobcilphncaaDoor
