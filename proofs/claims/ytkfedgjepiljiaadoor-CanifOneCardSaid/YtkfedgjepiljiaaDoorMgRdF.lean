/- The walk of frame.Parse. -/
import Derived.Test.YtkfedgjepiljiaaDoorMgRdE
import Derived.Test.YtkfedgjepiljiaaDoorRdC
import Derived.Test.YtkfedgjepiljiaaDoorMgIfP
import Derived.Test.YtkfedgjepiljiaaDoorMgCtA
namespace Go.Proofs.YtkfedgjepiljiaaDoor
open Go.ChangeShapes Go.WideShapes Go.ChangeAt Go.RowKit
open FP (bit bitsOf numOf Fr headF sizeE sizeV fxN dlN rawF readB sizedB readV readE fr0 parseF stuffedF SR PR tailE headOf sumF crcOf)

theorem frRead_any (s : ByteArray) (w : World) (hb : ∀ c ∈ s.data.toList, c = 48 ∨ c = 49) (hs : s.size ≤ 4000) :
    Calls Tryd.prog 58 #[.string s] w fun e w' => e = .returned (.tuple #[.agg #[.int .u32 (readV s.data.toList).id, .bool (readV s.data.toList).ext, .bool (readV s.data.toList).rem, .int .i64 (readV s.data.toList).dlc, .string (readV s.data.toList).data], .int .i64 (readE s.data.toList : Nat)]) ∧ Below w.heap.size w w' := by
  cases hz : sizedB s.data.toList with
  | true => exact frRead_sized s w hb hs hz
  | false =>
    have LS : s.data.toList.length = s.size := Array.length_toList
    have hr : readB s.data.toList = false := by unfold readB; rw [hz]; rfl
    obtain ⟨r1, r2⟩ := FP.read_not hr
    rw [r1, r2]
    refine frRead_no s w (sizeV s.data.toList : Nat) (sizeE s.data.toList : Nat) (by unfold maxLen; omega) ?_ (fun W => frSize_any s W hb hs)
    by_cases he : sizeE s.data.toList = 0
    · right
      refine ⟨by rw [he]; rfl, ?_⟩
      rw [bne_iff_ne]
      intro h
      unfold sizedB at hz
      rw [decide_eq_true he, decide_eq_true (show sizeV s.data.toList = s.data.toList.length by omega)] at hz
      cases hz
    · left
      rw [bne_iff_ne]; omega

theorem tail_step (s : List UInt8) (n : Nat) {i : Nat} (h : i < 10) : tailE s n (10 - i) = if s.length ≤ n + i then 3 else if i ≠ 1 ∧ s[n + i]? ≠ some 49 then 12 else tailE s n (10 - (i + 1)) := by
  obtain ⟨j, hj⟩ : ∃ j, 10 - i = j + 1 := ⟨9 - i, by omega⟩
  rw [hj, show 10 - (i + 1) = j by omega]
  conv => lhs; unfold tailE
  rw [show 9 - j = i by omega]
theorem tail_zero (s : List UInt8) (n : Nat) : tailE s n (10 - 10) = 0 := rfl

end Go.Proofs.YtkfedgjepiljiaaDoor

/- Walks of ctl.size, ctl.good. -/
namespace Go.Proofs.YtkfedgjepiljiaaDoor
open Go.ChangeShapes Go.WideShapes Go.ChangeAt Go.RowKit
open FP (Fr uN uK doneB sizeE sizeV readB readV readE headOf goodB crcOf)

def sizC (l : List UInt8) : Nat := if sizeE l = 0 then sizeV l + 15 else 0
set_option maxRecDepth 100000 in
set_option maxHeartbeats 2000000 in
theorem ctlSize_any (s : ByteArray) (w : World) (hb : ∀ c ∈ s.data.toList, c = 48 ∨ c = 49) (hs : s.size ≤ 4000) :
    Calls Tryd.prog 44 #[.string s] w fun e w' => e = .returned (.int .i64 (sizC s.data.toList : Nat)) ∧ Below w.heap.size w w' := by
  have SZ := hide (fun W => frSize_any s W hb hs)
  have hc : sizC s.data.toList = if sizeE s.data.toList = 0 then sizeV s.data.toList + 15 else 0 := rfl
  have hbd := FP.sizeV_bd s.data.toList
  generalize sizC s.data.toList = z at *
  generalize sizeE s.data.toList = e at *
  generalize sizeV s.data.toList = v at *
  by_cases h0 : e = 0
  · rw [if_pos h0] at hc
    have HZ := hide (show (z : Int) = (v : Int) + 15 by omega)
    subst h0
    clear hc hb hs
    go_enter Tryd.func44, Tryd.ntmps44
    go_wp2_with fail
    (with_reducible refine (SZ.out _).mono ?_)
    rintro e1 w1 ⟨rfl, q1⟩
    have Q1 := hide q1
    clear q1 SZ
    go_wp2_with fail
    go_ret
    exact ⟨by rw [HZ.out]; rfl, Q1.out⟩
  · rw [if_neg h0] at hc
    subst hc
    have hn : ((e : Int) != 0) = true := by rw [bne_iff_ne]; omega
    clear hb hs
    go_enter Tryd.func44, Tryd.ntmps44
    go_wp2_with fail
    (with_reducible refine (SZ.out _).mono ?_)
    rintro e1 w1 ⟨rfl, q1⟩
    have Q1 := hide q1
    clear q1 SZ
    go_wp2_with fail
    go_ret
    exact ⟨rfl, Q1.out⟩

set_option maxRecDepth 100000 in
set_option maxHeartbeats 2000000 in
theorem ctlGood_any (s : ByteArray) (w : World) (hb : ∀ c ∈ s.data.toList, c = 48 ∨ c = 49) (hs : s.size ≤ 4000) :
    Calls Tryd.prog 45 #[.string s] w fun e w' => e = .returned (.bool (goodB s.data.toList)) ∧ Below w.heap.size w w' := by
  have LS : s.data.toList.length = s.size := Array.length_toList
  have BR : bitRow s.data.toList = true := bitRow_iff.2 ⟨by omega, hb⟩
  have CK := hide (fun W => crcCheck_any s W BR hs)
  obtain ⟨r, hr⟩ : ∃ r, r = goodB s.data.toList := ⟨_, rfl⟩
  rw [← hr]
  unfold goodB at hr
  by_cases h15 : 15 ≤ s.size
  · rw [LS, decide_eq_true h15, Bool.true_and] at hr
    obtain ⟨m, hm⟩ : ∃ m : Nat, (s.size : Int) - 15 = m := ⟨s.size - 15, by omega⟩
    have HH : headOf s.data.toList = (s.extract 0 m).data.toList := by
      unfold headOf
      rw [LS, toList_extract, List.extract_eq_take_drop, List.drop_zero, Nat.sub_zero, show m = s.size - 15 by omega]
    rw [HH] at hr
    have RD := hide (fun W => frRead_any (s.extract 0 m) W (extract_bits hb _ _) (by rw [ByteArray.size_extract]; omega))
    rw [decide_eq_true h15, Bool.true_and] at CK
    have hE : readE (s.extract 0 m).data.toList = if readB (s.extract 0 m).data.toList then 0 else 12 := rfl
    generalize readB (s.extract 0 m).data.toList = rb at *
    generalize readE (s.extract 0 m).data.toList = re at *
    generalize readV (s.extract 0 m).data.toList = rv at *
    have h15' : ¬ (s.size : Int) < 15 := by omega
    have hml : (m : Int) ≤ s.size := by omega
    have hm4 : (m : Int) ≤ 4000 := by omega
    by_cases hc : crcOf s.data.toList = 0
    · rw [decide_eq_true hc, Bool.true_and] at hr
      rw [decide_eq_true hc] at CK
      subst hr
      cases r with
      | true =>
        have hE0 : re = 0 := hE
        subst hE0
        clear hE hc HH BR hb hs LS
        go_enter Tryd.func45, Tryd.ntmps45
        go_wp2_with fail
        (with_reducible refine (CK.out _).mono ?_)
        rintro e1 w1 ⟨rfl, q1⟩
        have Q1 := hide q1
        clear q1 CK
        go_wp2_with fail
        (with_reducible refine (RD.out _).mono ?_)
        rintro e2 w2 ⟨rfl, q2⟩
        have Q2 := hide (below_next Q1.out Q1.out.size q2)
        clear q2 RD Q1
        go_wp2_with fail
        go_ret
        exact ⟨rfl, Q2.out.alloc Q2.out.size _⟩
      | false =>
        have hE0 : re = 12 := hE
        subst hE0
        clear hE hc HH BR hb hs LS
        go_enter Tryd.func45, Tryd.ntmps45
        go_wp2_with fail
        (with_reducible refine (CK.out _).mono ?_)
        rintro e1 w1 ⟨rfl, q1⟩
        have Q1 := hide q1
        clear q1 CK
        go_wp2_with fail
        (with_reducible refine (RD.out _).mono ?_)
        rintro e2 w2 ⟨rfl, q2⟩
        have Q2 := hide (below_next Q1.out Q1.out.size q2)
        clear q2 RD Q1
        go_wp2_with fail
        go_ret
        exact ⟨rfl, Q2.out.alloc Q2.out.size _⟩
    · rw [decide_eq_false hc, Bool.false_and] at hr
      rw [decide_eq_false hc] at CK
      subst hr
      clear hE hc HH BR hb hs LS RD
      go_enter Tryd.func45, Tryd.ntmps45
      go_wp2_with fail
      (with_reducible refine (CK.out _).mono ?_)
      rintro e1 w1 ⟨rfl, q1⟩
      have Q1 := hide q1
      clear q1 CK
      go_wp2_with fail
      go_ret
      exact ⟨rfl, Q1.out⟩
  · rw [LS, decide_eq_false h15, Bool.false_and, Bool.false_and] at hr
    subst hr
    have h15' : (s.size : Int) < 15 := by omega
    clear CK BR hb hs LS
    go_enter Tryd.func45, Tryd.ntmps45
    go_wp2_with fail
    go_ret
    exact ⟨rfl, Below.refl _ _⟩
end Go.Proofs.YtkfedgjepiljiaaDoor
