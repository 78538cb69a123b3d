/- The walk of LoadWorst. -/
import Derived.Test.YtmfgifinmeonjaaDoorLwA
namespace Go.Proofs.YtmfgifinmeonjaaDoor
open Go.ChangeShapes Go.WideShapes Go.ChangeAt Go.RowKit
open FP (bit bitsOf Fr bitB headF bitsF stuffF sumF)

set_option maxRecDepth 100000 in
set_option maxHeartbeats 4000000 in
theorem loadWorst_walk (f : Fr) (w : World) (hid : f.id < 4294967296) (hs : f.data.size ≤ maxLen) :
    Calls Tryd.prog 4 #[.agg (frc f).toArray] w fun e w' => e = .returned (.bool true) ∧ Below w.heap.size w w' := by
  have LB := hide (fun W => loadBits_any (cutF f) W hid)
  have RR := hide (fun W => refRight04_any (cutF f) W hid)
  have LAW := hide (fun h => worst_law (f := cutF f) h)
  have V := hide (fun b (h : FP.rightB (cutF f) = b) => show lbV (cutF f) = (if b then ((bitsF (cutF f)).length : Int) + 3 else 0) ∧ headE (cutF f) = (if b then 0 else 1) from by unfold lbV headE; rw [h]; exact ⟨rfl, rfl⟩)
  have SZ := hide (fun (h : FP.rightB (cutF f) = true) => show (cutF f).data.size ≤ 8 from (FP.right_size h).1)
  generalize hR : FP.rightB (cutF f) = R at *
  obtain ⟨V1, V2⟩ := V.out R rfl
  rw [V1, V2] at LB
  clear V1 V2 V
  generalize hBL : ((bitsF (cutF f)).length : Int) = bl at *
  have HBL : bl ≤ 1000 ∨ R = false := by
    cases hr : R with
    | false => exact .inr rfl
    | true => rw [hr] at hR; have h1 := FP.bits_len hR; have h2 := FP.head_le hR; left; omega
  clear hBL hR
  obtain ⟨id, ext, rem, dlc, data⟩ := f
  dsimp only [cutF, frc] at *
  unfold maxLen at hs
  obtain ⟨m, em, hm⟩ := run_min (P := Tryd.prog) (data.size : Int) 12
  obtain ⟨k, hk⟩ : ∃ k : Nat, k = min data.size 12 := ⟨_, rfl⟩
  have hmk : m = k := by omega
  subst hmk
  have hkl : k ≤ data.size := by omega
  have hk12 : k ≤ 12 := by omega
  rw [← hk] at LB RR LAW SZ
  have hds : (data.extract 0 k).size = k := by rw [ByteArray.size_extract]; omega
  clear hk em
  generalize hdt : data.extract 0 k = dt at *
  rw [hds] at LAW SZ
  have q0 : Below w.heap.size w (w.alloc (.cells #[.int .u32 id, .bool ext, .bool rem, .int .i64 dlc, .string dt] 24)) := (Below.refl _ _).alloc (Nat.le_refl _) _
  have B0 := hide (World.alloc_heap_new w (.cells #[.int .u32 id, .bool ext, .bool rem, .int .i64 dlc, .string dt] 24))
  cases R with
  | false =>
    simp only [Bool.false_eq_true, if_false] at LB
    clear LAW SZ HBL
    go_enter Tryd.func4, Tryd.ntmps4
    go_wp2_with fail
    refine (LB.out _).mono ?_
    rintro e1 w1 ⟨rfl, q1⟩
    have Q1 := hide (below_next q0 q0.size q1)
    have B1 := hide (heap_below B0.out q1)
    clear q0 q1 B0
    go_wp2_with fail
    refine (alive22_any _).mono ?_
    rintro e2 w2 ⟨rfl, q2⟩
    have Q2 := hide (below_next Q1.out Q1.out.size q2)
    have B2 := hide (heap_below B1.out q2)
    clear Q1 q2 B1
    obtain ⟨c0, c1, c2, c3, c4⟩ := frCells B2.out
    go_wp2_with fail
    refine (RR.out _).mono ?_
    rintro e3 w3 ⟨rfl, q3⟩
    have Q3 := hide (below_next Q2.out Q2.out.size q3)
    clear Q2 q3 B2 c0 c1 c2 c3 c4
    go_wp2_with fail
    go_ret
    exact ⟨rfl, Q3.out⟩
  | true =>
    simp only [if_true] at LB
    have hbl : bl ≤ 1000 := by rcases HBL with h | h; exact h; exact absurd h (by decide)
    obtain ⟨l1, l2, l3, l4, l5⟩ := LAW.out rfl
    have hk8 := SZ.out rfl
    have WS := hide (fun e n W => worst_any e n W)
    have l1' : decide (bl + 3 ≤ wsV ext k) = true := decide_eq_true l1
    have l2' : decide (47 ≤ bl + 3) = true := decide_eq_true l2
    have l3' : decide (wsV ext k ≤ wsV true k) = true := decide_eq_true l3
    clear RR HBL LAW SZ
    go_enter Tryd.func4, Tryd.ntmps4
    go_wp2_with fail
    refine (LB.out _).mono ?_
    rintro e1 w1 ⟨rfl, q1⟩
    have Q1 := hide (below_next q0 q0.size q1)
    have B1 := hide (heap_below B0.out q1)
    clear q0 q1 B0 LB
    obtain ⟨c0, c1, c2, c3, c4⟩ := frCells B1.out
    go_wp2_with fail
    refine (WS.out _ _ _).mono ?_
    rintro e2 w2 ⟨rfl, q2⟩
    have Q2 := hide (below_next Q1.out Q1.out.size q2)
    have B2 := hide (heap_below B1.out q2)
    clear Q1 q2 B1 c0 c1 c2 c3 c4
    obtain ⟨c0, c1, c2, c3, c4⟩ := frCells B2.out
    go_wp2_with fail
    refine (WS.out _ _ _).mono ?_
    rintro e3 w3 ⟨rfl, q3⟩
    have Q3 := hide (below_next Q2.out Q2.out.size q3)
    have B3 := hide (heap_below B2.out q3)
    clear Q2 q3 B2 c0 c1 c2 c3 c4
    obtain ⟨c0, c1, c2, c3, c4⟩ := frCells B3.out
    go_wp2_with fail
    refine (WS.out _ _ _).mono ?_
    rintro e4 w4 ⟨rfl, q4⟩
    have Q4 := hide (below_next Q3.out Q3.out.size q4)
    have B4 := hide (heap_below B3.out q4)
    clear Q3 q4 B3 c0 c1 c2 c3 c4
    go_wp2_with fail
    refine (alive22_any _).mono ?_
    rintro e5 w5 ⟨rfl, q5⟩
    have Q5 := hide (below_next Q4.out Q4.out.size q5)
    have B5 := hide (heap_below B4.out q5)
    clear Q4 q5 B4
    obtain ⟨c0, c1, c2, c3, c4⟩ := frCells B5.out
    by_cases h8 : (k : Int) = 8
    · have e8 : ((k : Int) == 8) = true := by rw [h8]; rfl
      generalize wsV ext k = v1 at *
      generalize wsV true k = v3 at *
      generalize wsV ext (k + 1) = v2 at *
      generalize wsE (k + 1) = x2 at *
      clear l4
      go_wp2_with fail
      all_goals
        go_ret
        exact ⟨rfl, Q5.out⟩
    · obtain ⟨m1, m2⟩ := l4 h8
      rw [m1]
      have m2' : decide (wsV ext k < wsV ext (k + 1)) = true := decide_eq_true m2
      generalize wsV ext k = v1 at *
      generalize wsV true k = v3 at *
      generalize wsV ext (k + 1) = v2 at *
      go_wp2_with fail
      all_goals
        go_ret
        exact ⟨rfl, Q5.out⟩
end Go.Proofs.YtmfgifinmeonjaaDoor
