/- The walk of FrameBreaks. -/
import Derived.Test.YtmfgifinmeonjaaDoorRdH
namespace Go.Proofs.YtmfgifinmeonjaaDoor
open Go.ChangeShapes Go.WideShapes Go.ChangeAt Go.RowKit
open FP (Fr headF bitsF turnF parseF PR fr0)

set_option maxRecDepth 100000 in
set_option maxHeartbeats 4000000 in
theorem frameBreaks_walk (f : Fr) (cut x : Int) (w : World) (hid : f.id < 4294967296) (hs : f.data.size ≤ maxLen) :
    Calls Tryd.prog 8 #[.agg (frc f).toArray, .int .i64 cut, .int .i64 x] w fun e w' => e = .returned (.bool true) ∧ Below w.heap.size w w' := by
  have FEW := hide (fun W => few04_any f W hs)
  have BT := hide (fun W => frBits_any (cutF f) W hid)
  have q0 : Below w.heap.size w (w.alloc (.cells #[.int .u32 f.id, .bool f.ext, .bool f.rem, .int .i64 f.dlc, .string f.data] 24)) := (Below.refl _ _).alloc (Nat.le_refl _) _
  have B0 := hide (World.alloc_heap_new w (.cells #[.int .u32 f.id, .bool f.ext, .bool f.rem, .int .i64 f.dlc, .string f.data] 24))
  cases hr : FP.rightB (cutF f) with
  | false =>
    have h2 : bitsV (cutF f) = ⟨#[]⟩ := by unfold bitsV; rw [hr]; rfl
    have h3 : headE (cutF f) = 1 := by unfold headE; rw [hr]; rfl
    rw [h2, h3] at BT
    clear h2 h3 hr hs
    obtain ⟨id, ext, rem, dlc, data⟩ := f
    dsimp only [cutF, frc] at *
    generalize data.extract 0 (min data.size 12) = dt at *
    go_enter Tryd.func8, Tryd.ntmps8
    go_wp2_with fail
    refine (FEW.out _).mono ?_
    rintro e1 w1 ⟨rfl, q1⟩
    have Q1 := hide (below_next q0 q0.size q1)
    have B1 := hide (heap_below B0.out q1)
    clear q0 q1 B0
    go_wp2_with (refine wpList_store_hid (by rfl) 24 (.tmp 3) (.tmp 16) (by rfl) w.heap.size 0 [.int .u32 id, .bool ext, .bool rem, .int .i64 dlc, .string dt] (by rfl) (by rfl) (by exact frThere B1.out) (by kernel_rfl) (by simp [Value.oneCell']) ?_)
    intro W e
    have QW : Hid (Below w.heap.size w W) := by rw [e.out]; exact hide (Q1.out.trans (below_setCells _ _ _ (Nat.le_refl _)))
    have BW : Hid (W.heap[w.heap.size]? = some (.cells #[.int .u32 id, .bool ext, .bool rem, .int .i64 dlc, .string dt] 24 (0, 0))) := by rw [e.out]; exact hide (whole_heap (xs := [.int .u32 id, .bool ext, .bool rem, .int .i64 dlc, .string data]) _ B1.out rfl)
    clear e Q1 B1
    obtain ⟨c0, c1, c2, c3, c4⟩ := frCells BW.out
    go_wp2_with fail
    refine (BT.out _).mono ?_
    rintro e3 w3 ⟨rfl, q3⟩
    have Q3 := hide (below_next QW.out QW.out.size q3)
    clear q3 c0 c1 c2 c3 c4 QW BW
    go_wp2_with fail
    refine (alive04_any _).mono ?_
    rintro e4 w4 ⟨rfl, q4⟩
    have Q4 := hide (below_next Q3.out Q3.out.size q4)
    clear q4 Q3
    go_wp2_with fail
    go_ret
    exact ⟨rfl, Q4.out⟩
  | true =>
    obtain ⟨hV, hE, h44, h157, hL, hN⟩ := law_bits hr
    have hbb := FP.bits_bits (cutF f)
    rw [hE] at BT
    have hPC := hide (fun c (hc : c < (bitsF (cutF f)).length) => FP.parse_short hr hc)
    have hPX := hide (fun k (hk : k < 8) => FP.parse_form hr hk)
    rw [hN, ← hL] at hPX
    rw [hN, ← hL] at hPC
    rw [← hL] at hbb
    clear hV hE hr hs hN hL
    generalize bitsV (cutF f) = sb at *
    obtain ⟨id, ext, rem, dlc, data⟩ := f
    dsimp only [cutF, frc] at *
    generalize data.extract 0 (min data.size 12) = dt at *
    obtain ⟨r1, r2, r3, r4, r5⟩ := rem8 x
    obtain ⟨k, hk⟩ : ∃ k : Nat, (x.tmod 8 + 8) % 8 = (k : Int) := ⟨((x.tmod 8 + 8) % 8).toNat, by omega⟩
    have hk2 : x.tmod 8 % 8 = (k : Int) := by rw [← hk, Int.add_emod_right]
    obtain ⟨i, hi⟩ : ∃ i : Nat, (sb.size : Int) - 8 + k = (i : Int) := ⟨sb.size - 8 + k, by omega⟩
    have hik : i = sb.size - 8 + k := by omega
    have hk8 : k < 8 := by omega
    have hil : i < sb.size := by omega
    obtain ⟨c0, hc0, hm0⟩ := run_max (P := Tryd.prog) cut 0
    obtain ⟨c1, hc1, hm1⟩ := run_min (P := Tryd.prog) c0 ((sb.size : Int) - 1)
    obtain ⟨c, rfl⟩ : ∃ c : Nat, c1 = (c : Int) := ⟨c1.toNat, by omega⟩
    have hcs : c < sb.size := by omega
    have hcs' : (c : Int) ≤ sb.size := by omega
    have hcn : c ≤ sb.size := by omega
    have s8 : IntKind.i64.wrap ((sb.size : Int) - 8) = (sb.size : Int) - 8 := IntWalk.i64_in _ (by omega)
    have s1 : IntKind.i64.wrap ((sb.size : Int) - 1) = (sb.size : Int) - 1 := IntWalk.i64_in _ (by omega)
    have hLn : sb.data.toList.length = sb.size := Array.length_toList
    have TN := hide (fun N (hN : N = (i : Int)) W => refTurn_any sb N i W hN hil hbb (by omega))
    obtain ⟨ts, hts, hts2⟩ : ∃ ts : ByteArray, ts = ⟨(turnF sb.data.toList i).toArray⟩ ∧ ts.data.toList = turnF sb.data.toList i := ⟨_, rfl, rfl⟩
    rw [← hts] at TN
    have htz : ts.size = sb.size := by
      rw [hts, size_of, FP.turn_len (by rw [hLn]; exact hil), hLn]
    have PS := hide (fun W => frParse_any ts W (by rw [hts2]; exact FP.turn_bits hbb) (by omega))
    have hX := hPX.out k hk8
    rw [← hik] at hX
    rw [hts2, hX] at PS
    have PC := hide (fun W => frParse_any (sb.extract 0 c) W (extract_bits hbb 0 c) (by rw [ByteArray.size_extract]; omega))
    have hC := hPC.out c hcs
    rw [toList_extract, List.extract_eq_take_drop, List.drop_zero, Nat.sub_zero, hC] at PC
    clear hts hts2 htz hPX hPC hX hC hbb hLn hc0 hc1
    simp only [fr0, Int.natCast_zero, show ((12 : Nat) : Int) = 12 from rfl, show ((3 : Nat) : Int) = 3 from rfl] at PS PC
    go_enter Tryd.func8, Tryd.ntmps8
    go_wp2_with fail
    refine (FEW.out _).mono ?_
    rintro e1 w1 ⟨rfl, q1⟩
    have Q1 := hide (below_next q0 q0.size q1)
    have B1 := hide (heap_below B0.out q1)
    clear q0 q1 B0
    go_wp2_with (refine wpList_store_hid (by rfl) 24 (.tmp 3) (.tmp 16) (by rfl) w.heap.size 0 [.int .u32 id, .bool ext, .bool rem, .int .i64 dlc, .string dt] (by rfl) (by rfl) (by exact frThere B1.out) (by kernel_rfl) (by simp [Value.oneCell']) ?_)
    intro W e
    have QW : Hid (Below w.heap.size w W) := by rw [e.out]; exact hide (Q1.out.trans (below_setCells _ _ _ (Nat.le_refl _)))
    have BW : Hid (W.heap[w.heap.size]? = some (.cells #[.int .u32 id, .bool ext, .bool rem, .int .i64 dlc, .string dt] 24 (0, 0))) := by rw [e.out]; exact hide (whole_heap (xs := [.int .u32 id, .bool ext, .bool rem, .int .i64 dlc, .string data]) _ B1.out rfl)
    clear e Q1 B1
    obtain ⟨c0, c1, c2, c3, c4⟩ := frCells BW.out
    go_wp2_with fail
    refine (BT.out _).mono ?_
    rintro e3 w3 ⟨rfl, q3⟩
    have Q3 := hide (below_next QW.out QW.out.size q3)
    have B3 := hide (heap_below BW.out q3)
    clear q3 c0 c1 c2 c3 c4 QW BW
    go_wp2_with fail
    clear B3
    refine (PC.out _).mono ?_
    rintro e5 w5 ⟨rfl, q5⟩
    have Q4 := Q3
    have Q5 := hide (below_next Q4.out Q4.out.size q5)
    have al := (Below.refl w5.heap.size w5).alloc (Nat.le_refl _) (.cells #[.int .u32 0, .bool false, .bool false, .int .i64 0, .string ⟨#[]⟩] 24)
    have F5 := hide (World.alloc_heap_new w5 (.cells #[.int .u32 0, .bool false, .bool false, .int .i64 0, .string ⟨#[]⟩] 24))
    clear q5 Q4
    go_wp2_with (refine wpList_store_hid (by rfl) 24 (.tmp 9) (.tmp 45) (by rfl) w5.heap.size 0 [.int .u32 0, .bool false, .bool false, .int .i64 0, .string ⟨#[]⟩] (by rfl) (by rfl) (by exact frThere (id := 0) F5.out) (by kernel_rfl) (by simp [Value.oneCell']) ?_)
    intro W6 e6
    have b6 := al.trans (below_setCells (g := w5.heap.size) [.int .u32 0, .bool false, .bool false, .int .i64 0, .string ⟨#[]⟩] 0 _ (Nat.le_refl _))
    rw [← e6.out] at b6
    have Q6 := hide (below_next Q5.out Q5.out.size b6)
    clear e6 b6 al F5 Q5
    clear Q3
    go_wp2_with fail
    (with_reducible refine (TN.out _ ?_ _).mono ?_)
    · omega
    rintro e7 w7 ⟨rfl, q7⟩
    have Q7 := hide (below_next Q6.out Q6.out.size q7)
    clear q7 Q6
    go_wp2_with fail
    (with_reducible refine (PS.out _).mono ?_)
    rintro e8 w8 ⟨rfl, q5⟩
    have Q4 := Q7
    have Q5 := hide (below_next Q4.out Q4.out.size q5)
    have al := (Below.refl w8.heap.size w8).alloc (Nat.le_refl _) (.cells #[.int .u32 0, .bool false, .bool false, .int .i64 0, .string ⟨#[]⟩] 24)
    have F5 := hide (World.alloc_heap_new w8 (.cells #[.int .u32 0, .bool false, .bool false, .int .i64 0, .string ⟨#[]⟩] 24))
    clear q5 Q4
    go_wp2_with (refine wpList_store_hid (by rfl) 24 (.tmp 12) (.tmp 61) (by rfl) w8.heap.size 0 [.int .u32 0, .bool false, .bool false, .int .i64 0, .string ⟨#[]⟩] (by rfl) (by rfl) (by exact frThere (id := 0) F5.out) (by kernel_rfl) (by simp [Value.oneCell']) ?_)
    intro W9 e9
    have b6 := al.trans (below_setCells (g := w8.heap.size) [.int .u32 0, .bool false, .bool false, .int .i64 0, .string ⟨#[]⟩] 0 _ (Nat.le_refl _))
    rw [← e9.out] at b6
    have Q9 := hide (below_next Q5.out Q5.out.size b6)
    clear e9 b6 al F5 Q5
    clear Q7
    go_wp2_with fail
    refine (alive04_any _).mono ?_
    rintro e10 w10 ⟨rfl, q10⟩
    have Q10 := hide (below_next Q9.out Q9.out.size q10)
    clear q10 Q9
    go_wp2_with fail
    go_ret
    exact ⟨rfl, Q10.out⟩
end Go.Proofs.YtmfgifinmeonjaaDoor
