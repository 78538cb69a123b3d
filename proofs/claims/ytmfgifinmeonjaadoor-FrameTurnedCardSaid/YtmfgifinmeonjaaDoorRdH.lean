/- The walks of FrameBreaks and FrameTurned. -/
import Derived.Test.YtmfgifinmeonjaaDoorRdG
namespace Go.Proofs.YtmfgifinmeonjaaDoor
open Go.ChangeShapes Go.WideShapes Go.ChangeAt Go.RowKit
open FP (Fr headF bitsF turnF parseF PR fr0)

/-- A frame's block and its bits, behind the first two calls of the three laws: what they know of it. -/
theorem law_bits {f : Fr} (hr : FP.rightB f = true) : bitsV f = ⟨(bitsF f).toArray⟩ ∧ headE f = 0 ∧ 44 ≤ (bitsV f).size ∧ (bitsV f).size ≤ 157 ∧ (bitsV f).data.toList = bitsF f ∧ (bitsF f).length = (bitsV f).size := by
  have V : bitsV f = ⟨(bitsF f).toArray⟩ := by unfold bitsV; rw [hr]; rfl
  have h1 := FP.bits_len hr
  have h2 := FP.head_le hr
  have hs : (bitsV f).size = (bitsF f).length := by rw [V, size_of]
  refine ⟨V, by unfold headE; rw [hr]; rfl, by omega, by omega, by rw [V], hs.symm⟩

theorem rem8 (x : Int) : 0 ≤ (x.tmod 8 + 8) % 8 ∧ (x.tmod 8 + 8) % 8 < 8 ∧ 0 ≤ x.tmod 8 + 8 ∧ -8 < x.tmod 8 ∧ x.tmod 8 < 8 := by
  have h1 : -8 < x.tmod 8 := Int.lt_tmod_of_pos _ (by decide)
  have h2 : x.tmod 8 < 8 := Int.tmod_lt_of_pos _ (by decide)
  omega
theorem remN (x n : Int) (hn : 0 < n) : 0 ≤ (x.tmod n + n) % n ∧ (x.tmod n + n) % n < n ∧ 0 ≤ x.tmod n + n ∧ -n < x.tmod n ∧ x.tmod n < n := by
  have h1 : -n < x.tmod n := Int.lt_tmod_of_pos _ hn
  have h2 : x.tmod n < n := Int.tmod_lt_of_pos _ hn
  have h3 := Int.emod_nonneg (x.tmod n + n) (show n ≠ 0 by omega)
  have h4 := Int.emod_lt_of_pos (x.tmod n + n) hn
  omega

set_option maxRecDepth 100000 in
set_option maxHeartbeats 4000000 in
theorem frameTurned_walk (f : Fr) (x : Int) (w : World) (hid : f.id < 4294967296) (hs : f.data.size ≤ maxLen) :
    Calls Tryd.prog 9 #[.agg (frc f).toArray, .int .i64 x] w fun e w' => e = .returned (.bool true) ∧ Below w.heap.size w w' := by
  have FEW := hide (fun W => few04_any f W hs)
  have BT := hide (fun W => frBits_any (cutF f) W hid)
  have q0 : Below w.heap.size w (w.alloc (.cells #[.int .u32 f.id, .bool f.ext, .bool f.rem, .int .i64 f.dlc, .string f.data] 24)) := (Below.refl _ _).alloc (Nat.le_refl _) _
  have B0 := hide (World.alloc_heap_new w (.cells #[.int .u32 f.id, .bool f.ext, .bool f.rem, .int .i64 f.dlc, .string f.data] 24))
  cases hr : FP.rightB (cutF f) with
  | false =>
    have h2 : bitsV (cutF f) = ⟨#[]⟩ := by unfold bitsV; rw [hr]; rfl
    have h3 : headE (cutF f) = 1 := by unfold headE; rw [hr]; rfl
    rw [h2, h3] at BT
    clear h2 h3 hr hs
    obtain ⟨id, ext, rem, dlc, data⟩ := f
    dsimp only [cutF, frc] at *
    generalize data.extract 0 (min data.size 12) = dt at *
    go_enter Tryd.func9, Tryd.ntmps9
    go_wp2_with fail
    refine (FEW.out _).mono ?_
    rintro e1 w1 ⟨rfl, q1⟩
    have Q1 := hide (below_next q0 q0.size q1)
    have B1 := hide (heap_below B0.out q1)
    clear q0 q1 B0
    go_wp2_with (refine wpList_store_hid (by rfl) 24 (.tmp 2) (.tmp 12) (by rfl) w.heap.size 0 [.int .u32 id, .bool ext, .bool rem, .int .i64 dlc, .string dt] (by rfl) (by rfl) (by exact frThere B1.out) (by kernel_rfl) (by simp [Value.oneCell']) ?_)
    intro W e
    have QW : Hid (Below w.heap.size w W) := by rw [e.out]; exact hide (Q1.out.trans (below_setCells _ _ _ (Nat.le_refl _)))
    have BW : Hid (W.heap[w.heap.size]? = some (.cells #[.int .u32 id, .bool ext, .bool rem, .int .i64 dlc, .string dt] 24 (0, 0))) := by rw [e.out]; exact hide (whole_heap (xs := [.int .u32 id, .bool ext, .bool rem, .int .i64 dlc, .string data]) _ B1.out rfl)
    clear e Q1 B1
    obtain ⟨c0, c1, c2, c3, c4⟩ := frCells BW.out
    go_wp2_with fail
    refine (BT.out _).mono ?_
    rintro e3 w3 ⟨rfl, q3⟩
    have Q3 := hide (below_next QW.out QW.out.size q3)
    clear q3 c0 c1 c2 c3 c4 QW BW
    go_wp2_with fail
    refine (alive04_any _).mono ?_
    rintro e4 w4 ⟨rfl, q4⟩
    have Q4 := hide (below_next Q3.out Q3.out.size q4)
    clear q4 Q3
    go_wp2_with fail
    go_ret
    exact ⟨rfl, Q4.out⟩
  | true =>
    obtain ⟨hV, hE, h44, h157, hL, hN⟩ := law_bits hr
    have hbb := FP.bits_bits (cutF f)
    rw [hE] at BT
    have hPT := hide (fun i hi he => FP.parse_turned hr (i := i) hi he)
    rw [hN, ← hL] at hPT
    rw [← hL] at hbb
    clear hV hE hr hs hN hL
    generalize bitsV (cutF f) = sb at *
    obtain ⟨id, ext, rem, dlc, data⟩ := f
    dsimp only [cutF, frc] at *
    generalize data.extract 0 (min data.size 12) = dt at *
    obtain ⟨n, hn⟩ : ∃ n : Nat, (sb.size : Int) - 10 = n := ⟨sb.size - 10, by omega⟩
    have hn1 : (0 : Int) < n := by omega
    obtain ⟨r1, r2, r3, r4, r5⟩ := remN x n hn1
    obtain ⟨i, hi⟩ : ∃ i : Nat, (x.tmod n + n) % n = (i : Int) := ⟨((x.tmod n + n) % n).toNat, by omega⟩
    have hil : i < sb.size := by omega
    have hnn : ((n : Int) == 0) = false := by rw [beq_eq_false_iff_ne]; omega
    have hns : n ≤ 157 := by omega
    have TN := hide (fun W => refTurn_any sb i i W rfl hil hbb (by omega))
    have hPT2 := hide (hPT.out i (by omega))
    obtain ⟨ts, hts, hts2⟩ : ∃ ts : ByteArray, ts = ⟨(turnF sb.data.toList i).toArray⟩ ∧ ts.data.toList = turnF sb.data.toList i := ⟨_, rfl, rfl⟩
    rw [← hts] at TN
    have htz : ts.size = sb.size := by
      rw [hts, size_of, FP.turn_len (by rw [Array.length_toList]; exact hil), Array.length_toList]; rfl
    have PS := hide (fun W => frParse_any ts W (by rw [hts2]; exact FP.turn_bits hbb) (by omega))
    rw [hts2] at PS
    clear hts hts2 htz
    generalize parseF (turnF sb.data.toList i) = pr at *
    obtain ⟨pe, pf, pn⟩ := pr
    obtain ⟨fid, fext, frem, fdlc, fdata⟩ := pf
    dsimp only at *
    clear hPT hbb hil
    go_enter Tryd.func9, Tryd.ntmps9
    go_wp2_with fail
    refine (FEW.out _).mono ?_
    rintro e1 w1 ⟨rfl, q1⟩
    have Q1 := hide (below_next q0 q0.size q1)
    have B1 := hide (heap_below B0.out q1)
    clear q0 q1 B0
    go_wp2_with (refine wpList_store_hid (by rfl) 24 (.tmp 2) (.tmp 12) (by rfl) w.heap.size 0 [.int .u32 id, .bool ext, .bool rem, .int .i64 dlc, .string dt] (by rfl) (by rfl) (by exact frThere B1.out) (by kernel_rfl) (by simp [Value.oneCell']) ?_)
    intro W e
    have QW : Hid (Below w.heap.size w W) := by rw [e.out]; exact hide (Q1.out.trans (below_setCells _ _ _ (Nat.le_refl _)))
    have BW : Hid (W.heap[w.heap.size]? = some (.cells #[.int .u32 id, .bool ext, .bool rem, .int .i64 dlc, .string dt] 24 (0, 0))) := by rw [e.out]; exact hide (whole_heap (xs := [.int .u32 id, .bool ext, .bool rem, .int .i64 dlc, .string data]) _ B1.out rfl)
    clear e Q1 B1
    obtain ⟨c0, c1, c2, c3, c4⟩ := frCells BW.out
    go_wp2_with fail
    refine (BT.out _).mono ?_
    rintro e3 w3 ⟨rfl, q3⟩
    have Q3 := hide (below_next QW.out QW.out.size q3)
    have B3 := hide (heap_below BW.out q3)
    clear q3 c0 c1 c2 c3 c4 QW BW
    go_wp2_with fail
    refine (TN.out _).mono ?_
    rintro e4 w4 ⟨rfl, q4⟩
    have Q4 := hide (below_next Q3.out Q3.out.size q4)
    have B4 := hide (heap_below B3.out q4)
    clear q4 Q3 B3
    go_wp2_with fail
    refine (PS.out _).mono ?_
    rintro e5 w5 ⟨rfl, q5⟩
    have Q5 := hide (below_next Q4.out Q4.out.size q5)
    have B5 := hide (heap_below B4.out q5)
    have al := (Below.refl w5.heap.size w5).alloc (Nat.le_refl _) (.cells #[.int .u32 0, .bool false, .bool false, .int .i64 0, .string ⟨#[]⟩] 24)
    have F5 := hide (World.alloc_heap_new w5 (.cells #[.int .u32 0, .bool false, .bool false, .int .i64 0, .string ⟨#[]⟩] 24))
    clear q5 Q4 B4
    go_wp2_with (refine wpList_store_hid (by rfl) 24 (.tmp 8) (.tmp 45) (by rfl) w5.heap.size 0 [.int .u32 fid, .bool fext, .bool frem, .int .i64 fdlc, .string fdata] (by rfl) (by rfl) (by exact frThere (id := 0) F5.out) (by kernel_rfl) (by simp [Value.oneCell']) ?_)
    intro W6 e6
    have F6 := whole_heap [.int .u32 fid, .bool fext, .bool frem, .int .i64 fdlc, .string fdata] (xs := [_, _, _, _, _]) F5.out rfl
    have b6 := al.trans (below_setCells (g := w5.heap.size) [.int .u32 fid, .bool fext, .bool frem, .int .i64 fdlc, .string fdata] 0 _ (Nat.le_refl _))
    rw [← e6.out] at F6 b6
    have B6 := hide (heap_below B5.out b6)
    have Q6 := hide (below_next Q5.out Q5.out.size b6)
    replace F6 := hide F6
    clear e6 b6 al F5 B5 Q5
    go_wp2_with fail
    refine (alive04_any _).mono ?_
    rintro e7 w7 ⟨rfl, q7⟩
    have Q7 := hide (below_next Q6.out Q6.out.size q7)
    have B7 := hide (heap_below B6.out q7)
    have F7 := hide (heap_below F6.out q7)
    clear q7 Q6 B6 F6
    by_cases he : pe = 0
    · have he' : ((pe : Int) != 0) = false := by rw [he]; rfl
      have hne := hPT2.out he
      have hneI := hide (fun (a : fid = id) (b : fext = ext) (c : frem = rem) (d : fdlc = dlc) (e : fdata.toList = dt.toList) => hne (by
        rw [Lib.toList_data, Lib.toList_data] at e
        have e2 : fdata = dt := by rw [ByteArray.ext_iff, ← Array.toList_inj]; exact e
        rw [a, b, c, d, e2]))
      clear hne
      obtain ⟨c0, c1, c2, c3, c4⟩ := frCells B7.out
      obtain ⟨d0, d1, d2, d3, d4⟩ := frCells F7.out
      go_wp2_with fail
      all_goals first
        | (go_ret; exact ⟨rfl, Q7.out⟩)
        | exact absurd (hneI.out (by omega) (by assumption) (by assumption) (by assumption) (by assumption)) (fun h => h)
    · have he' : ((pe : Int) != 0) = true := by rw [bne_iff_ne]; omega
      clear he
      go_wp2_with fail
      go_ret
      exact ⟨rfl, Q7.out⟩
end Go.Proofs.YtmfgifinmeonjaaDoor
