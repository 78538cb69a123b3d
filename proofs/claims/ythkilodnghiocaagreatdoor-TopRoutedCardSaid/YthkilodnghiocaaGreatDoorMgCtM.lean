/- The walk of count.Step of what is not off. -/
import Derived.Test.YthkilodnghiocaaGreatDoorMgCtJ
namespace Go.Proofs.YthkilodnghiocaaGreatDoor
open Go.ChangeShapes Go.WideShapes Go.ChangeAt Go.RowKit Go.Maps
open FP (Fr)

/-- What is counted, behind what happened; of one that is not off. -/
def cntNext (what tc rc : Int) : List Value := if 255 < cntTc what tc then cnL 0 0 true 128 else cnL (cntTc what tc) (cntRc what rc) false 0

set_option maxRecDepth 100000 in
set_option maxHeartbeats 8000000 in
theorem cntStep_on (what : Int) (fid : Nat) (hp : ∀ (args : Array Value) (W : World), (callFunc fid args).run Tryz.prog W = .ok (.enter fid args) W) (hf : stepF what = some fid) (hw : 0 ≤ what ∧ what ≤ 1000) (tc rc : Int) (w : World) (hc : cntB tc rc false 0 = true)
    (CS : Hid (∀ b W, Hid (W.heap[b]? = some (.cells (cnL tc rc false 0).toArray 69 (0, 0))) → Calls Tryz.prog fid #[.pointer (some ⟨b, 0, none⟩)] W fun e w' => (∃ v, e = .returned v) ∧ w'.heap[b]? = some (.cells (cnL (cntTc what tc) (cntRc what rc) false 0).toArray 69 (0, 0)) ∧ W.grownBy w' (some b))) :
    Calls Tryz.prog 109 #[.agg (cnL tc rc false 0).toArray, .int .i64 what] w fun e w' => e = .returned (.tuple #[.agg (cntNext what tc rc).toArray, .int .i64 0]) ∧ Below w.heap.size w w' := by
  obtain ⟨w0, hw0⟩ : ∃ w0, w0 = (w.alloc (.cells (cnL tc rc false 0).toArray 69)).alloc (.cells (cnL 0 0 false 0).toArray 69) := ⟨_, rfl⟩
  have step : ∀ (W : World) (o : Obj), Below W.heap.size W (W.alloc o) := fun W o => (Below.refl _ _).alloc (Nat.le_refl _) _
  have B0 := hide (heap_below (World.alloc_heap_new w (.cells (cnL tc rc false 0).toArray 69)) (step _ (.cells (cnL 0 0 false 0).toArray 69)))
  have R0 := hide (World.alloc_heap_new (w.alloc (.cells (cnL tc rc false 0).toArray 69)) (.cells (cnL 0 0 false 0).toArray 69))
  have Q0 : Hid (Below w.heap.size w w0) := by rw [hw0]; exact hide ((step _ _).alloc (by simp) _)
  rw [← hw0] at B0 R0
  simp only [World.size_alloc] at R0
  have CN := hide (fun W => show Calls Tryz.prog 50 #[.agg (cnL tc rc false 0).toArray] W fun e w' => e = .returned (.bool true) ∧ Below W.heap.size W w' from hc ▸ cntRight_any tc rc false 0 W)
  have ST := hide (cntSteps_any w0)
  obtain ⟨nx, hnx⟩ : ∃ nx, nx = cntNext what tc rc := ⟨_, rfl⟩
  rw [← hnx]
  have HNX := hide hnx
  clear step hc hnx
  go_enter Tryz.func109, Tryz.ntmps109
  go_upto_region 1 with fail
  change Code.wp _ _ _ _ ((w.alloc (.cells (cnL tc rc false 0).toArray 69)).alloc (.cells (cnL 0 0 false 0).toArray 69))
  rw [← hw0]
  clear hw0
  go_wp2_with fail
  (with_reducible refine (ST.out).mono ?_)
  rintro e1 w1 ⟨⟨bm, n, rfl, hM⟩, q1⟩
  have hget := hM.get what hw hf
  have B1 := hide (heap_below B0.out q1)
  have R1 := hide (heap_below R0.out q1)
  have Q1 := hide (below_next Q0.out Q0.out.size q1)
  have C1 := hide (CN.out w1)
  clear q1 B0 R0 Q0 CN ST hM
  go_wp2_with (refine wpList_load_rowG (by kernel_rfl) 69 (.tmp 2) (by rfl) w.heap.size (by rfl) 69 (cnL tc rc false 0).toArray (0, 0) _ (by exact B1.out) Tryz.underlying69 (by rfl) (by kernel_rfl) ?_)
  (with_reducible refine (C1.out).mono ?_)
  rintro e2 w2 ⟨rfl, q2⟩
  have B2 := hide (heap_below B1.out q2)
  have R2 := hide (heap_below R1.out q2)
  have Q2 := hide (below_next Q1.out Q1.out.size q2)
  have z2 : w.heap.size + 1 < w2.heap.size := heap_lt R2.out
  have S2 := hide (CS.out w.heap.size w2 B2)
  obtain ⟨c0, c1, c2, c3⟩ := cn_cells B2.out
  clear q2 B1 R1 Q1 C1 CS hget
  go_wp2_with fail
  (with_reducible refine (S2.out).mono ?_)
  rintro e3 w3 ⟨⟨v, rfl⟩, hB, q3⟩
  have B3 := hide hB
  have R3 := hide (heap_grownB R2.out q3 (by simp))
  have Q3 := hide (Q2.out.grown q3 Q2.out.size (fun j e => by cases e; exact Nat.le_refl _))
  clear q3 hB S2 B2 R2 Q2 c0 c1 c2 c3
  obtain ⟨c0, c1, c2, c3⟩ := cn_cells B3.out
  have TR := hide (show w3.there (w.heap.size + 1) 0 4 from there_heap (cs := cnL 0 0 false 0) R3.out)
  by_cases h255 : 255 < cntTc what tc
  · have EN := hide (show nx = cnL 0 0 true 128 by rw [HNX.out]; unfold cntNext; rw [if_pos h255])
    clear HNX
    have TB := hide (show w3.there w.heap.size 0 4 from there_heap (cs := cnL (cntTc what tc) (cntRc what rc) false 0) B3.out)
    generalize cntTc what tc = tc2 at *
    generalize cntRc what rc = rc2 at *
    go_wp2_with (refine wpList_store_hid (by rfl) 69 (.tmp 2) (.tmp 32) (by rfl) w.heap.size 0 (cnL 0 0 true 128) (by rfl) (by rfl) (by exact TB.out) (by kernel_rfl) (by simp [Value.oneCell', cnL]) ?_)
    intro w4 e4
    have B4 := hide (show w4.heap[w.heap.size]? = some (.cells (cnL 0 0 true 128).toArray 69 (0, 0)) by rw [e4.out]; exact whole_heap (cnL 0 0 true 128) (xs := cnL tc2 rc2 false 0) B3.out rfl)
    have R4 := hide (show w4.heap[w.heap.size + 1]? = some (.cells (cnL 0 0 false 0).toArray 69 (0, 0)) by rw [e4.out]; exact other_heap (by omega) _ _ _ R3.out)
    have Q4 := hide (show Below w.heap.size w w4 by rw [e4.out]; exact Q3.out.trans (below_setCells _ _ _ (Nat.le_refl _)))
    clear e4 TB TR B3 R3 Q3 c0 c1 c2 c3
    have TR := hide (show w4.there (w.heap.size + 1) 0 4 from there_heap (cs := cnL 0 0 false 0) R4.out)
    go_wp2_with (first | (refine wpList_load_row rfl 69 (.tmp 2) (by rfl) w.heap.size (by rfl) 69 (cnL 0 0 true 128).toArray (0, 0) _ (by exact B4.out) Tryz.underlying69 (by rfl) (by kernel_rfl) ?_) | (refine wpList_store_hid (by rfl) 69 (.tmp 4) (.tmp 33) (by rfl) (w.heap.size + 1) 0 (cnL 0 0 true 128) (by rfl) (by rfl) (by exact TR.out) (by kernel_rfl) (by simp [Value.oneCell', cnL]) ?_))
    intro w5 e5
    have R5 := hide (show w5.heap[w.heap.size + 1]? = some (.cells (cnL 0 0 true 128).toArray 69 (0, 0)) by rw [e5.out]; exact whole_heap (cnL 0 0 true 128) (xs := cnL 0 0 false 0) R4.out rfl)
    have Q5 := hide (show Below w.heap.size w w5 by rw [e5.out]; exact Q4.out.trans (below_setCells _ _ _ (by omega)))
    clear e5 TR B4 R4 Q4
    go_wp2_with fail
    refine bodyPost_ret (results_cell_tmp (by rfl) _ w5 (w.heap.size + 1) 69 (cnL 0 0 true 128).toArray (0, 0) _ (.int .i64 0) (by rfl) (by rfl) R5.out Tryz.underlying69 (by rfl) (by kernel_rfl)) rfl ⟨by rw [EN.out], Q5.out⟩
  · have EN := hide (show nx = cnL (cntTc what tc) (cntRc what rc) false 0 by rw [HNX.out]; unfold cntNext; rw [if_neg h255])
    clear HNX
    generalize cntTc what tc = tc2 at *
    generalize cntRc what rc = rc2 at *
    go_wp2_with (first | (refine wpList_load_row rfl 69 (.tmp 2) (by rfl) w.heap.size (by rfl) 69 (cnL tc2 rc2 false 0).toArray (0, 0) _ (by exact B3.out) Tryz.underlying69 (by rfl) (by kernel_rfl) ?_) | (refine wpList_store_hid (by rfl) 69 (.tmp 4) (.tmp 33) (by rfl) (w.heap.size + 1) 0 (cnL tc2 rc2 false 0) (by rfl) (by rfl) (by exact TR.out) (by kernel_rfl) (by simp [Value.oneCell', cnL]) ?_))
    intro w5 e5
    have R5 := hide (show w5.heap[w.heap.size + 1]? = some (.cells (cnL tc2 rc2 false 0).toArray 69 (0, 0)) by rw [e5.out]; exact whole_heap (cnL tc2 rc2 false 0) (xs := cnL 0 0 false 0) R3.out rfl)
    have Q5 := hide (show Below w.heap.size w w5 by rw [e5.out]; exact Q3.out.trans (below_setCells _ _ _ (by omega)))
    clear e5 TR B3 R3 Q3 c0 c1 c2 c3
    go_wp2_with fail
    refine bodyPost_ret (results_cell_tmp (by rfl) _ w5 (w.heap.size + 1) 69 (cnL tc2 rc2 false 0).toArray (0, 0) _ (.int .i64 0) (by rfl) (by rfl) R5.out Tryz.underlying69 (by rfl) (by kernel_rfl)) rfl ⟨by rw [EN.out], Q5.out⟩

set_option maxRecDepth 100000 in
/-- Step of what is not off, whatever of the seven happened. -/
theorem cntStep_ok (what tc rc : Int) (w : World) (hw : 1 ≤ what ∧ what ≤ 7) (hc : cntB tc rc false 0 = true) :
    Calls Tryz.prog 109 #[.agg (cnL tc rc false 0).toArray, .int .i64 what] w fun e w' => e = .returned (.tuple #[.agg (cntNext what tc rc).toArray, .int .i64 0]) ∧ Below w.heap.size w w' := by
  have hb : 0 ≤ tc ∧ tc ≤ 255 ∧ 0 ≤ rc ∧ rc ≤ 255 := by
    unfold cntB at hc
    simp at hc
    omega
  obtain ⟨h0, h1, h2, h3⟩ := hb
  have h5 : ∀ x y : Int, cntTc 5 x = cntTc 3 x ∧ cntRc 5 y = cntRc 3 y := fun x y => ⟨rfl, rfl⟩
  obtain rfl | rfl | rfl | rfl | rfl | rfl | rfl : what = 1 ∨ what = 2 ∨ what = 3 ∨ what = 4 ∨ what = 5 ∨ what = 6 ∨ what = 7 := by omega
  · exact cntStep_on 1 121 (fun _ _ => rfl) rfl (by decide) tc rc w hc (hide fun b W h => cs2_any tc rc false 0 b 69 W h h0 h1 h2 h3)
  · exact cntStep_on 2 122 (fun _ _ => rfl) rfl (by decide) tc rc w hc (hide fun b W h => cs3_any tc rc false 0 b 69 W h h0 h1 h2 h3)
  · exact cntStep_on 3 120 (fun _ _ => rfl) rfl (by decide) tc rc w hc (hide fun b W h => cs1_any tc rc false 0 b 69 W h h0 h1 h2 h3)
  · exact cntStep_on 4 123 (fun _ _ => rfl) rfl (by decide) tc rc w hc (hide fun b W h => cs4_any tc rc false 0 b 69 W h h0 h1 h2 h3)
  · exact cntStep_on 5 120 (fun _ _ => rfl) rfl (by decide) tc rc w hc (hide fun b W h => by rw [(h5 tc rc).1, (h5 tc rc).2]; exact cs1_any tc rc false 0 b 69 W h h0 h1 h2 h3)
  · exact cntStep_on 6 124 (fun _ _ => rfl) rfl (by decide) tc rc w hc (hide fun b W h => cs5_any tc rc false 0 b 69 W h h0 h1 h2 h3)
  · exact cntStep_on 7 125 (fun _ _ => rfl) rfl (by decide) tc rc w hc (hide fun b W h => cs6_any tc rc false 0 b 69 W h h0 h1 h2 h3)
end Go.Proofs.YthkilodnghiocaaGreatDoor

/- Walks of a machine's counts, fails (not off), gap (a recessive bit). -/
namespace Go.Proofs.YthkilodnghiocaaGreatDoor
open Go.ChangeShapes Go.WideShapes Go.ChangeAt Go.RowKit Go.Maps
open FP (Fr)

/-- A controller that has counted. -/
def Cl.count (c : Cl) (what : Int) : Cl := if 255 < cntTc what c.tc then { c with tc := 0, rc := 0, off := true, rs := 128 } else { c with tc := cntTc what c.tc, rc := cntRc what c.rc }
theorem cntNext_right (what tc rc : Int) (hc : cntB tc rc false 0 = true) (hw : 1 ≤ what ∧ what ≤ 7) : ∃ tc' rc' off' rs', cntNext what tc rc = cnL tc' rc' off' rs' ∧ cntB tc' rc' off' rs' = true := by
  have hb : 0 ≤ tc ∧ tc ≤ 255 ∧ 0 ≤ rc ∧ rc ≤ 255 := by
    unfold cntB at hc
    simp at hc
    omega
  unfold cntNext
  by_cases h : 255 < cntTc what tc
  · rw [if_pos h]
    exact ⟨0, 0, true, 128, rfl, by decide⟩
  · rw [if_neg h]
    refine ⟨_, _, _, _, rfl, ?_⟩
    have h1 : 0 ≤ cntTc what tc := by unfold cntTc; split <;> (try split) <;> omega
    have h2 : 0 ≤ cntRc what rc ∧ cntRc what rc ≤ 255 := by unfold cntRc; split <;> (try split) <;> (try split) <;> omega
    unfold cntB
    simp
    omega

set_option maxRecDepth 100000 in
set_option maxHeartbeats 8000000 in
theorem mcCounts_on (c : Cl) (ev : List Value) (what : Int) (b : Nat) (t : TypeId) (w : World) (h : Hid (w.heap[b]? = some (.cells (mcL c ev).toArray t (0, 0)))) (hoff : c.off = false) (hrs : c.rs = 0) (hc : cntB c.tc c.rc false 0 = true) (hw : 1 ≤ what ∧ what ≤ 7) :
    Calls Tryz.prog 100 #[.pointer (some ⟨b, 0, none⟩), .int .i64 what] w fun e w' => e = .returned (.int .i64 (stOf (c.count what).tc (c.count what).rc (c.count what).off)) ∧ w'.heap[b]? = some (.cells (mcL (c.count what) ev).toArray t (0, 0)) ∧ Below b w w' := by
  have hb : b < w.heap.size := heap_lt h.out
  obtain ⟨tc', rc', off', rs', hn, hr⟩ := cntNext_right what c.tc c.rc hc hw
  have sp := cntStep_ok what c.tc c.rc w hw hc
  rw [hn] at sp
  have SP := hide (show Calls Tryz.prog 109 #[.agg #[.int .i64 c.tc, .int .i64 c.rc, .bool false, .int .i64 0], .int .i64 what] w _ from sp)
  clear sp
  have HCC := hide (show (c.count what).tc = tc' ∧ (c.count what).rc = rc' ∧ (c.count what).off = off' ∧ (c.count what).rs = rs' ∧ c.count what = { c with tc := tc', rc := rc', off := off', rs := rs' } from by
    unfold cntNext at hn
    unfold Cl.count
    by_cases h : 255 < cntTc what c.tc
    · rw [if_pos h] at hn ⊢
      simp [cnL] at hn
      obtain ⟨rfl, rfl, rfl, rfl⟩ := hn
      exact ⟨rfl, rfl, rfl, rfl, rfl⟩
    · rw [if_neg h] at hn ⊢
      simp [cnL] at hn
      obtain ⟨rfl, rfl, rfl, rfl⟩ := hn
      exact ⟨rfl, rfl, hoff, hrs, by rw [hoff, hrs]⟩)
  have SS := hide (fun W => cntState_ok tc' rc' off' rs' W hr)
  obtain ⟨e1, e2, e3, e4, e5⟩ := HCC.out
  rw [e1, e2, e3]
  have HC5 := hide e5
  obtain ⟨c0, c1, c2, c3⟩ : w.cell? ⟨b, 0, none⟩ = some (.int .i64 c.tc) ∧ w.cell? ⟨b, 1, none⟩ = some (.int .i64 c.rc) ∧ w.cell? ⟨b, 2, none⟩ = some (.bool false) ∧ w.cell? ⟨b, 3, none⟩ = some (.int .i64 0) := by
    obtain ⟨⟨c0, c1, c2, c3⟩, _⟩ := mc_cells h.out
    rw [hoff] at c2
    rw [hrs] at c3
    exact ⟨c0, c1, c2, c3⟩
  clear e1 e2 e3 e4 e5 HCC hn hr hc hw
  generalize stOf tc' rc' off' = sv at *
  go_enter Tryz.func100, Tryz.ntmps100
  go_wp2_with fail
  (with_reducible refine (SP.out).mono ?_)
  rintro e6 w1 ⟨rfl, q1⟩
  have B1 := hide (heap_below h.out q1)
  have TB := hide (there_sub (there_heap B1.out) 0 4 (by simp [mcL, Cl.cs]))
  clear c0 c1 c2 c3 SP
  go_wp2_with (refine wpList_store_hid (by rfl) 69 (.tmp 20) (.tmp 16) (by rfl) b 0 (cnL tc' rc' off' rs') (by rfl) (by rfl) (by exact TB.out) (by kernel_rfl) (by simp [Value.oneCell', cnL]) ?_)
  intro w2 e7
  have B2 := hide (show w2.heap[b]? = some (.cells (mcL (c.count what) ev).toArray t (0, 0)) by
    rw [e7.out, HC5.out]
    have := set_heap (cnL tc' rc' off' rs') (mcL c ev) 0 w1 B1.out
    simpa [mcL, Cl.cs, cnL, setL] using this)
  have Q2 := hide (show Below b w w2 by rw [e7.out]; exact (q1.mono (Nat.le_of_lt hb)).trans (below_setCells _ _ _ (Nat.le_refl _)))
  have S2 := hide (SS.out w2)
  obtain ⟨d0, d1, d2, d3⟩ : w2.cell? ⟨b, 0, none⟩ = some (.int .i64 tc') ∧ w2.cell? ⟨b, 1, none⟩ = some (.int .i64 rc') ∧ w2.cell? ⟨b, 2, none⟩ = some (.bool off') ∧ w2.cell? ⟨b, 3, none⟩ = some (.int .i64 rs') := by
    obtain ⟨⟨d0, d1, d2, d3⟩, _⟩ := mc_cells B2.out
    rw [HC5.out] at d0 d1 d2 d3
    exact ⟨d0, d1, d2, d3⟩
  clear e7 TB B1 q1 SS
  go_wp2_with fail
  (with_reducible refine (S2.out).mono ?_)
  rintro e8 w3 ⟨rfl, q3⟩
  have hb2 : b < w2.heap.size := heap_lt B2.out
  have B3 := hide (heap_below B2.out q3)
  have Q3 := hide (Q2.out.trans (q3.mono (Nat.le_of_lt hb2)))
  clear q3 B2 Q2 S2 d0 d1 d2 d3
  go_wp2_with fail
  go_ret
  exact ⟨rfl, B3.out, Q3.out⟩
end Go.Proofs.YthkilodnghiocaaGreatDoor

/- Walks of count.rest, count.Step of what is off. -/
namespace Go.Proofs.YthkilodnghiocaaGreatDoor
open Go.ChangeShapes Go.WideShapes Go.ChangeAt Go.RowKit Go.Maps
open FP (Fr)

/-- Of one that is off. -/
def restL (what rs : Int) : List Value := if what = 7 then cnL 0 0 (!(rs - 1 == 0)) (rs - 1) else cnL 0 0 true rs

set_option maxRecDepth 100000 in
set_option maxHeartbeats 8000000 in
theorem cntRest_any (what rs : Int) (w : World) (h1 : 1 ≤ rs) (h2 : rs ≤ 128) :
    Calls Tryz.prog 114 #[.agg (cnL 0 0 true rs).toArray, .int .i64 what] w fun e w' => e = .returned (.agg (restL what rs).toArray) ∧ Below w.heap.size w w' := by
  obtain ⟨w0, hw0⟩ : ∃ w0, w0 = (w.alloc (.cells (cnL 0 0 true rs).toArray 69)).alloc (.cells (cnL 0 0 false 0).toArray 69) := ⟨_, rfl⟩
  have step : ∀ (W : World) (o : Obj), Below W.heap.size W (W.alloc o) := fun W o => (Below.refl _ _).alloc (Nat.le_refl _) _
  have B0 := hide (heap_below (World.alloc_heap_new w (.cells (cnL 0 0 true rs).toArray 69)) (step _ (.cells (cnL 0 0 false 0).toArray 69)))
  have R0 := hide (World.alloc_heap_new (w.alloc (.cells (cnL 0 0 true rs).toArray 69)) (.cells (cnL 0 0 false 0).toArray 69))
  have Q0 : Hid (Below w.heap.size w w0) := by rw [hw0]; exact hide ((step _ _).alloc (by simp) _)
  rw [← hw0] at B0 R0
  simp only [World.size_alloc] at R0
  obtain ⟨nx, hnx⟩ : ∃ nx, nx = restL what rs := ⟨_, rfl⟩
  rw [← hnx]
  unfold restL at hnx
  have HNX := hide hnx
  clear step hnx
  have TR := hide (show w0.there (w.heap.size + 1) 0 4 from there_heap (cs := cnL 0 0 false 0) R0.out)
  obtain ⟨c0, c1, c2, c3⟩ := cn_cells B0.out
  go_enter Tryz.func114, Tryz.ntmps114
  go_upto_region 1 with fail
  change Code.wp _ _ _ _ ((w.alloc (.cells (cnL 0 0 true rs).toArray 69)).alloc (.cells (cnL 0 0 false 0).toArray 69))
  rw [← hw0]
  clear hw0
  by_cases e7 : what = 7
  case neg =>
    have EN := hide (show nx = cnL 0 0 true rs by rw [HNX.out, if_neg e7])
    clear HNX
    go_wp2_with (first | (refine wpList_load_row rfl 69 (.tmp 2) (by rfl) w.heap.size (by rfl) 69 (cnL 0 0 true rs).toArray (0, 0) _ (by exact B0.out) Tryz.underlying69 (by rfl) (by kernel_rfl) ?_) | (refine wpList_store_hid (by rfl) 69 (.tmp 4) (.tmp 7) (by rfl) (w.heap.size + 1) 0 (cnL 0 0 true rs) (by rfl) (by rfl) (by exact TR.out) (by kernel_rfl) (by simp [Value.oneCell', cnL]) ?_))
    intro w5 e5
    have R5 := hide (show w5.heap[w.heap.size + 1]? = some (.cells (cnL 0 0 true rs).toArray 69 (0, 0)) by rw [e5.out]; exact whole_heap (cnL 0 0 true rs) (xs := cnL 0 0 false 0) R0.out rfl)
    have Q5 := hide (show Below w.heap.size w w5 by rw [e5.out]; exact Q0.out.trans (below_setCells _ _ _ (by omega)))
    clear e5 TR B0 R0 Q0 c0 c1 c2 c3
    go_wp2_with fail
    refine bodyPost_ret (results_cell_row (p := 4) (ty := 69) (by rfl) _ w5 (w.heap.size + 1) 69 (cnL 0 0 true rs).toArray (0, 0) _ (by rfl) R5.out Tryz.underlying69 (by rfl) (by kernel_rfl)) rfl ⟨by rw [EN.out], Q5.out⟩
  case pos =>
    have f2 := cl_froz B0.out 2
    have f3 := cl_froz B0.out 3
    by_cases e0 : rs - 1 = 0
    · have EN := hide (show nx = cnL 0 0 false 0 by rw [HNX.out, if_pos e7, e0]; rfl)
      have hb : (0 : Int) = 0 := rfl
      obtain rfl : rs = 1 := by omega
      subst e7
      have B1 := hide (show ((w0.setCell ⟨w.heap.size, 3, none⟩ (.int .i64 0)).setCell ⟨w.heap.size, 2, none⟩ (.bool false)).heap[w.heap.size]? = some (.cells (cnL 0 0 false 0).toArray 69 (0, 0)) from by
        have := mc_set (mc_set B0.out 3 (.int .i64 0)) 2 (.bool false)
        exact this)
      have TR2 := hide (show ((w0.setCell ⟨w.heap.size, 3, none⟩ (.int .i64 0)).setCell ⟨w.heap.size, 2, none⟩ (.bool false)).heap[w.heap.size + 1]? = some (.cells (cnL 0 0 false 0).toArray 69 (0, 0)) from by
        rw [heap_setCell_other _ _ _ _ (by simp), heap_setCell_other _ _ _ _ (by simp)]
        exact R0.out)
      have Q1 := hide (below_set (below_set Q0.out 3 (.int .i64 0)) 2 (.bool false))
      have TH := hide (there_heap (cs := cnL 0 0 false 0) TR2.out)
      clear HNX e0 hb TR h1 h2
      go_wp2_with (first | (refine wpList_load_row rfl 69 (.tmp 2) (by rfl) w.heap.size (by rfl) 69 (cnL 0 0 false 0).toArray (0, 0) _ (by exact B1.out) Tryz.underlying69 (by rfl) (by kernel_rfl) ?_) | (refine wpList_store_hid (by rfl) 69 (.tmp 4) (.tmp 16) (by rfl) (w.heap.size + 1) 0 (cnL 0 0 false 0) (by rfl) (by rfl) (by exact TH.out) (by kernel_rfl) (by simp [Value.oneCell', cnL]) ?_))
      intro w5 e5
      have R5 := hide (show w5.heap[w.heap.size + 1]? = some (.cells (cnL 0 0 false 0).toArray 69 (0, 0)) by rw [e5.out]; exact whole_heap (cnL 0 0 false 0) (xs := cnL 0 0 false 0) TR2.out rfl)
      have Q5 := hide (show Below w.heap.size w w5 by rw [e5.out]; exact Q1.out.trans (below_setCells _ _ _ (by omega)))
      clear e5 TH TR2 B1 Q1
      go_wp2_with fail
      refine bodyPost_ret (results_cell_row (p := 4) (ty := 69) (by rfl) _ w5 (w.heap.size + 1) 69 (cnL 0 0 false 0).toArray (0, 0) _ (by rfl) R5.out Tryz.underlying69 (by rfl) (by kernel_rfl)) rfl ⟨by rw [EN.out], Q5.out⟩
    · have EN := hide (show nx = cnL 0 0 true (rs - 1) by rw [HNX.out, if_pos e7, show (rs - 1 == 0) = false by simpa using e0]; rfl)
      have hne : (rs - 1 == 0) = false := by simpa using e0
      subst e7
      have B1 := hide (show (w0.setCell ⟨w.heap.size, 3, none⟩ (.int .i64 (rs - 1))).heap[w.heap.size]? = some (.cells (cnL 0 0 true (rs - 1)).toArray 69 (0, 0)) from mc_set B0.out 3 (.int .i64 (rs - 1)))
      have TR2 := hide (show (w0.setCell ⟨w.heap.size, 3, none⟩ (.int .i64 (rs - 1))).heap[w.heap.size + 1]? = some (.cells (cnL 0 0 false 0).toArray 69 (0, 0)) from by
        rw [heap_setCell_other _ _ _ _ (by simp)]
        exact R0.out)
      have Q1 := hide (below_set Q0.out 3 (.int .i64 (rs - 1)))
      have TH := hide (there_heap (cs := cnL 0 0 false 0) TR2.out)
      clear HNX TR
      go_wp2_with (first | (refine wpList_load_row rfl 69 (.tmp 2) (by rfl) w.heap.size (by rfl) 69 (cnL 0 0 true (rs - 1)).toArray (0, 0) _ (by exact B1.out) Tryz.underlying69 (by rfl) (by kernel_rfl) ?_) | (refine wpList_store_hid (by rfl) 69 (.tmp 4) (.tmp 16) (by rfl) (w.heap.size + 1) 0 (cnL 0 0 true (rs - 1)) (by rfl) (by rfl) (by exact TH.out) (by kernel_rfl) (by simp [Value.oneCell', cnL]) ?_))
      intro w5 e5
      have R5 := hide (show w5.heap[w.heap.size + 1]? = some (.cells (cnL 0 0 true (rs - 1)).toArray 69 (0, 0)) by rw [e5.out]; exact whole_heap (cnL 0 0 true (rs - 1)) (xs := cnL 0 0 false 0) TR2.out rfl)
      have Q5 := hide (show Below w.heap.size w w5 by rw [e5.out]; exact Q1.out.trans (below_setCells _ _ _ (by omega)))
      clear e5 TH TR2 B1 Q1
      go_wp2_with fail
      refine bodyPost_ret (results_cell_row (p := 4) (ty := 69) (by rfl) _ w5 (w.heap.size + 1) 69 (cnL 0 0 true (rs - 1)).toArray (0, 0) _ (by rfl) R5.out Tryz.underlying69 (by rfl) (by kernel_rfl)) rfl ⟨by rw [EN.out], Q5.out⟩
end Go.Proofs.YthkilodnghiocaaGreatDoor

/- The walk of count.Step of what is off. -/
namespace Go.Proofs.YthkilodnghiocaaGreatDoor
open Go.ChangeShapes Go.WideShapes Go.ChangeAt Go.RowKit Go.Maps
open FP (Fr)

set_option maxRecDepth 100000 in
set_option maxHeartbeats 8000000 in
theorem cntStep_off (what : Int) (fid : Nat) (hf : stepF what = some fid) (hw : 0 ≤ what ∧ what ≤ 1000) (rs : Int) (w : World) (h1 : 1 ≤ rs) (h2 : rs ≤ 128) :
    Calls Tryz.prog 109 #[.agg (cnL 0 0 true rs).toArray, .int .i64 what] w fun e w' => e = .returned (.tuple #[.agg (restL what rs).toArray, .int .i64 0]) ∧ Below w.heap.size w w' := by
  obtain ⟨w0, hw0⟩ : ∃ w0, w0 = (w.alloc (.cells (cnL 0 0 true rs).toArray 69)).alloc (.cells (cnL 0 0 false 0).toArray 69) := ⟨_, rfl⟩
  have hc : cntB 0 0 true rs = true := by unfold cntB; simp; omega
  have step : ∀ (W : World) (o : Obj), Below W.heap.size W (W.alloc o) := fun W o => (Below.refl _ _).alloc (Nat.le_refl _) _
  have B0 := hide (heap_below (World.alloc_heap_new w (.cells (cnL 0 0 true rs).toArray 69)) (step _ (.cells (cnL 0 0 false 0).toArray 69)))
  have R0 := hide (World.alloc_heap_new (w.alloc (.cells (cnL 0 0 true rs).toArray 69)) (.cells (cnL 0 0 false 0).toArray 69))
  have Q0 : Hid (Below w.heap.size w w0) := by rw [hw0]; exact hide ((step _ _).alloc (by simp) _)
  rw [← hw0] at B0 R0
  simp only [World.size_alloc] at R0
  have CN := hide (fun W => show Calls Tryz.prog 50 #[.agg (cnL 0 0 true rs).toArray] W fun e w' => e = .returned (.bool true) ∧ Below W.heap.size W w' from by
    have := cntRight_any 0 0 true rs W
    rw [hc] at this
    exact this)
  have ST := hide (cntSteps_any w0)
  obtain ⟨nx, hnx⟩ : ∃ nx, nx = restL what rs := ⟨_, rfl⟩
  rw [← hnx]
  have HNX := hide hnx
  clear step hc hnx
  go_enter Tryz.func109, Tryz.ntmps109
  go_upto_region 1 with fail
  change Code.wp _ _ _ _ ((w.alloc (.cells (cnL 0 0 true rs).toArray 69)).alloc (.cells (cnL 0 0 false 0).toArray 69))
  rw [← hw0]
  clear hw0
  go_wp2_with fail
  (with_reducible refine (ST.out).mono ?_)
  rintro e1 w1 ⟨⟨bm, n, rfl, hM⟩, q1⟩
  have hget := hM.get what hw hf
  have B1 := hide (heap_below B0.out q1)
  have R1 := hide (heap_below R0.out q1)
  have Q1 := hide (below_next Q0.out Q0.out.size q1)
  have C1 := hide (CN.out w1)
  clear q1 B0 R0 Q0 CN ST hM
  go_wp2_with (refine wpList_load_rowG (by kernel_rfl) 69 (.tmp 2) (by rfl) w.heap.size (by rfl) 69 (cnL 0 0 true rs).toArray (0, 0) _ (by exact B1.out) Tryz.underlying69 (by rfl) (by kernel_rfl) ?_)
  (with_reducible refine (C1.out).mono ?_)
  rintro e2 w2 ⟨rfl, q2⟩
  have B2 := hide (heap_below B1.out q2)
  have R2 := hide (heap_below R1.out q2)
  have Q2 := hide (below_next Q1.out Q1.out.size q2)
  have RS := hide (cntRest_any what rs w2 h1 h2)
  obtain ⟨c0, c1, c2, c3⟩ := cn_cells B2.out
  clear q2 B1 R1 Q1 C1 hget
  go_wp2_with (refine wpList_load_row rfl 69 (.tmp 2) (by rfl) w.heap.size (by rfl) 69 (cnL 0 0 true rs).toArray (0, 0) _ (by exact B2.out) Tryz.underlying69 (by rfl) (by kernel_rfl) ?_)
  (with_reducible refine (RS.out).mono ?_)
  rintro e3 w3 ⟨rfl, q3⟩
  have R3 := hide (heap_below R2.out q3)
  have Q3 := hide (below_next Q2.out Q2.out.size q3)
  have TR := hide (show w3.there (w.heap.size + 1) 0 4 from there_heap (cs := cnL 0 0 false 0) R3.out)
  have HL := hide (show ∃ a b c d, restL what rs = cnL a b c d from by
    unfold restL
    split
    · exact ⟨_, _, _, _, rfl⟩
    · exact ⟨_, _, _, _, rfl⟩)
  rw [← HNX.out] at HL ⊢
  clear q3 RS B2 R2 Q2 c0 c1 c2 c3 HNX
  obtain ⟨na, nb, nc, nd, hn⟩ := HL.out
  subst hn
  clear HL
  go_wp2_with (refine wpList_store_hid (by rfl) 69 (.tmp 4) (.tmp 26) (by rfl) (w.heap.size + 1) 0 (cnL na nb nc nd) (by rfl) (by rfl) (by exact TR.out) (by kernel_rfl) (by simp [Value.oneCell', cnL]) ?_)
  intro w5 e5
  have R5 := hide (show w5.heap[w.heap.size + 1]? = some (.cells (cnL na nb nc nd).toArray 69 (0, 0)) by rw [e5.out]; exact whole_heap (cnL na nb nc nd) (xs := cnL 0 0 false 0) R3.out rfl)
  have Q5 := hide (show Below w.heap.size w w5 by rw [e5.out]; exact Q3.out.trans (below_setCells _ _ _ (by omega)))
  clear e5 TR R3 Q3
  go_wp2_with fail
  refine bodyPost_ret (results_cell_tmp (by rfl) _ w5 (w.heap.size + 1) 69 (cnL na nb nc nd).toArray (0, 0) _ (.int .i64 0) (by rfl) (by rfl) R5.out Tryz.underlying69 (by rfl) (by kernel_rfl)) rfl ⟨rfl, Q5.out⟩
end Go.Proofs.YthkilodnghiocaaGreatDoor
