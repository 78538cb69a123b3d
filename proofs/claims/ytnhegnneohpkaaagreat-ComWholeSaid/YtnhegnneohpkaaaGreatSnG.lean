/- send.Tick, Switch, Ask of a sending that may be. -/
import Derived.Test.YtnhegnneohpkaaaGreatMgSnE
import Derived.Test.YtnhegnneohpkaaaGreatMgSnC
namespace Go.Proofs.YtnhegnneohpkaaaGreat
open Go.ChangeShapes Go.WideShapes Go.ChangeAt Go.RowKit
open CM PD SG

theorem sndRight_l (s : Snd) (w : World) (h : sndB s = true) : Calls Tryz.prog 63 #[.agg (sncL s).toArray] w fun e w' => e = .returned (.bool true) ∧ Below w.heap.size w w' := by
  have := sndRight_any s w
  rwa [h] at this
theorem sn_range {W : World} {x : Nat} {s : Snd} {t : TypeId} {fz : Nat × Nat} (h : W.heap[x]? = some (.cells (sncL s).toArray t fz)) : W.rangeAt x 0 (sncL s) := range_heap h

set_option maxRecDepth 100000 in
set_option maxHeartbeats 8000000 in
theorem sendTick_ok (s : Snd) (w : World) (hs : sndB s = true) :
    Calls Tryz.prog 34 #[.agg (sncL s).toArray] w fun e w' => e = .returned (.tuple #[.agg (sncL s.tick).toArray, .bool s.tickE, .int .i64 0]) ∧ Below w.heap.size w w' := by
  obtain ⟨w0, hw0⟩ : ∃ w0, w0 = (w.alloc (.cells (sncL s).toArray 38)).alloc (.cells (sncL zSnd).toArray 38) := ⟨_, rfl⟩
  have B := hide (heap_below (World.alloc_heap_new w (.cells (sncL s).toArray 38)) ((Below.refl _ (w.alloc (.cells (sncL s).toArray 38))).alloc (Nat.le_refl _) (.cells (sncL zSnd).toArray 38)))
  have R := hide (World.alloc_heap_new (w.alloc (.cells (sncL s).toArray 38)) (.cells (sncL zSnd).toArray 38))
  have Q : Hid (Below w.heap.size w w0) := by rw [hw0]; exact hide (((Below.refl w.heap.size w).alloc (Nat.le_refl _) (.cells (sncL s).toArray 38)).alloc (by simp; try omega) (.cells (sncL zSnd).toArray 38))
  rw [← hw0] at B R
  simp only [World.size_alloc] at R
  have RT := hide (sndRight_l s w0 hs)
  have TK := hide (fun (x : Nat) (V : World) (h : V.heap[x]? = some (.cells (sncL s).toArray 116 (0, 0))) => snTick_any s x V h hs)
  clear hs
  go_enter Tryz.func34, Tryz.ntmps34
  go_upto_region 1 with fail
  change Code.wp _ _ _ _ ((w.alloc (.cells (sncL s).toArray 38)).alloc (.cells (sncL zSnd).toArray 38))
  rw [← hw0]
  clear hw0
  go_wp2_with (refine wpList_load_row rfl 38 (.tmp 1) (by rfl) w.heap.size (by rfl) 38 (sncL s).toArray (0, 0) _ (by exact B.out) Tryz.underlying38 (by rfl) (by kernel_rfl) ?_)
  (with_reducible refine (RT.out).mono ?_)
  rintro ew1' w1' ⟨rfl, qw1'⟩
  replace B := hide (heap_below B.out qw1')
  replace R := hide (heap_below R.out qw1')
  replace Q := hide (below_next Q.out Q.out.size qw1')
  clear qw1'
  clear RT
  go_upto_region 4 with (refine wpList_load_row rfl 38 (.tmp 1) (by rfl) w.heap.size (by rfl) 38 #[.int .i64 s.yes.kind, .int .i64 s.yes.first, .int .i64 s.yes.period, .int .i64 s.yes.reps, .int .i64 s.yes.gap, .int .i64 s.no.kind, .int .i64 s.no.first, .int .i64 s.no.period, .int .i64 s.no.reps, .int .i64 s.no.gap, .bool s.on, .int .i64 s.delay, .int .i64 s.period, .int .i64 s.gap, .int .i64 s.left, .int .i64 s.hold, .bool s.asked] (0, 0) _ (by exact B.out) Tryz.underlying38 (by rfl) (by kernel_rfl) ?_)
  have X := hide (World.alloc_heap_new w1' (.cells (sncL s).toArray 116))
  have zB := heap_lt B.out
  have zR := heap_lt R.out
  have q : Below w1'.heap.size w1' (w1'.alloc (.cells (sncL s).toArray 116)) := (Below.refl _ _).alloc (Nat.le_refl _) _
  have zQ := Q.out.size
  replace B := hide (heap_below B.out q)
  replace R := hide (heap_below R.out q)
  replace Q := hide (below_next Q.out Q.out.size q)
  clear q
  change Code.wp _ _ _ _ (w1'.alloc (.cells (sncL s).toArray 116))
  generalize w1'.alloc (.cells (sncL s).toArray 116) = wx at *
  generalize w1'.heap.size = x at *
  have T1 := hide (TK.out x wx X.out)
  clear TK
  go_wp2_with fail
  (with_reducible refine (T1.out).mono ?_)
  rintro e8 w8 ⟨rfl, b8, k8⟩
  have zx := heap_lt X.out
  replace B := hide (k8.heap B.out (by omega))
  replace R := hide (k8.heap R.out (by omega))
  replace Q := hide (Q.out.trans (k8.below (B := w.heap.size) (fun k h => by omega) Q.out.size))
  replace X := hide b8
  clear b8 k8
  clear T1
  have TR := hide (show World.there _ (w.heap.size + 1) 0 17 from there_heap (cs := sncL zSnd) R.out)
  go_wp2_with (first | (refine wpList_load_mid rfl 38 (.tmp 18) (by rfl) x 0 (by rfl) (sncL s.tick) _ (by exact sn_range X.out) Tryz.underlying38 (by rfl) (by kernel_rfl) ?_) | (refine wpList_store_hid (by rfl) 38 (.tmp 2) (.tmp 19) (by rfl) (w.heap.size + 1) 0 (sncL s.tick) (by rfl) (by rfl) (by exact TR.out) (by kernel_rfl) (by simp [Value.oneCell', sncL]) ?_))
  intro w6 e6
  have R6 := hide (show w6.heap[w.heap.size + 1]? = some (.cells (sncL s.tick).toArray 38 (0, 0)) by rw [e6.out]; exact whole_heap (sncL s.tick) (xs := sncL zSnd) R.out rfl)
  have Q6 := hide (show Below w.heap.size w w6 by rw [e6.out]; exact Q.out.trans (below_setCells _ _ _ (by omega)))
  clear e6 TR R X B Q
  go_wp2_with fail
  refine bodyPost_ret (results_cell_tmp2 (by rfl) _ w6 (w.heap.size + 1) 38 (sncL s.tick).toArray (0, 0) _ (.bool s.tickE) (.int .i64 0) (by rfl) (by rfl) (by rfl) R6.out Tryz.underlying38 (by rfl) (by kernel_rfl)) rfl ⟨rfl, Q6.out⟩

set_option maxRecDepth 100000 in
set_option maxHeartbeats 8000000 in
theorem sendSwitch_ok (s : Snd) (on : Bool) (w : World) (hs : sndB s = true) :
    Calls Tryz.prog 33 #[.agg (sncL s).toArray, .bool on] w fun e w' => e = .returned (.tuple #[.agg (sncL (s.swap on)).toArray, .int .i64 0]) ∧ Below w.heap.size w w' := by
  obtain ⟨w0, hw0⟩ : ∃ w0, w0 = (w.alloc (.cells (sncL s).toArray 38)).alloc (.cells (sncL zSnd).toArray 38) := ⟨_, rfl⟩
  have B := hide (heap_below (World.alloc_heap_new w (.cells (sncL s).toArray 38)) ((Below.refl _ (w.alloc (.cells (sncL s).toArray 38))).alloc (Nat.le_refl _) (.cells (sncL zSnd).toArray 38)))
  have R := hide (World.alloc_heap_new (w.alloc (.cells (sncL s).toArray 38)) (.cells (sncL zSnd).toArray 38))
  have Q : Hid (Below w.heap.size w w0) := by rw [hw0]; exact hide (((Below.refl w.heap.size w).alloc (Nat.le_refl _) (.cells (sncL s).toArray 38)).alloc (by simp; try omega) (.cells (sncL zSnd).toArray 38))
  rw [← hw0] at B R
  simp only [World.size_alloc] at R
  have RT := hide (sndRight_l s w0 hs)
  clear hs
  go_enter Tryz.func33, Tryz.ntmps33
  go_upto_region 1 with fail
  change Code.wp _ _ _ _ ((w.alloc (.cells (sncL s).toArray 38)).alloc (.cells (sncL zSnd).toArray 38))
  rw [← hw0]
  clear hw0
  go_wp2_with (refine wpList_load_row rfl 38 (.tmp 2) (by rfl) w.heap.size (by rfl) 38 (sncL s).toArray (0, 0) _ (by exact B.out) Tryz.underlying38 (by rfl) (by kernel_rfl) ?_)
  (with_reducible refine (RT.out).mono ?_)
  rintro ew1' w1' ⟨rfl, qw1'⟩
  replace B := hide (heap_below B.out qw1')
  replace R := hide (heap_below R.out qw1')
  replace Q := hide (below_next Q.out Q.out.size qw1')
  clear qw1'
  clear RT
  go_upto_region 4 with (refine wpList_load_row rfl 38 (.tmp 2) (by rfl) w.heap.size (by rfl) 38 #[.int .i64 s.yes.kind, .int .i64 s.yes.first, .int .i64 s.yes.period, .int .i64 s.yes.reps, .int .i64 s.yes.gap, .int .i64 s.no.kind, .int .i64 s.no.first, .int .i64 s.no.period, .int .i64 s.no.reps, .int .i64 s.no.gap, .bool s.on, .int .i64 s.delay, .int .i64 s.period, .int .i64 s.gap, .int .i64 s.left, .int .i64 s.hold, .bool s.asked] (0, 0) _ (by exact B.out) Tryz.underlying38 (by rfl) (by kernel_rfl) ?_)
  have X := hide (World.alloc_heap_new w1' (.cells (sncL s).toArray 116))
  have zB := heap_lt B.out
  have zR := heap_lt R.out
  have q : Below w1'.heap.size w1' (w1'.alloc (.cells (sncL s).toArray 116)) := (Below.refl _ _).alloc (Nat.le_refl _) _
  have zQ := Q.out.size
  replace B := hide (heap_below B.out q)
  replace R := hide (heap_below R.out q)
  replace Q := hide (below_next Q.out Q.out.size q)
  clear q
  change Code.wp _ _ _ _ (w1'.alloc (.cells (sncL s).toArray 116))
  generalize w1'.alloc (.cells (sncL s).toArray 116) = wx at *
  generalize w1'.heap.size = x at *
  obtain ⟨c0, c1, c2, c3, c4, c5, c6, c7, c8, c9, c10, c11, c12, c13, c14, c15, c16⟩ := sn_cells B.out
  by_cases ho : s.on = on
  · have E := hide (show s.swap on = s from if_pos ho)
    subst ho
    have TR := hide (show World.there _ (w.heap.size + 1) 0 17 from there_heap (cs := sncL zSnd) R.out)
    go_wp2_with (first | (refine wpList_load_mid rfl 38 (.tmp 27) (by rfl) x 0 (by rfl) (sncL s) _ (by exact sn_range X.out) Tryz.underlying38 (by rfl) (by kernel_rfl) ?_) | (refine wpList_store_hid (by rfl) 38 (.tmp 4) (.tmp 28) (by rfl) (w.heap.size + 1) 0 (sncL s) (by rfl) (by rfl) (by exact TR.out) (by kernel_rfl) (by simp [Value.oneCell', sncL]) ?_))
    intro w6 e6
    have R6 := hide (show w6.heap[w.heap.size + 1]? = some (.cells (sncL s).toArray 38 (0, 0)) by rw [e6.out]; exact whole_heap (sncL s) (xs := sncL zSnd) R.out rfl)
    have Q6 := hide (show Below w.heap.size w w6 by rw [e6.out]; exact Q.out.trans (below_setCells _ _ _ (by omega)))
    clear e6 TR R X B Q
    go_wp2_with fail
    refine bodyPost_ret (results_cell_tmp (by rfl) _ w6 (w.heap.size + 1) 38 (sncL s).toArray (0, 0) _ (.int .i64 0) (by rfl) (by rfl) R6.out Tryz.underlying38 (by rfl) (by kernel_rfl)) rfl ⟨by rw [E.out], Q6.out⟩
  · have E := hide (show s.swap on = ({ s with on := on } : Snd).begin from if_neg ho)
    have hne : (s.on != on) = true := by simpa using ho
    have hne2 : (s.on == on) = false := by simpa using ho
    have hne3 : ¬ s.on = on := ho
    clear ho
    clear c0 c1 c2 c3 c4 c5 c6 c7 c8 c9 c11 c12 c13 c14 c15 c16
    have f10 := sn_free X.out 10
    obtain ⟨-, -, -, -, -, -, -, -, -, -, d10, -⟩ := sn_cells X.out
    go_upto_region 6 with fail
    clear c10 d10 f10
    obtain ⟨wy, ey⟩ : ∃ wy, wy = wx.setCell ⟨x, 10, none⟩ (.bool on) := ⟨_, rfl⟩
    rw [← ey]
    have X2 : Hid (wy.heap[x]? = some (.cells (sncL { s with on := on }).toArray 116 (0, 0))) := hide (by rw [ey]; exact set_heap [.bool on] (sncL s) 10 _ X.out)
    replace B := hide (show wy.heap[w.heap.size]? = some (.cells (sncL s).toArray 38 (0, 0)) by rw [ey]; exact other_heap (by omega) [.bool on] 10 _ B.out)
    replace R := hide (show wy.heap[w.heap.size + 1]? = some (.cells (sncL zSnd).toArray 38 (0, 0)) by rw [ey]; exact other_heap (by omega) [.bool on] 10 _ R.out)
    replace Q := hide (show Below w.heap.size w wy by rw [ey]; exact Q.out.trans (below_setCells [.bool on] 10 _ (by omega)))
    clear ey X
    have BG := hide (snBegin_any { s with on := on } x 116 wy X2)
    go_wp2_with fail
    (with_reducible refine (BG.out).mono ?_)
    rintro e8 w8 ⟨⟨v8, rfl⟩, b8, q8⟩
    have X := hide (show w8.heap[x]? = some (.cells (sncL ({ s with on := on } : Snd).begin).toArray 116 (0, 0)) from b8)
    replace B := hide (heapB B.out q8 (by omega))
    replace R := hide (heapB R.out q8 (by omega))
    replace Q := hide (Q.out.trans (q8.mono (by omega)))
    clear b8 q8 BG X2
    have TR := hide (show World.there _ (w.heap.size + 1) 0 17 from there_heap (cs := sncL zSnd) R.out)
    go_wp2_with (first | (refine wpList_load_mid rfl 38 (.tmp 27) (by rfl) x 0 (by rfl) (sncL ({ s with on := on } : Snd).begin) _ (by exact sn_range X.out) Tryz.underlying38 (by rfl) (by kernel_rfl) ?_) | (refine wpList_store_hid (by rfl) 38 (.tmp 4) (.tmp 28) (by rfl) (w.heap.size + 1) 0 (sncL ({ s with on := on } : Snd).begin) (by rfl) (by rfl) (by exact TR.out) (by kernel_rfl) (by simp [Value.oneCell', sncL]) ?_))
    intro w6 e6
    have R6 := hide (show w6.heap[w.heap.size + 1]? = some (.cells (sncL ({ s with on := on } : Snd).begin).toArray 38 (0, 0)) by rw [e6.out]; exact whole_heap (sncL ({ s with on := on } : Snd).begin) (xs := sncL zSnd) R.out rfl)
    have Q6 := hide (show Below w.heap.size w w6 by rw [e6.out]; exact Q.out.trans (below_setCells _ _ _ (by omega)))
    clear e6 TR R X B Q
    go_wp2_with fail
    refine bodyPost_ret (results_cell_tmp (by rfl) _ w6 (w.heap.size + 1) 38 (sncL ({ s with on := on } : Snd).begin).toArray (0, 0) _ (.int .i64 0) (by rfl) (by rfl) R6.out Tryz.underlying38 (by rfl) (by kernel_rfl)) rfl ⟨by rw [E.out], Q6.out⟩

set_option maxRecDepth 100000 in
set_option maxHeartbeats 16000000 in
theorem sendAsk_ok (s : Snd) (w : World) (hs : sndB s = true) :
    Calls Tryz.prog 32 #[.agg (sncL s).toArray] w fun e w' => e = .returned (.tuple #[.agg (sncL s.ask).toArray, .int .i64 0]) ∧ Below w.heap.size w w' := by
  obtain ⟨w0, hw0⟩ : ∃ w0, w0 = (w.alloc (.cells (sncL s).toArray 38)).alloc (.cells (sncL zSnd).toArray 38) := ⟨_, rfl⟩
  have B := hide (heap_below (World.alloc_heap_new w (.cells (sncL s).toArray 38)) ((Below.refl _ (w.alloc (.cells (sncL s).toArray 38))).alloc (Nat.le_refl _) (.cells (sncL zSnd).toArray 38)))
  have R := hide (World.alloc_heap_new (w.alloc (.cells (sncL s).toArray 38)) (.cells (sncL zSnd).toArray 38))
  have Q : Hid (Below w.heap.size w w0) := by rw [hw0]; exact hide (((Below.refl w.heap.size w).alloc (Nat.le_refl _) (.cells (sncL s).toArray 38)).alloc (by simp; try omega) (.cells (sncL zSnd).toArray 38))
  rw [← hw0] at B R
  simp only [World.size_alloc] at R
  have RT := hide (sndRight_l s w0 hs)
  have WY := hide (fun (x : Nat) (V : World) (h : V.heap[x]? = some (.cells (sncL s).toArray 116 (0, 0))) => snWay_any s x 116 V (hide h))
  have HA := hide (show s.ask = if dirB s.way = true then { s with asked := true, left := s.way.reps, gap := if 0 < s.way.reps then s.way.gap else 0 } else s from rfl)
  obtain ⟨wy, hwy⟩ : ∃ wy, wy = s.way := ⟨_, rfl⟩
  rw [← hwy] at WY HA
  obtain ⟨sa, hsa⟩ : ∃ sa, sa = s.ask := ⟨_, rfl⟩
  rw [← hsa] at HA ⊢
  have DI := hide (fun V => show Calls Tryz.prog 70 #[.agg #[.int .i64 wy.kind, .int .i64 wy.first, .int .i64 wy.period, .int .i64 wy.reps, .int .i64 wy.gap]] V fun e w' => e = .returned (.bool (dirB wy)) ∧ Below V.heap.size V w' from direct_any wy V)
  clear hs hwy hsa
  go_enter Tryz.func32, Tryz.ntmps32
  go_upto_region 1 with fail
  change Code.wp _ _ _ _ ((w.alloc (.cells (sncL s).toArray 38)).alloc (.cells (sncL zSnd).toArray 38))
  rw [← hw0]
  clear hw0
  go_wp2_with (refine wpList_load_row rfl 38 (.tmp 1) (by rfl) w.heap.size (by rfl) 38 (sncL s).toArray (0, 0) _ (by exact B.out) Tryz.underlying38 (by rfl) (by kernel_rfl) ?_)
  (with_reducible refine (RT.out).mono ?_)
  rintro ew1' w1' ⟨rfl, qw1'⟩
  replace B := hide (heap_below B.out qw1')
  replace R := hide (heap_below R.out qw1')
  replace Q := hide (below_next Q.out Q.out.size qw1')
  clear qw1'
  clear RT
  go_upto_region 4 with (refine wpList_load_row rfl 38 (.tmp 1) (by rfl) w.heap.size (by rfl) 38 #[.int .i64 s.yes.kind, .int .i64 s.yes.first, .int .i64 s.yes.period, .int .i64 s.yes.reps, .int .i64 s.yes.gap, .int .i64 s.no.kind, .int .i64 s.no.first, .int .i64 s.no.period, .int .i64 s.no.reps, .int .i64 s.no.gap, .bool s.on, .int .i64 s.delay, .int .i64 s.period, .int .i64 s.gap, .int .i64 s.left, .int .i64 s.hold, .bool s.asked] (0, 0) _ (by exact B.out) Tryz.underlying38 (by rfl) (by kernel_rfl) ?_)
  have X := hide (World.alloc_heap_new w1' (.cells (sncL s).toArray 116))
  have zB := heap_lt B.out
  have zR := heap_lt R.out
  have q : Below w1'.heap.size w1' (w1'.alloc (.cells (sncL s).toArray 116)) := (Below.refl _ _).alloc (Nat.le_refl _) _
  have zQ := Q.out.size
  replace B := hide (heap_below B.out q)
  replace R := hide (heap_below R.out q)
  replace Q := hide (below_next Q.out Q.out.size q)
  clear q
  change Code.wp _ _ _ _ (w1'.alloc (.cells (sncL s).toArray 116))
  generalize w1'.alloc (.cells (sncL s).toArray 116) = wx at *
  generalize w1'.heap.size = x at *
  have T1 := hide (WY.out x wx X.out)
  clear WY
  go_wp2_with fail
  (with_reducible refine (T1.out).mono ?_)
  rintro ew2' w2' ⟨rfl, qw2'⟩
  replace B := hide (heap_below B.out qw2')
  replace R := hide (heap_below R.out qw2')
  replace X := hide (heap_below X.out qw2')
  replace Q := hide (below_next Q.out Q.out.size qw2')
  clear qw2'
  clear T1
  have Y := World.alloc_heap_new w2' (.cells ([.int .i64 0, .int .i64 0, .int .i64 0, .int .i64 0, .int .i64 0]).toArray 32)
  have zBy : w.heap.size < w2'.heap.size := heap_lt B.out
  have zRy : w.heap.size + 1 < w2'.heap.size := heap_lt R.out
  have zXy : x < w2'.heap.size := heap_lt X.out
  have zQy : w.heap.size ≤ w2'.heap.size := Q.out.size
  obtain ⟨w4', hw4'⟩ : ∃ wx, wx = w2'.alloc (.cells ([.int .i64 0, .int .i64 0, .int .i64 0, .int .i64 0, .int .i64 0]).toArray 32) := ⟨_, rfl⟩
  have q3' := hide (show Below w2'.heap.size w2' w4' by rw [hw4']; exact (Below.refl _ _).alloc (Nat.le_refl _) _)
  rw [← hw4'] at Y
  replace Y := hide Y
  have Tw5' := hide (show (w2'.alloc (.cells ([.int .i64 0, .int .i64 0, .int .i64 0, .int .i64 0, .int .i64 0]).toArray 32)).there w2'.heap.size 0 5 by rw [← hw4']; exact there_heap (cs := [.int .i64 0, .int .i64 0, .int .i64 0, .int .i64 0, .int .i64 0]) Y.out)
  go_wp2_with (refine wpList_store_hid (by rfl) 32 (.tmp 5) (.tmp 14) (by rfl) w2'.heap.size 0 ([.int .i64 wy.kind, .int .i64 wy.first, .int .i64 wy.period, .int .i64 wy.reps, .int .i64 wy.gap]) (by rfl) (by rfl) (by exact Tw5'.out) (by kernel_rfl) (by simp [Value.oneCell', ]) ?_)
  intro w5' ew5'
  replace ew5' : Hid (w5' = w4'.setCells w2'.heap.size 0 ([.int .i64 wy.kind, .int .i64 wy.first, .int .i64 wy.period, .int .i64 wy.reps, .int .i64 wy.gap])) := by rw [hw4']; exact ew5'
  replace Y := hide (show w5'.heap[w2'.heap.size]? = some (.cells ([.int .i64 wy.kind, .int .i64 wy.first, .int .i64 wy.period, .int .i64 wy.reps, .int .i64 wy.gap]).toArray 32 (0, 0)) by rw [ew5'.out]; exact whole_heap ([.int .i64 wy.kind, .int .i64 wy.first, .int .i64 wy.period, .int .i64 wy.reps, .int .i64 wy.gap]) (xs := [.int .i64 0, .int .i64 0, .int .i64 0, .int .i64 0, .int .i64 0]) Y.out rfl)
  replace q3' := hide (show Below w2'.heap.size w2' w5' by rw [ew5'.out]; exact q3'.out.trans (below_setCells _ _ _ (by omega)))
  clear ew5' Tw5' hw4'
  replace B := hide (heap_below B.out q3'.out)
  replace R := hide (heap_below R.out q3'.out)
  replace X := hide (heap_below X.out q3'.out)
  replace Q := hide (below_next Q.out Q.out.size q3'.out)
  clear q3'
  generalize w2'.heap.size = y at *
  go_wp2_with (refine wpList_load_row rfl 32 (.tmp 5) (by rfl) y (by rfl) 32 #[.int .i64 wy.kind, .int .i64 wy.first, .int .i64 wy.period, .int .i64 wy.reps, .int .i64 wy.gap] (0, 0) _ (by exact Y.out) Tryz.underlying32 (by rfl) (by kernel_rfl) ?_)
  (with_reducible refine (DI.out _).mono ?_)
  rintro ew6' w6' ⟨rfl, qw6'⟩
  replace B := hide (heap_below B.out qw6')
  replace R := hide (heap_below R.out qw6')
  replace X := hide (heap_below X.out qw6')
  replace Y := hide (heap_below Y.out qw6')
  replace Q := hide (below_next Q.out Q.out.size qw6')
  clear qw6'
  clear DI
  have zx := heap_lt X.out
  have zy := heap_lt Y.out
  rcases hd : dirB wy with _ | _
  ·
    have E := hide (show sa = s by rw [HA.out, if_neg (by rw [hd]; decide)])
    clear HA zx zy Y
    have TR := hide (show World.there _ (w.heap.size + 1) 0 17 from there_heap (cs := sncL zSnd) R.out)
    go_wp2_with (first | (refine wpList_load_mid rfl 38 (.tmp 42) (by rfl) x 0 (by rfl) (sncL s) _ (by exact sn_range X.out) Tryz.underlying38 (by rfl) (by kernel_rfl) ?_) | (refine wpList_store_hid (by rfl) 38 (.tmp 2) (.tmp 43) (by rfl) (w.heap.size + 1) 0 (sncL s) (by rfl) (by rfl) (by exact TR.out) (by kernel_rfl) (by simp [Value.oneCell', sncL]) ?_))
    intro w6 e6
    have R6 := hide (show w6.heap[w.heap.size + 1]? = some (.cells (sncL s).toArray 38 (0, 0)) by rw [e6.out]; exact whole_heap (sncL s) (xs := sncL zSnd) R.out rfl)
    have Q6 := hide (show Below w.heap.size w w6 by rw [e6.out]; exact Q.out.trans (below_setCells _ _ _ (by omega)))
    clear e6 TR R X B Q
    go_wp2_with fail
    refine bodyPost_ret (results_cell_tmp (by rfl) _ w6 (w.heap.size + 1) 38 (sncL s).toArray (0, 0) _ (.int .i64 0) (by rfl) (by rfl) R6.out Tryz.underlying38 (by rfl) (by kernel_rfl)) rfl ⟨by rw [E.out], Q6.out⟩
  ·
    rw [if_pos hd] at HA
    clear hd
    go_upto_region 6 with fail
    refine wp_region_L [0, 1, 2, 3, 4, 5, 6, 7, 9, 10, 11, 13, 14, 15] [(4, fun W => W.heap[y]? = some (.cells ([.int .i64 wy.kind, .int .i64 wy.first, .int .i64 wy.period, .int .i64 wy.reps, .int .i64 wy.gap]).toArray 32 (0, 0)))] (by kernel_rfl) ?_
    replace B := hide (show w6'.drew.heap[w.heap.size]? = some (.cells (sncL s).toArray 38 (0, 0)) from B.out)
    replace R := hide (show w6'.drew.heap[w.heap.size + 1]? = some (.cells (sncL zSnd).toArray 38 (0, 0)) from R.out)
    replace X := hide (show w6'.drew.heap[x]? = some (.cells (sncL s).toArray 116 (0, 0)) from X.out)
    replace Y := hide (show w6'.drew.heap[y]? = some (.cells ([.int .i64 wy.kind, .int .i64 wy.first, .int .i64 wy.period, .int .i64 wy.reps, .int .i64 wy.gap]).toArray 32 (0, 0)) from Y.out)
    replace Q := hide (show Below w.heap.size w w6'.drew from Q.out.drew)
    generalize w6'.drew = w7' at *
    refine wpAnyL_pure (i := 0) (v := .pointer (some ⟨x, 0, none⟩)) rfl rfl (by kernel_rfl) (by kernel_rfl) (by kernel_rfl) (by kernel_rfl) (by kernel_rfl) (fun _ _ _ h => h) rfl (fun W => by go_simp) ?_
    go_simp
    refine wpAnyL_pure (i := 1) (v := .pointer (some ⟨x, 0, none⟩)) rfl rfl (by kernel_rfl) (by kernel_rfl) (by kernel_rfl) (by kernel_rfl) (by kernel_rfl) (fun _ _ _ h => h) rfl (fun W => by go_simp) ?_
    go_simp
    refine wpAnyL_pure (i := 2) (v := .pointer (some ⟨x, 0, none⟩)) rfl rfl (by kernel_rfl) (by kernel_rfl) (by kernel_rfl) (by kernel_rfl) (by kernel_rfl) (fun _ _ _ h => h) rfl (fun W => by go_simp) ?_
    go_simp
    refine wpAnyL_pure (i := 3) (v := .pointer (some ⟨y, 3, none⟩)) rfl rfl (by kernel_rfl) (by kernel_rfl) (by kernel_rfl) (by kernel_rfl) (by kernel_rfl) (fun _ _ _ h => h) rfl (fun W => by go_simp) ?_
    go_simp
    refine wpAnyL_load (i := 4) (v := .int .i64 wy.reps) rfl rfl (by kernel_rfl) (by kernel_rfl) (by kernel_rfl) (by kernel_rfl) (by kernel_rfl) (fun _ _ _ h => h) rfl (fun W h => by have h0 : W.cell? ⟨y, 3, none⟩ = some (.int .i64 wy.reps) := (by simp [World.cell?, h]); clear h; go_simp) (Y.out) ?_
    go_simp
    refine wpAnyL_pure (i := 5) (v := .pointer (some ⟨x, 0, none⟩)) rfl rfl (by kernel_rfl) (by kernel_rfl) (by kernel_rfl) (by kernel_rfl) (by kernel_rfl) (fun _ _ _ h => h) rfl (fun W => by go_simp) ?_
    go_simp
    refine wpAnyL_pure (i := 6) (v := .pointer (some ⟨x, 0, none⟩)) rfl rfl (by kernel_rfl) (by kernel_rfl) (by kernel_rfl) (by kernel_rfl) (by kernel_rfl) (fun _ _ _ h => h) rfl (fun W => by go_simp) ?_
    go_simp
    refine wpAnyL_pure (i := 7) (v := .pointer (some ⟨x, 16, none⟩)) rfl rfl (by kernel_rfl) (by kernel_rfl) (by kernel_rfl) (by kernel_rfl) (by kernel_rfl) (fun _ _ _ h => h) rfl (fun W => by go_simp) ?_
    go_simp
    obtain ⟨d0, d1, d2, d3, d4, d5, d6, d7, d8, d9, d10, d11, d12, d13, d14, d15, d16⟩ := sn_cells X.out
    have fr := sn_free X.out 16
    refine wpAnyL_one (i := 8) (by kernel_rfl) ?_
    refine wpOp_do rfl rfl ?_
    go_simp
    clear d0 d1 d2 d3 d4 d5 d6 d7 d8 d9 d10 d11 d12 d13 d14 d15 d16 fr
    obtain ⟨w8', ew8'⟩ : ∃ wq, wq = w7'.setCell ⟨x, 16, none⟩ (.bool true) := ⟨_, rfl⟩
    rw [← ew8']
    replace B := hide (show w8'.heap[w.heap.size]? = some (.cells (sncL s).toArray 38 (0, 0)) by rw [ew8']; exact other_heap (by omega) [.bool true] 16 _ B.out)
    replace R := hide (show w8'.heap[w.heap.size + 1]? = some (.cells (sncL zSnd).toArray 38 (0, 0)) by rw [ew8']; exact other_heap (by omega) [.bool true] 16 _ R.out)
    replace Y := hide (show w8'.heap[y]? = some (.cells ([.int .i64 wy.kind, .int .i64 wy.first, .int .i64 wy.period, .int .i64 wy.reps, .int .i64 wy.gap]).toArray 32 (0, 0)) by rw [ew8']; exact other_heap (by omega) [.bool true] 16 _ Y.out)
    replace X := hide (show w8'.heap[x]? = some (.cells (sncL { s with asked := true }).toArray 116 (0, 0)) by rw [ew8']; exact set_heap [.bool true] (sncL s) 16 _ X.out)
    replace Q := hide (show Below w.heap.size w w8' by rw [ew8']; exact Q.out.trans (below_setCells [.bool true] 16 _ (by omega)))
    clear ew8'
    refine ⟨keepsL_mk (by kernel_rfl) (.cons Y.out .nil), ?_⟩
    go_simp
    refine wpAnyL_pure (i := 9) (v := .pointer (some ⟨x, 0, none⟩)) rfl rfl (by kernel_rfl) (by kernel_rfl) (by kernel_rfl) (by kernel_rfl) (by kernel_rfl) (fun _ _ _ h => h) rfl (fun W => by go_simp) ?_
    go_simp
    refine wpAnyL_pure (i := 10) (v := .pointer (some ⟨x, 0, none⟩)) rfl rfl (by kernel_rfl) (by kernel_rfl) (by kernel_rfl) (by kernel_rfl) (by kernel_rfl) (fun _ _ _ h => h) rfl (fun W => by go_simp) ?_
    go_simp
    refine wpAnyL_pure (i := 11) (v := .pointer (some ⟨x, 14, none⟩)) rfl rfl (by kernel_rfl) (by kernel_rfl) (by kernel_rfl) (by kernel_rfl) (by kernel_rfl) (fun _ _ _ h => h) rfl (fun W => by go_simp) ?_
    go_simp
    obtain ⟨d0, d1, d2, d3, d4, d5, d6, d7, d8, d9, d10, d11, d12, d13, d14, d15, d16⟩ := sn_cells X.out
    have fr := sn_free X.out 14
    refine wpAnyL_one (i := 12) (by kernel_rfl) ?_
    refine wpOp_do rfl rfl ?_
    go_simp
    clear d0 d1 d2 d3 d4 d5 d6 d7 d8 d9 d10 d11 d12 d13 d14 d15 d16 fr
    obtain ⟨w9', ew9'⟩ : ∃ wq, wq = w8'.setCell ⟨x, 14, none⟩ (.int .i64 wy.reps) := ⟨_, rfl⟩
    rw [← ew9']
    replace B := hide (show w9'.heap[w.heap.size]? = some (.cells (sncL s).toArray 38 (0, 0)) by rw [ew9']; exact other_heap (by omega) [.int .i64 wy.reps] 14 _ B.out)
    replace R := hide (show w9'.heap[w.heap.size + 1]? = some (.cells (sncL zSnd).toArray 38 (0, 0)) by rw [ew9']; exact other_heap (by omega) [.int .i64 wy.reps] 14 _ R.out)
    replace Y := hide (show w9'.heap[y]? = some (.cells ([.int .i64 wy.kind, .int .i64 wy.first, .int .i64 wy.period, .int .i64 wy.reps, .int .i64 wy.gap]).toArray 32 (0, 0)) by rw [ew9']; exact other_heap (by omega) [.int .i64 wy.reps] 14 _ Y.out)
    replace X := hide (show w9'.heap[x]? = some (.cells (sncL { s with asked := true, left := wy.reps }).toArray 116 (0, 0)) by rw [ew9']; exact set_heap [.int .i64 wy.reps] (sncL { s with asked := true }) 14 _ X.out)
    replace Q := hide (show Below w.heap.size w w9' by rw [ew9']; exact Q.out.trans (below_setCells [.int .i64 wy.reps] 14 _ (by omega)))
    clear ew9'
    refine ⟨keepsL_all (by kernel_rfl) (by kernel_rfl), ?_⟩
    go_simp
    refine wpAnyL_pure (i := 13) (v := .pointer (some ⟨x, 0, none⟩)) rfl rfl (by kernel_rfl) (by kernel_rfl) (by kernel_rfl) (by kernel_rfl) (by kernel_rfl) (fun _ _ _ h => h) rfl (fun W => by go_simp) ?_
    go_simp
    refine wpAnyL_pure (i := 14) (v := .pointer (some ⟨x, 0, none⟩)) rfl rfl (by kernel_rfl) (by kernel_rfl) (by kernel_rfl) (by kernel_rfl) (by kernel_rfl) (fun _ _ _ h => h) rfl (fun W => by go_simp) ?_
    go_simp
    refine wpAnyL_pure (i := 15) (v := .pointer (some ⟨x, 13, none⟩)) rfl rfl (by kernel_rfl) (by kernel_rfl) (by kernel_rfl) (by kernel_rfl) (by kernel_rfl) (fun _ _ _ h => h) rfl (fun W => by go_simp) ?_
    go_simp
    obtain ⟨d0, d1, d2, d3, d4, d5, d6, d7, d8, d9, d10, d11, d12, d13, d14, d15, d16⟩ := sn_cells X.out
    have fr := sn_free X.out 13
    refine wpAnyL_one (i := 16) (by kernel_rfl) ?_
    refine wpOp_do rfl rfl ?_
    go_simp
    clear d0 d1 d2 d3 d4 d5 d6 d7 d8 d9 d10 d11 d12 d13 d14 d15 d16 fr
    obtain ⟨w10', ew10'⟩ : ∃ wq, wq = w9'.setCell ⟨x, 13, none⟩ (.int .i64 0) := ⟨_, rfl⟩
    rw [← ew10']
    replace B := hide (show w10'.heap[w.heap.size]? = some (.cells (sncL s).toArray 38 (0, 0)) by rw [ew10']; exact other_heap (by omega) [.int .i64 0] 13 _ B.out)
    replace R := hide (show w10'.heap[w.heap.size + 1]? = some (.cells (sncL zSnd).toArray 38 (0, 0)) by rw [ew10']; exact other_heap (by omega) [.int .i64 0] 13 _ R.out)
    replace Y := hide (show w10'.heap[y]? = some (.cells ([.int .i64 wy.kind, .int .i64 wy.first, .int .i64 wy.period, .int .i64 wy.reps, .int .i64 wy.gap]).toArray 32 (0, 0)) by rw [ew10']; exact other_heap (by omega) [.int .i64 0] 13 _ Y.out)
    replace X := hide (show w10'.heap[x]? = some (.cells (sncL { s with asked := true, left := wy.reps, gap := 0 }).toArray 116 (0, 0)) by rw [ew10']; exact set_heap [.int .i64 0] (sncL { s with asked := true, left := wy.reps }) 13 _ X.out)
    replace Q := hide (show Below w.heap.size w w10' by rw [ew10']; exact Q.out.trans (below_setCells [.int .i64 0] 13 _ (by omega)))
    clear ew10'
    refine ⟨keepsL_all (by kernel_rfl) (by kernel_rfl), ?_⟩
    go_simp
    refine wpAnyL_done (by kernel_rfl) ?_ _
    have y3 : w10'.cell? ⟨y, 3, none⟩ = some (.int .i64 wy.reps) := by simp [World.cell?, Y.out]
    have y4 : w10'.cell? ⟨y, 4, none⟩ = some (.int .i64 wy.gap) := by simp [World.cell?, Y.out]
    by_cases hr : 0 < wy.reps
    · have E := hide (show sa = { s with asked := true, left := wy.reps, gap := wy.gap } by rw [HA.out, if_pos hr])
      obtain ⟨d0, d1, d2, d3, d4, d5, d6, d7, d8, d9, d10, d11, d12, d13, d14, d15, d16⟩ := sn_cells X.out
      have fr := sn_free X.out 13
      go_upto_region 9 with fail
      clear d0 d1 d2 d3 d4 d5 d6 d7 d8 d9 d10 d11 d12 d13 d14 d15 d16 fr y3 y4
      obtain ⟨w11', ew11'⟩ : ∃ wq, wq = w10'.setCell ⟨x, 13, none⟩ (.int .i64 wy.gap) := ⟨_, rfl⟩
      rw [← ew11']
      replace B := hide (show w11'.heap[w.heap.size]? = some (.cells (sncL s).toArray 38 (0, 0)) by rw [ew11']; exact other_heap (by omega) [.int .i64 wy.gap] 13 _ B.out)
      replace R := hide (show w11'.heap[w.heap.size + 1]? = some (.cells (sncL zSnd).toArray 38 (0, 0)) by rw [ew11']; exact other_heap (by omega) [.int .i64 wy.gap] 13 _ R.out)
      replace X := hide (show w11'.heap[x]? = some (.cells (sncL { s with asked := true, left := wy.reps, gap := wy.gap }).toArray 116 (0, 0)) by rw [ew11']; exact set_heap [.int .i64 wy.gap] (sncL { s with asked := true, left := wy.reps, gap := 0 }) 13 _ X.out)
      replace Q := hide (show Below w.heap.size w w11' by rw [ew11']; exact Q.out.trans (below_setCells [.int .i64 wy.gap] 13 _ (by omega)))
      clear ew11' Y
      have TR := hide (show World.there _ (w.heap.size + 1) 0 17 from there_heap (cs := sncL zSnd) R.out)
      go_wp2_with (first | (refine wpList_load_mid rfl 38 (.tmp 42) (by rfl) x 0 (by rfl) (sncL { s with asked := true, left := wy.reps, gap := wy.gap }) _ (by exact sn_range X.out) Tryz.underlying38 (by rfl) (by kernel_rfl) ?_) | (refine wpList_store_hid (by rfl) 38 (.tmp 2) (.tmp 43) (by rfl) (w.heap.size + 1) 0 (sncL { s with asked := true, left := wy.reps, gap := wy.gap }) (by rfl) (by rfl) (by exact TR.out) (by kernel_rfl) (by simp [Value.oneCell', sncL]) ?_))
      intro w6 e6
      have R6 := hide (show w6.heap[w.heap.size + 1]? = some (.cells (sncL { s with asked := true, left := wy.reps, gap := wy.gap }).toArray 38 (0, 0)) by rw [e6.out]; exact whole_heap (sncL { s with asked := true, left := wy.reps, gap := wy.gap }) (xs := sncL zSnd) R.out rfl)
      have Q6 := hide (show Below w.heap.size w w6 by rw [e6.out]; exact Q.out.trans (below_setCells _ _ _ (by omega)))
      clear e6 TR R X B Q
      go_wp2_with fail
      refine bodyPost_ret (results_cell_tmp (by rfl) _ w6 (w.heap.size + 1) 38 (sncL { s with asked := true, left := wy.reps, gap := wy.gap }).toArray (0, 0) _ (.int .i64 0) (by rfl) (by rfl) R6.out Tryz.underlying38 (by rfl) (by kernel_rfl)) rfl ⟨by rw [E.out], Q6.out⟩
    · have E := hide (show sa = { s with asked := true, left := wy.reps, gap := 0 } by rw [HA.out, if_neg hr])
      go_upto_region 9 with fail
      clear y3 y4 Y
      have TR := hide (show World.there _ (w.heap.size + 1) 0 17 from there_heap (cs := sncL zSnd) R.out)
      go_wp2_with (first | (refine wpList_load_mid rfl 38 (.tmp 42) (by rfl) x 0 (by rfl) (sncL { s with asked := true, left := wy.reps, gap := 0 }) _ (by exact sn_range X.out) Tryz.underlying38 (by rfl) (by kernel_rfl) ?_) | (refine wpList_store_hid (by rfl) 38 (.tmp 2) (.tmp 43) (by rfl) (w.heap.size + 1) 0 (sncL { s with asked := true, left := wy.reps, gap := 0 }) (by rfl) (by rfl) (by exact TR.out) (by kernel_rfl) (by simp [Value.oneCell', sncL]) ?_))
      intro w6 e6
      have R6 := hide (show w6.heap[w.heap.size + 1]? = some (.cells (sncL { s with asked := true, left := wy.reps, gap := 0 }).toArray 38 (0, 0)) by rw [e6.out]; exact whole_heap (sncL { s with asked := true, left := wy.reps, gap := 0 }) (xs := sncL zSnd) R.out rfl)
      have Q6 := hide (show Below w.heap.size w w6 by rw [e6.out]; exact Q.out.trans (below_setCells _ _ _ (by omega)))
      clear e6 TR R X B Q
      go_wp2_with fail
      refine bodyPost_ret (results_cell_tmp (by rfl) _ w6 (w.heap.size + 1) 38 (sncL { s with asked := true, left := wy.reps, gap := 0 }).toArray (0, 0) _ (.int .i64 0) (by rfl) (by rfl) R6.out Tryz.underlying38 (by rfl) (by kernel_rfl)) rfl ⟨by rw [E.out], Q6.out⟩
end Go.Proofs.YtnhegnneohpkaaaGreat
