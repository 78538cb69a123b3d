/- The walk of send.New. Printed by wip/specs/mkSnC.py. -/
import Derived.Test.YtplpnnjjjfcibaaMgSnB
namespace Go.Proofs.Ytplpnnjjjfcibaa
open Go.ChangeShapes Go.WideShapes Go.ChangeAt Go.RowKit
open CM

def zSnd : Snd := ⟨⟨0, 0, 0, 0, 0⟩, ⟨0, 0, 0, 0, 0⟩, false, 0, 0, 0, 0, 0, false⟩
theorem sndBegin_new (y n : Wy) (on : Bool) (dl : Int) : sndBegin ⟨y, n, on, dl, 0, 0, 0, 0, false⟩ = sndNew y n on dl := rfl

/-- What New answers. -/
def newSndV (y n : Wy) (on : Bool) (dl : Int) : Snd := if newSndB y n dl = true then sndNew y n on dl else zSnd
def newSndE (y n : Wy) (dl : Int) : Int := if newSndB y n dl = true then 0 else 1

set_option maxRecDepth 100000 in
set_option maxHeartbeats 8000000 in
theorem sndNew_any (y n : Wy) (on : Bool) (dl : Int) (w : World) :
    Calls Try.prog 111 #[.agg #[.int .i64 y.kind, .int .i64 y.first, .int .i64 y.period, .int .i64 y.reps, .int .i64 y.gap], .agg #[.int .i64 n.kind, .int .i64 n.first, .int .i64 n.period, .int .i64 n.reps, .int .i64 n.gap], .bool on, .int .i64 dl] w fun e w' => e = .returned (.tuple #[.agg (sncL (newSndV y n on dl)).toArray, .int .i64 (newSndE y n dl)]) ∧ Below w.heap.size w w' := by
  have WI := hide sndWithin_any
  have YW := hide (fun W => way_any y W)
  have NW := hide (fun W => way_any n W)
  obtain ⟨R, hR⟩ : ∃ R, R = newSndB y n dl := ⟨_, rfl⟩
  obtain ⟨SV, hSV⟩ : ∃ SV, SV = newSndV y n on dl := ⟨_, rfl⟩
  obtain ⟨SE, hSE⟩ : ∃ SE, SE = newSndE y n dl := ⟨_, rfl⟩
  rw [← hSV, ← hSE]
  unfold newSndV at hSV
  unfold newSndE at hSE
  rw [← hR] at hSV hSE
  have HSV := hide hSV
  have HSE := hide hSE
  clear hSV hSE
  unfold newSndB at hR
  rw [show decide (0 ≤ dl ∧ dl ≤ 1000000) = inI dl 0 1000000 from rfl] at hR
  have HR := hide hR
  clear hR
  obtain ⟨w0, hw0⟩ : ∃ w0, w0 = ((w.alloc (.cells #[.int .i64 y.kind, .int .i64 y.first, .int .i64 y.period, .int .i64 y.reps, .int .i64 y.gap] 65)).alloc (.cells #[.int .i64 n.kind, .int .i64 n.first, .int .i64 n.period, .int .i64 n.reps, .int .i64 n.gap] 65)).alloc (.cells (sncL zSnd).toArray 71) := ⟨_, rfl⟩
  have a1 := (Below.refl _ _).alloc (Nat.le_refl w.heap.size) (.cells #[.int .i64 y.kind, .int .i64 y.first, .int .i64 y.period, .int .i64 y.reps, .int .i64 y.gap] 65)
  have b1 := World.alloc_heap_new w (.cells #[.int .i64 y.kind, .int .i64 y.first, .int .i64 y.period, .int .i64 y.reps, .int .i64 y.gap] 65)
  have z1 : (w.alloc (.cells #[.int .i64 y.kind, .int .i64 y.first, .int .i64 y.period, .int .i64 y.reps, .int .i64 y.gap] 65)).heap.size = w.heap.size + 1 := by simp
  have a2 := (Below.refl _ (w.alloc (.cells #[.int .i64 y.kind, .int .i64 y.first, .int .i64 y.period, .int .i64 y.reps, .int .i64 y.gap] 65))).alloc (Nat.le_refl _) (.cells #[.int .i64 n.kind, .int .i64 n.first, .int .i64 n.period, .int .i64 n.reps, .int .i64 n.gap] 65)
  have b2 := World.alloc_heap_new (w.alloc (.cells #[.int .i64 y.kind, .int .i64 y.first, .int .i64 y.period, .int .i64 y.reps, .int .i64 y.gap] 65)) (.cells #[.int .i64 n.kind, .int .i64 n.first, .int .i64 n.period, .int .i64 n.reps, .int .i64 n.gap] 65)
  have z2 : ((w.alloc (.cells #[.int .i64 y.kind, .int .i64 y.first, .int .i64 y.period, .int .i64 y.reps, .int .i64 y.gap] 65)).alloc (.cells #[.int .i64 n.kind, .int .i64 n.first, .int .i64 n.period, .int .i64 n.reps, .int .i64 n.gap] 65)).heap.size = w.heap.size + 1 + 1 := by simp
  have a3 := (Below.refl _ ((w.alloc (.cells #[.int .i64 y.kind, .int .i64 y.first, .int .i64 y.period, .int .i64 y.reps, .int .i64 y.gap] 65)).alloc (.cells #[.int .i64 n.kind, .int .i64 n.first, .int .i64 n.period, .int .i64 n.reps, .int .i64 n.gap] 65))).alloc (Nat.le_refl _) (.cells (sncL zSnd).toArray 71)
  have b3 := World.alloc_heap_new ((w.alloc (.cells #[.int .i64 y.kind, .int .i64 y.first, .int .i64 y.period, .int .i64 y.reps, .int .i64 y.gap] 65)).alloc (.cells #[.int .i64 n.kind, .int .i64 n.first, .int .i64 n.period, .int .i64 n.reps, .int .i64 n.gap] 65)) (.cells (sncL zSnd).toArray 71)
  have B1 := hide (heap_below (heap_below b1 a2) a3)
  have B2 := hide (heap_below b2 a3)
  have B3 := hide b3
  have Q0 := hide (below_next (below_next a1 a1.size a2) (below_next a1 a1.size a2).size a3)
  rw [← hw0] at B1 B2 B3 Q0
  rw [z1] at B2
  rw [z2] at B3
  clear a1 a2 a3 b1 b2 b3 z1 z2
  obtain ⟨yk, yf, yp, yr, yg⟩ := y
  obtain ⟨nk, nf, np, nr, ng⟩ := n
  dsimp only at *
  obtain ⟨c0, c1, c2, c3, c4⟩ := wy_cells (f := ⟨yk, yf, yp, yr, yg⟩) B1.out
  obtain ⟨d0, d1, d2, d3, d4⟩ := wy_cells (f := ⟨nk, nf, np, nr, ng⟩) B2.out
  dsimp only at c0 c1 c2 c3 c4 d0 d1 d2 d3 d4
  go_enter Try.func111, Try.ntmps111
  go_upto_region 1 with fail
  change Code.wp _ _ _ _ (((w.alloc (.cells #[.int .i64 yk, .int .i64 yf, .int .i64 yp, .int .i64 yr, .int .i64 yg] 65)).alloc (.cells #[.int .i64 nk, .int .i64 nf, .int .i64 np, .int .i64 nr, .int .i64 ng] 65)).alloc (.cells (sncL zSnd).toArray 71))
  rw [← hw0]
  clear hw0
  go_wp2_with fail
  (with_reducible refine (YW.out _).mono ?_)
  rintro e1 w1 ⟨rfl, q1⟩
  have C1 := hide (heap_below B1.out q1)
  have C2 := hide (heap_below B2.out q1)
  have C3 := hide (heap_below B3.out q1)
  have Q1 := hide (below_next Q0.out Q0.out.size q1)
  clear q1 B1 B2 B3 Q0 YW c0 c1 c2 c3 c4 d0 d1 d2 d3 d4
  rcases hy : wayB ⟨yk, yf, yp, yr, yg⟩ with _ | _
  · have HA := C3
    have QQ := Q1
    have TH := hide (show w1.there (w.heap.size + 1 + 1) 0 17 from there_heap (cs := sncL zSnd) C3.out)
    go_wp2_with (refine wpList_store_hid (by rfl) 71 (.tmp 8) (.tmp 24) (by rfl) (w.heap.size + 1 + 1) 0 (sncL zSnd) (by rfl) (by rfl) (by exact TH.out) (by kernel_rfl) (by simp [Value.oneCell', sncL]) ?_)
    intro w9 e9
    have A9 : w9.heap[w.heap.size + 1 + 1]? = some (.cells (sncL zSnd).toArray 71 (0, 0)) := by rw [e9.out]; exact whole_heap (sncL zSnd) (xs := sncL zSnd) HA.out rfl
    have Q9 := hide (show Below w.heap.size w w9 by rw [e9.out]; exact QQ.out.trans (below_setCells (g := w.heap.size + 1 + 1) _ 0 _ (by omega)))
    have ER : R = false := by rw [HR.out]; rw [hy]; rfl
    have E1 := hide (show SV = zSnd by rw [HSV.out, ER, if_neg (by simp)])
    have E2 := hide (show SE = 1 by rw [HSE.out, ER, if_neg (by simp)])
    clear e9 HR TH HA QQ HSV HSE ER
    replace A9 := hide A9
    go_wp2_with fail
    refine bodyPost_ret (results_cell_tmp (by rfl) _ w9 (w.heap.size + 1 + 1) 71 (sncL zSnd).toArray (0, 0) _ (.int .i64 1) (by rfl) (by rfl) A9.out Try.underlying71 (by rfl) (by kernel_rfl)) rfl ⟨by rw [E1.out, E2.out], Q9.out⟩
  obtain ⟨d0, d1, d2, d3, d4⟩ := wy_cells (f := ⟨nk, nf, np, nr, ng⟩) C2.out
  dsimp only at d0 d1 d2 d3 d4
  go_wp2_with fail
  (with_reducible refine (NW.out _).mono ?_)
  rintro e1 w2 ⟨rfl, q2⟩
  have D1 := hide (heap_below C1.out q2)
  have D2 := hide (heap_below C2.out q2)
  have D3 := hide (heap_below C3.out q2)
  have Q2 := hide (below_next Q1.out Q1.out.size q2)
  clear q2 C1 C2 C3 Q1 NW d0 d1 d2 d3 d4
  rcases hn : wayB ⟨nk, nf, np, nr, ng⟩ with _ | _
  · have HA := D3
    have QQ := Q2
    have TH := hide (show w2.there (w.heap.size + 1 + 1) 0 17 from there_heap (cs := sncL zSnd) D3.out)
    go_wp2_with (refine wpList_store_hid (by rfl) 71 (.tmp 8) (.tmp 24) (by rfl) (w.heap.size + 1 + 1) 0 (sncL zSnd) (by rfl) (by rfl) (by exact TH.out) (by kernel_rfl) (by simp [Value.oneCell', sncL]) ?_)
    intro w9 e9
    have A9 : w9.heap[w.heap.size + 1 + 1]? = some (.cells (sncL zSnd).toArray 71 (0, 0)) := by rw [e9.out]; exact whole_heap (sncL zSnd) (xs := sncL zSnd) HA.out rfl
    have Q9 := hide (show Below w.heap.size w w9 by rw [e9.out]; exact QQ.out.trans (below_setCells (g := w.heap.size + 1 + 1) _ 0 _ (by omega)))
    have ER : R = false := by rw [HR.out]; rw [hy, hn]; rfl
    have E1 := hide (show SV = zSnd by rw [HSV.out, ER, if_neg (by simp)])
    have E2 := hide (show SE = 1 by rw [HSE.out, ER, if_neg (by simp)])
    clear e9 HR TH HA QQ HSV HSE ER
    replace A9 := hide A9
    go_wp2_with fail
    refine bodyPost_ret (results_cell_tmp (by rfl) _ w9 (w.heap.size + 1 + 1) 71 (sncL zSnd).toArray (0, 0) _ (.int .i64 1) (by rfl) (by rfl) A9.out Try.underlying71 (by rfl) (by kernel_rfl)) rfl ⟨by rw [E1.out, E2.out], Q9.out⟩
  go_wp2_with fail
  (with_reducible refine (WI.out _ _ _ _).mono ?_)
  rintro e1 w3 ⟨rfl, rfl⟩
  rcases hd : inI dl 0 1000000 with _ | _
  · have HA := D3
    have QQ := Q2
    have TH := hide (show w2.there (w.heap.size + 1 + 1) 0 17 from there_heap (cs := sncL zSnd) D3.out)
    go_wp2_with (refine wpList_store_hid (by rfl) 71 (.tmp 8) (.tmp 24) (by rfl) (w.heap.size + 1 + 1) 0 (sncL zSnd) (by rfl) (by rfl) (by exact TH.out) (by kernel_rfl) (by simp [Value.oneCell', sncL]) ?_)
    intro w9 e9
    have A9 : w9.heap[w.heap.size + 1 + 1]? = some (.cells (sncL zSnd).toArray 71 (0, 0)) := by rw [e9.out]; exact whole_heap (sncL zSnd) (xs := sncL zSnd) HA.out rfl
    have Q9 := hide (show Below w.heap.size w w9 by rw [e9.out]; exact QQ.out.trans (below_setCells (g := w.heap.size + 1 + 1) _ 0 _ (by omega)))
    have ER : R = false := by rw [HR.out]; rw [hy, hn, hd]; rfl
    have E1 := hide (show SV = zSnd by rw [HSV.out, ER, if_neg (by simp)])
    have E2 := hide (show SE = 1 by rw [HSE.out, ER, if_neg (by simp)])
    clear e9 HR TH HA QQ HSV HSE ER
    replace A9 := hide A9
    go_wp2_with fail
    refine bodyPost_ret (results_cell_tmp (by rfl) _ w9 (w.heap.size + 1 + 1) 71 (sncL zSnd).toArray (0, 0) _ (.int .i64 1) (by rfl) (by rfl) A9.out Try.underlying71 (by rfl) (by kernel_rfl)) rfl ⟨by rw [E1.out, E2.out], Q9.out⟩
  have ER : R = true := by rw [HR.out, hy, hn, hd]; rfl
  have E1 := hide (show SV = sndNew ⟨yk, yf, yp, yr, yg⟩ ⟨nk, nf, np, nr, ng⟩ on dl by rw [HSV.out, ER, if_pos rfl])
  have E2 := hide (show SE = 0 by rw [HSE.out, ER, if_pos rfl])
  clear HR hy hn hd WI HSV HSE ER
  obtain ⟨c0, c1, c2, c3, c4⟩ := wy_cells (f := ⟨yk, yf, yp, yr, yg⟩) D1.out
  obtain ⟨d0, d1, d2, d3, d4⟩ := wy_cells (f := ⟨nk, nf, np, nr, ng⟩) D2.out
  dsimp only at c0 c1 c2 c3 c4 d0 d1 d2 d3 d4
  have a4 := (Below.refl _ w2).alloc (Nat.le_refl _) (.cells (sncL ⟨⟨yk, yf, yp, yr, yg⟩, ⟨nk, nf, np, nr, ng⟩, on, dl, 0, 0, 0, 0, false⟩).toArray 155)
  have E4 := hide (World.alloc_heap_new w2 (.cells (sncL ⟨⟨yk, yf, yp, yr, yg⟩, ⟨nk, nf, np, nr, ng⟩, on, dl, 0, 0, 0, 0, false⟩).toArray 155))
  have E3 := hide (heap_below D3.out a4)
  have Q4 := hide (below_next Q2.out Q2.out.size a4)
  have z2 : w.heap.size + 1 + 1 < w2.heap.size := heap_lt D3.out
  obtain ⟨w4, hw4⟩ : ∃ w4, w4 = w2.alloc (.cells (sncL ⟨⟨yk, yf, yp, yr, yg⟩, ⟨nk, nf, np, nr, ng⟩, on, dl, 0, 0, 0, 0, false⟩).toArray 155) := ⟨_, rfl⟩
  rw [← hw4] at E4 E3 Q4
  have BG := hide (snBegin_any ⟨⟨yk, yf, yp, yr, yg⟩, ⟨nk, nf, np, nr, ng⟩, on, dl, 0, 0, 0, 0, false⟩ w2.heap.size 155 w4 E4)
  rw [sndBegin_new] at BG
  clear a4 D1 D2 D3 Q2
  go_upto_region 4 with fail
  change Code.wp _ _ _ _ (w2.alloc (.cells (sncL ⟨⟨yk, yf, yp, yr, yg⟩, ⟨nk, nf, np, nr, ng⟩, on, dl, 0, 0, 0, 0, false⟩).toArray 155))
  rw [← hw4]
  clear hw4 c0 c1 c2 c3 c4 d0 d1 d2 d3 d4
  generalize hS : sndNew ⟨yk, yf, yp, yr, yg⟩ ⟨nk, nf, np, nr, ng⟩ on dl = S at *
  go_wp2_with fail
  (with_reducible refine (BG.out).mono ?_)
  rintro e1 w5 ⟨⟨v5, rfl⟩, b5, q5⟩
  have F3 := hide (q5.block (w.heap.size + 1 + 1) z2 ▸ E3.out : w5.heap[w.heap.size + 1 + 1]? = some (.cells (sncL zSnd).toArray 71 (0, 0)))
  have Q5 := hide (Q4.out.trans (q5.mono (show w.heap.size ≤ w2.heap.size by omega)))
  have TH := hide (show w5.there (w.heap.size + 1 + 1) 0 17 from there_heap (cs := sncL zSnd) F3.out)
  have B5 := hide b5
  clear BG E4 E3 Q4 q5 b5
  go_wp2_with (first | (refine wpList_load_row rfl 71 (.tmp 36) (by rfl) w2.heap.size (by rfl) 155 (sncL S).toArray (0, 0) _ (by exact B5.out) Try.underlying71 (by rfl) (by kernel_rfl) ?_) | (refine wpList_store_hid (by rfl) 71 (.tmp 8) (.tmp 37) (by rfl) (w.heap.size + 1 + 1) 0 (sncL S) (by rfl) (by rfl) (by exact TH.out) (by kernel_rfl) (by simp [Value.oneCell', sncL]) ?_))
  intro w9 e9
  have A9 : w9.heap[w.heap.size + 1 + 1]? = some (.cells (sncL S).toArray 71 (0, 0)) := by rw [e9.out]; exact whole_heap (sncL S) (xs := sncL zSnd) F3.out rfl
  have Q9 := hide (show Below w.heap.size w w9 by rw [e9.out]; exact Q5.out.trans (below_setCells (g := w.heap.size + 1 + 1) _ 0 _ (by omega)))
  clear e9 TH F3 Q5 B5
  replace A9 := hide A9
  go_wp2_with fail
  refine bodyPost_ret (results_cell_tmp (by rfl) _ w9 (w.heap.size + 1 + 1) 71 (sncL S).toArray (0, 0) _ (.int .i64 0) (by rfl) (by rfl) A9.out Try.underlying71 (by rfl) (by kernel_rfl)) rfl ⟨by rw [E1.out, E2.out], Q9.out⟩
end Go.Proofs.Ytplpnnjjjfcibaa
