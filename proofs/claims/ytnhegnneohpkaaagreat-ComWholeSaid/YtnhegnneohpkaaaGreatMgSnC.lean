/- The walk of send.New. Printed by wip/specs/mkSnC.py. -/
import Derived.Test.YtnhegnneohpkaaaGreatMgSnB
import Derived.Test.YtnhegnneohpkaaaGreatMem
import Derived.RangeFuncNested
import Derived.RangeFuncBound
import Derived.RangeFuncCalls
import Derived.RangeFuncLeaves
import Derived.RangeFuncWrites
import Derived.OwnWalkIn
import Derived.TacticsInMore
import Derived.LoopNIn
import Derived.LoopIn
namespace Go.Proofs.YtnhegnneohpkaaaGreat
open Go.ChangeShapes Go.WideShapes Go.ChangeAt Go.RowKit
open CM

def zSnd : Snd := ⟨⟨0, 0, 0, 0, 0⟩, ⟨0, 0, 0, 0, 0⟩, false, 0, 0, 0, 0, 0, false⟩
theorem sndBegin_new (y n : Wy) (on : Bool) (dl : Int) : sndBegin ⟨y, n, on, dl, 0, 0, 0, 0, false⟩ = sndNew y n on dl := rfl

/-- What New answers. -/
def newSndV (y n : Wy) (on : Bool) (dl : Int) : Snd := if newSndB y n dl = true then sndNew y n on dl else zSnd
def newSndE (y n : Wy) (dl : Int) : Int := if newSndB y n dl = true then 0 else 1

set_option maxRecDepth 100000 in
set_option maxHeartbeats 8000000 in
theorem sndNew_any (y n : Wy) (on : Bool) (dl : Int) (w : World) :
    Calls Tryz.prog 21 #[.agg #[.int .i64 y.kind, .int .i64 y.first, .int .i64 y.period, .int .i64 y.reps, .int .i64 y.gap], .agg #[.int .i64 n.kind, .int .i64 n.first, .int .i64 n.period, .int .i64 n.reps, .int .i64 n.gap], .bool on, .int .i64 dl] w fun e w' => e = .returned (.tuple #[.agg (sncL (newSndV y n on dl)).toArray, .int .i64 (newSndE y n dl)]) ∧ Below w.heap.size w w' := by
  have WI := hide sndWithin_any
  have YW := hide (fun W => way_any y W)
  have NW := hide (fun W => way_any n W)
  obtain ⟨R, hR⟩ : ∃ R, R = newSndB y n dl := ⟨_, rfl⟩
  obtain ⟨SV, hSV⟩ : ∃ SV, SV = newSndV y n on dl := ⟨_, rfl⟩
  obtain ⟨SE, hSE⟩ : ∃ SE, SE = newSndE y n dl := ⟨_, rfl⟩
  rw [← hSV, ← hSE]
  unfold newSndV at hSV
  unfold newSndE at hSE
  rw [← hR] at hSV hSE
  have HSV := hide hSV
  have HSE := hide hSE
  clear hSV hSE
  unfold newSndB at hR
  rw [show decide (0 ≤ dl ∧ dl ≤ 1000000) = inI dl 0 1000000 from rfl] at hR
  have HR := hide hR
  clear hR
  obtain ⟨w0, hw0⟩ : ∃ w0, w0 = ((w.alloc (.cells #[.int .i64 y.kind, .int .i64 y.first, .int .i64 y.period, .int .i64 y.reps, .int .i64 y.gap] 32)).alloc (.cells #[.int .i64 n.kind, .int .i64 n.first, .int .i64 n.period, .int .i64 n.reps, .int .i64 n.gap] 32)).alloc (.cells (sncL zSnd).toArray 38) := ⟨_, rfl⟩
  have a1 := (Below.refl _ _).alloc (Nat.le_refl w.heap.size) (.cells #[.int .i64 y.kind, .int .i64 y.first, .int .i64 y.period, .int .i64 y.reps, .int .i64 y.gap] 32)
  have b1 := World.alloc_heap_new w (.cells #[.int .i64 y.kind, .int .i64 y.first, .int .i64 y.period, .int .i64 y.reps, .int .i64 y.gap] 32)
  have z1 : (w.alloc (.cells #[.int .i64 y.kind, .int .i64 y.first, .int .i64 y.period, .int .i64 y.reps, .int .i64 y.gap] 32)).heap.size = w.heap.size + 1 := by simp
  have a2 := (Below.refl _ (w.alloc (.cells #[.int .i64 y.kind, .int .i64 y.first, .int .i64 y.period, .int .i64 y.reps, .int .i64 y.gap] 32))).alloc (Nat.le_refl _) (.cells #[.int .i64 n.kind, .int .i64 n.first, .int .i64 n.period, .int .i64 n.reps, .int .i64 n.gap] 32)
  have b2 := World.alloc_heap_new (w.alloc (.cells #[.int .i64 y.kind, .int .i64 y.first, .int .i64 y.period, .int .i64 y.reps, .int .i64 y.gap] 32)) (.cells #[.int .i64 n.kind, .int .i64 n.first, .int .i64 n.period, .int .i64 n.reps, .int .i64 n.gap] 32)
  have z2 : ((w.alloc (.cells #[.int .i64 y.kind, .int .i64 y.first, .int .i64 y.period, .int .i64 y.reps, .int .i64 y.gap] 32)).alloc (.cells #[.int .i64 n.kind, .int .i64 n.first, .int .i64 n.period, .int .i64 n.reps, .int .i64 n.gap] 32)).heap.size = w.heap.size + 1 + 1 := by simp
  have a3 := (Below.refl _ ((w.alloc (.cells #[.int .i64 y.kind, .int .i64 y.first, .int .i64 y.period, .int .i64 y.reps, .int .i64 y.gap] 32)).alloc (.cells #[.int .i64 n.kind, .int .i64 n.first, .int .i64 n.period, .int .i64 n.reps, .int .i64 n.gap] 32))).alloc (Nat.le_refl _) (.cells (sncL zSnd).toArray 38)
  have b3 := World.alloc_heap_new ((w.alloc (.cells #[.int .i64 y.kind, .int .i64 y.first, .int .i64 y.period, .int .i64 y.reps, .int .i64 y.gap] 32)).alloc (.cells #[.int .i64 n.kind, .int .i64 n.first, .int .i64 n.period, .int .i64 n.reps, .int .i64 n.gap] 32)) (.cells (sncL zSnd).toArray 38)
  have B1 := hide (heap_below (heap_below b1 a2) a3)
  have B2 := hide (heap_below b2 a3)
  have B3 := hide b3
  have Q0 := hide (below_next (below_next a1 a1.size a2) (below_next a1 a1.size a2).size a3)
  rw [← hw0] at B1 B2 B3 Q0
  rw [z1] at B2
  rw [z2] at B3
  clear a1 a2 a3 b1 b2 b3 z1 z2
  obtain ⟨yk, yf, yp, yr, yg⟩ := y
  obtain ⟨nk, nf, np, nr, ng⟩ := n
  dsimp only at *
  obtain ⟨c0, c1, c2, c3, c4⟩ := wy_cells (f := ⟨yk, yf, yp, yr, yg⟩) B1.out
  obtain ⟨d0, d1, d2, d3, d4⟩ := wy_cells (f := ⟨nk, nf, np, nr, ng⟩) B2.out
  dsimp only at c0 c1 c2 c3 c4 d0 d1 d2 d3 d4
  go_enter Tryz.func21, Tryz.ntmps21
  go_upto_region 1 with fail
  change Code.wp _ _ _ _ (((w.alloc (.cells #[.int .i64 yk, .int .i64 yf, .int .i64 yp, .int .i64 yr, .int .i64 yg] 32)).alloc (.cells #[.int .i64 nk, .int .i64 nf, .int .i64 np, .int .i64 nr, .int .i64 ng] 32)).alloc (.cells (sncL zSnd).toArray 38))
  rw [← hw0]
  clear hw0
  go_wp2_with fail
  (with_reducible refine (YW.out _).mono ?_)
  rintro e1 w1 ⟨rfl, q1⟩
  have C1 := hide (heap_below B1.out q1)
  have C2 := hide (heap_below B2.out q1)
  have C3 := hide (heap_below B3.out q1)
  have Q1 := hide (below_next Q0.out Q0.out.size q1)
  clear q1 B1 B2 B3 Q0 YW c0 c1 c2 c3 c4 d0 d1 d2 d3 d4
  rcases hy : wayB ⟨yk, yf, yp, yr, yg⟩ with _ | _
  · have HA := C3
    have QQ := Q1
    have TH := hide (show w1.there (w.heap.size + 1 + 1) 0 17 from there_heap (cs := sncL zSnd) C3.out)
    go_wp2_with (refine wpList_store_hid (by rfl) 38 (.tmp 8) (.tmp 24) (by rfl) (w.heap.size + 1 + 1) 0 (sncL zSnd) (by rfl) (by rfl) (by exact TH.out) (by kernel_rfl) (by simp [Value.oneCell', sncL]) ?_)
    intro w9 e9
    have A9 : w9.heap[w.heap.size + 1 + 1]? = some (.cells (sncL zSnd).toArray 38 (0, 0)) := by rw [e9.out]; exact whole_heap (sncL zSnd) (xs := sncL zSnd) HA.out rfl
    have Q9 := hide (show Below w.heap.size w w9 by rw [e9.out]; exact QQ.out.trans (below_setCells (g := w.heap.size + 1 + 1) _ 0 _ (by omega)))
    have ER : R = false := by rw [HR.out]; rw [hy]; rfl
    have E1 := hide (show SV = zSnd by rw [HSV.out, ER, if_neg (by simp)])
    have E2 := hide (show SE = 1 by rw [HSE.out, ER, if_neg (by simp)])
    clear e9 HR TH HA QQ HSV HSE ER
    replace A9 := hide A9
    go_wp2_with fail
    refine bodyPost_ret (results_cell_tmp (by rfl) _ w9 (w.heap.size + 1 + 1) 38 (sncL zSnd).toArray (0, 0) _ (.int .i64 1) (by rfl) (by rfl) A9.out Tryz.underlying38 (by rfl) (by kernel_rfl)) rfl ⟨by rw [E1.out, E2.out], Q9.out⟩
  obtain ⟨d0, d1, d2, d3, d4⟩ := wy_cells (f := ⟨nk, nf, np, nr, ng⟩) C2.out
  dsimp only at d0 d1 d2 d3 d4
  go_wp2_with fail
  (with_reducible refine (NW.out _).mono ?_)
  rintro e1 w2 ⟨rfl, q2⟩
  have D1 := hide (heap_below C1.out q2)
  have D2 := hide (heap_below C2.out q2)
  have D3 := hide (heap_below C3.out q2)
  have Q2 := hide (below_next Q1.out Q1.out.size q2)
  clear q2 C1 C2 C3 Q1 NW d0 d1 d2 d3 d4
  rcases hn : wayB ⟨nk, nf, np, nr, ng⟩ with _ | _
  · have HA := D3
    have QQ := Q2
    have TH := hide (show w2.there (w.heap.size + 1 + 1) 0 17 from there_heap (cs := sncL zSnd) D3.out)
    go_wp2_with (refine wpList_store_hid (by rfl) 38 (.tmp 8) (.tmp 24) (by rfl) (w.heap.size + 1 + 1) 0 (sncL zSnd) (by rfl) (by rfl) (by exact TH.out) (by kernel_rfl) (by simp [Value.oneCell', sncL]) ?_)
    intro w9 e9
    have A9 : w9.heap[w.heap.size + 1 + 1]? = some (.cells (sncL zSnd).toArray 38 (0, 0)) := by rw [e9.out]; exact whole_heap (sncL zSnd) (xs := sncL zSnd) HA.out rfl
    have Q9 := hide (show Below w.heap.size w w9 by rw [e9.out]; exact QQ.out.trans (below_setCells (g := w.heap.size + 1 + 1) _ 0 _ (by omega)))
    have ER : R = false := by rw [HR.out]; rw [hy, hn]; rfl
    have E1 := hide (show SV = zSnd by rw [HSV.out, ER, if_neg (by simp)])
    have E2 := hide (show SE = 1 by rw [HSE.out, ER, if_neg (by simp)])
    clear e9 HR TH HA QQ HSV HSE ER
    replace A9 := hide A9
    go_wp2_with fail
    refine bodyPost_ret (results_cell_tmp (by rfl) _ w9 (w.heap.size + 1 + 1) 38 (sncL zSnd).toArray (0, 0) _ (.int .i64 1) (by rfl) (by rfl) A9.out Tryz.underlying38 (by rfl) (by kernel_rfl)) rfl ⟨by rw [E1.out, E2.out], Q9.out⟩
  go_wp2_with fail
  (with_reducible refine (WI.out _ _ _ _).mono ?_)
  rintro e1 w3 ⟨rfl, rfl⟩
  rcases hd : inI dl 0 1000000 with _ | _
  · have HA := D3
    have QQ := Q2
    have TH := hide (show w2.there (w.heap.size + 1 + 1) 0 17 from there_heap (cs := sncL zSnd) D3.out)
    go_wp2_with (refine wpList_store_hid (by rfl) 38 (.tmp 8) (.tmp 24) (by rfl) (w.heap.size + 1 + 1) 0 (sncL zSnd) (by rfl) (by rfl) (by exact TH.out) (by kernel_rfl) (by simp [Value.oneCell', sncL]) ?_)
    intro w9 e9
    have A9 : w9.heap[w.heap.size + 1 + 1]? = some (.cells (sncL zSnd).toArray 38 (0, 0)) := by rw [e9.out]; exact whole_heap (sncL zSnd) (xs := sncL zSnd) HA.out rfl
    have Q9 := hide (show Below w.heap.size w w9 by rw [e9.out]; exact QQ.out.trans (below_setCells (g := w.heap.size + 1 + 1) _ 0 _ (by omega)))
    have ER : R = false := by rw [HR.out]; rw [hy, hn, hd]; rfl
    have E1 := hide (show SV = zSnd by rw [HSV.out, ER, if_neg (by simp)])
    have E2 := hide (show SE = 1 by rw [HSE.out, ER, if_neg (by simp)])
    clear e9 HR TH HA QQ HSV HSE ER
    replace A9 := hide A9
    go_wp2_with fail
    refine bodyPost_ret (results_cell_tmp (by rfl) _ w9 (w.heap.size + 1 + 1) 38 (sncL zSnd).toArray (0, 0) _ (.int .i64 1) (by rfl) (by rfl) A9.out Tryz.underlying38 (by rfl) (by kernel_rfl)) rfl ⟨by rw [E1.out, E2.out], Q9.out⟩
  have ER : R = true := by rw [HR.out, hy, hn, hd]; rfl
  have E1 := hide (show SV = sndNew ⟨yk, yf, yp, yr, yg⟩ ⟨nk, nf, np, nr, ng⟩ on dl by rw [HSV.out, ER, if_pos rfl])
  have E2 := hide (show SE = 0 by rw [HSE.out, ER, if_pos rfl])
  clear HR hy hn hd WI HSV HSE ER
  obtain ⟨c0, c1, c2, c3, c4⟩ := wy_cells (f := ⟨yk, yf, yp, yr, yg⟩) D1.out
  obtain ⟨d0, d1, d2, d3, d4⟩ := wy_cells (f := ⟨nk, nf, np, nr, ng⟩) D2.out
  dsimp only at c0 c1 c2 c3 c4 d0 d1 d2 d3 d4
  have a4 := (Below.refl _ w2).alloc (Nat.le_refl _) (.cells (sncL ⟨⟨yk, yf, yp, yr, yg⟩, ⟨nk, nf, np, nr, ng⟩, on, dl, 0, 0, 0, 0, false⟩).toArray 116)
  have E4 := hide (World.alloc_heap_new w2 (.cells (sncL ⟨⟨yk, yf, yp, yr, yg⟩, ⟨nk, nf, np, nr, ng⟩, on, dl, 0, 0, 0, 0, false⟩).toArray 116))
  have E3 := hide (heap_below D3.out a4)
  have Q4 := hide (below_next Q2.out Q2.out.size a4)
  have z2 : w.heap.size + 1 + 1 < w2.heap.size := heap_lt D3.out
  obtain ⟨w4, hw4⟩ : ∃ w4, w4 = w2.alloc (.cells (sncL ⟨⟨yk, yf, yp, yr, yg⟩, ⟨nk, nf, np, nr, ng⟩, on, dl, 0, 0, 0, 0, false⟩).toArray 116) := ⟨_, rfl⟩
  rw [← hw4] at E4 E3 Q4
  have BG := hide (snBegin_any ⟨⟨yk, yf, yp, yr, yg⟩, ⟨nk, nf, np, nr, ng⟩, on, dl, 0, 0, 0, 0, false⟩ w2.heap.size 116 w4 E4)
  rw [sndBegin_new] at BG
  clear a4 D1 D2 D3 Q2
  go_upto_region 4 with fail
  change Code.wp _ _ _ _ (w2.alloc (.cells (sncL ⟨⟨yk, yf, yp, yr, yg⟩, ⟨nk, nf, np, nr, ng⟩, on, dl, 0, 0, 0, 0, false⟩).toArray 116))
  rw [← hw4]
  clear hw4 c0 c1 c2 c3 c4 d0 d1 d2 d3 d4
  generalize hS : sndNew ⟨yk, yf, yp, yr, yg⟩ ⟨nk, nf, np, nr, ng⟩ on dl = S at *
  go_wp2_with fail
  (with_reducible refine (BG.out).mono ?_)
  rintro e1 w5 ⟨⟨v5, rfl⟩, b5, q5⟩
  have F3 := hide (q5.block (w.heap.size + 1 + 1) z2 ▸ E3.out : w5.heap[w.heap.size + 1 + 1]? = some (.cells (sncL zSnd).toArray 38 (0, 0)))
  have Q5 := hide (Q4.out.trans (q5.mono (show w.heap.size ≤ w2.heap.size by omega)))
  have TH := hide (show w5.there (w.heap.size + 1 + 1) 0 17 from there_heap (cs := sncL zSnd) F3.out)
  have B5 := hide b5
  clear BG E4 E3 Q4 q5 b5
  go_wp2_with (first | (refine wpList_load_row rfl 38 (.tmp 36) (by rfl) w2.heap.size (by rfl) 116 (sncL S).toArray (0, 0) _ (by exact B5.out) Tryz.underlying38 (by rfl) (by kernel_rfl) ?_) | (refine wpList_store_hid (by rfl) 38 (.tmp 8) (.tmp 37) (by rfl) (w.heap.size + 1 + 1) 0 (sncL S) (by rfl) (by rfl) (by exact TH.out) (by kernel_rfl) (by simp [Value.oneCell', sncL]) ?_))
  intro w9 e9
  have A9 : w9.heap[w.heap.size + 1 + 1]? = some (.cells (sncL S).toArray 38 (0, 0)) := by rw [e9.out]; exact whole_heap (sncL S) (xs := sncL zSnd) F3.out rfl
  have Q9 := hide (show Below w.heap.size w w9 by rw [e9.out]; exact Q5.out.trans (below_setCells (g := w.heap.size + 1 + 1) _ 0 _ (by omega)))
  clear e9 TH F3 Q5 B5
  replace A9 := hide A9
  go_wp2_with fail
  refine bodyPost_ret (results_cell_tmp (by rfl) _ w9 (w.heap.size + 1 + 1) 38 (sncL S).toArray (0, 0) _ (.int .i64 0) (by rfl) (by rfl) A9.out Tryz.underlying38 (by rfl) (by kernel_rfl)) rfl ⟨by rw [E1.out, E2.out], Q9.out⟩
end Go.Proofs.YtnhegnneohpkaaaGreat

/- A range over a function whose rounds are known ahead: round k is handed 'enc k', and what holds between two rounds is known to the iterator, too (it may read what the body writes). Nothing of the program's text. -/
namespace Go.Proofs.YtnhegnneohpkaaaGreat
open Go.ChangeShapes Go.WideShapes Go.ChangeAt Go.RowKit

/-- How a round's body is left: it goes on. -/
def roundOn (B : Nat) (I : World → Prop) (W : World) : Exit → Act → World → Prop
  | .normal, _, W' => KeepsFrom B W W' ∧ I W'
  | _, _, _ => False

theorem range_exact {P : Program} {n : Nat} {g : Operand} {ps : Array Tmp} {assign body : Code} {Q : Exit → Act → World → Prop} {a : Act} {w : World} {gf : Nat} {lb : Array Value}
    (hg : a.eval g = .func (.func gf) #[] lb) (eg : ∀ args w, (callFunc gf args).run P w = .ok (.enter gf args) w) (enc : Nat → Array Value) (hps : ∀ k, (enc k).size = ps.size) (N : Nat) (I : Nat → World → Prop)
    (hIa : ∀ k W o, I k W → I k (W.alloc o)) (hIp : ∀ k W l o o', I k W → w.heap.size ≤ l → W.heap[l]? = some o → o.isCells = false → I k (W.putObj l o'))
    (hiter : ∀ (l : Nat) (J : Nat → World → Prop) (W : World), (∀ k W, J k W → I k W) →
      (∀ k W, k < N → J k W → YieldAt Fence.wide (n - 1 - 1) P l (enc k) W fun e W' => e = .returned (.bool true) ∧ J (k + 1) W') → J 0 W →
      CallsIn Fence.wide (n - 1) P gf (#[.func (.yield l) #[] #[]] ++ lb) W fun e W' => (∃ v, e = .returned v) ∧ J N W')
    (h0 : I 0 w) (a₁ : Nat → Act)
    (hassign : ∀ (l k : Nat) (W : World) (K : Act → World → Prop), K (a₁ k) W →
      assign.wpIn (Fence.wide.inRound l) (n - 1 - 1) P (Exit.then K (fun _ _ _ => False)) { tmps := (ps.zip (enc k)).foldl (fun t (p, v) => t.setIfInBounds p v) a.tmps, defers := [] } W)
    (hbody : ∀ (l k : Nat) (W : World), I k W → k < N → body.wpIn (Fence.wide.inRound l) (n - 1 - 1) P (roundOn w.heap.size (I (k + 1)) W) (a₁ k) W)
    (hdone : ∀ (D : Nat) (W : World), I N W → w.heap.size ≤ D → W.heap[D]? = some (.deferred (some [])) → Q .normal { a with defers := { target := .collected D, args := #[] } :: a.defers } W) :
    (Code.rangeFunc g ps assign body).wp P Q a w := by
  refine (wpIn_wide (n := n)).1 (wpIn_rangeFunc ?_)
  intro fn hfn
  rw [Fence.wide_round]
  obtain ⟨rec, hrec⟩ : ∃ rec : LoopState → Option Code → Loop, rec = fun st pe => { state := st, pending := pe, fn, tmps := a.tmps, params := ps, assign, body, defers := w.heap.size } := ⟨_, rfl⟩
  obtain ⟨W1, hW1⟩ : ∃ W1, (w.alloc (.deferred (some []))).alloc (.loop (rec .ready none)) = W1 := ⟨_, rfl⟩
  have hL1 : W1.heap[w.heap.size + 1]? = some (.loop (rec .ready none)) := by
    rw [← hW1]; have := World.alloc_heap_new (w.alloc (.deferred (some []))) (.loop (rec .ready none)); rwa [World.size_alloc] at this
  have hK1 : W1.heap[w.heap.size]? = some (.deferred (some [])) := by
    rw [← hW1]; exact (Below.heap_alloc _ _ _ (by simp)).trans (World.alloc_heap_new w _)
  have hI1 : I 0 W1 := by rw [← hW1]; exact hIa _ _ _ (hIa _ _ _ h0)
  refine ⟨w.heap.size + 1, [{ target := .collected w.heap.size, args := #[] }], W1, { target := .fn (.func gf) lb, args := #[.func (.yield (w.heap.size + 1)) #[] #[]] }, W1, gf,
    #[.func (.yield (w.heap.size + 1)) #[] #[]] ++ lb, W1, ?_, ?_, ?_, ?_, fun h => by simp [Fence.wide] at h, ?_⟩
  · rw [← hW1, hrec]; exact run_enterLoop_outer _ _ _ _ _
  · simp only [resolve, hg]
    simp [go_sem]
  · intro f' _; trivial
  · simp [invoke, go_sem, eg]
  · refine (hiter (w.heap.size + 1)
      (fun k W => I k W ∧ W.heap[w.heap.size + 1]? = some (.loop (rec .ready none)) ∧ W.heap[w.heap.size]? = some (.deferred (some [])))
      W1 (fun _ _ h => h.1) ?_ ⟨hI1, hL1, hK1⟩).mono ?_
    · rintro k W hk ⟨hi, hl, hd⟩
      have hlt : w.heap.size + 1 < W.heap.size := (Array.getElem?_eq_some_iff.1 hl).1
      have hy := run_yield (P := P) (args := enc k) hl (by rw [hrec]; exact hps k)
      rw [hrec] at hy
      refine ⟨fn, _, assign, body, hy, roundIn_of_wpIn hfn (hassign _ k W _ ⟨_, run_beginRound hl (by rw [hrec]), ?_⟩)⟩
      have hl2 : (W.putObj (w.heap.size + 1) (.loop { rec .ready none with state := .busy })).heap[w.heap.size + 1]? = some (.loop { rec .ready none with state := .busy }) := World.putObj_heap_same hlt
      have hk2 : (W.putObj (w.heap.size + 1) (.loop { rec .ready none with state := .busy })).heap[w.heap.size]? = some (.deferred (some [])) := (World.putObj_heap_other (by omega)).trans hd
      refine wpIn_mono (hbody _ k _ (hIp _ _ _ _ _ hi (by omega) hl rfl) hk) ?_
      rintro e a3 W3 hp
      cases e with
      | normal =>
        obtain ⟨hk3, hi3⟩ := hp
        have hl3 := hk3.same _ _ (by omega) hl2 rfl
        have hd3 := hk3.same _ _ (by omega) hk2 rfl
        have hr := run_endRound (P := P) none hl3
        refine ⟨_, _, hr, rfl, hIp _ _ _ _ _ hi3 (by omega) hl3 rfl, ?_, (World.putObj_heap_other (by omega)).trans hd3⟩
        have := World.putObj_heap_same (o := .loop (rec .ready none)) (Array.getElem?_eq_some_iff.1 hl3).1
        rw [hrec] at this ⊢
        exact this
      | ret => exact hp.elim
      | exit id => exact hp.elim
      | goto t => exact hp.elim
      | panic ch => exact hp.elim
      | outgrown => exact hp.elim
    · rintro e W2 ⟨⟨v, rfl⟩, hi, hl, hk⟩
      exact ⟨none, _, by have := run_endLoop (P := P) hl (by rw [hrec]; simp); rw [hrec] at this; exact this, hdone _ _ (hIp _ _ _ _ _ hi (by omega) hl rfl) (Nat.le_refl _) ((World.putObj_heap_other (by omega)).trans hk)⟩
end Go.Proofs.YtnhegnneohpkaaaGreat
