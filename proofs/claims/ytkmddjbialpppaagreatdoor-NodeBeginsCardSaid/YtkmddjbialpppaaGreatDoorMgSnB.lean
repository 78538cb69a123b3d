import Derived.Test.YtkmddjbialpppaaGreatDoorMgFlB
import Derived.Test.YtkmddjbialpppaaGreatDoorMgFin
import Derived.Laws.Rows
import Derived.Test.YtkmddjbialpppaaGreatDoorMem
import Derived.RangeFuncNested
import Derived.RangeFuncBound
import Derived.RangeFuncCalls
import Derived.RangeFuncLeaves
import Derived.RangeFuncWrites
import Derived.OwnWalkIn
import Derived.TacticsInMore
import Derived.LoopNIn
import Derived.LoopIn
namespace Go.Proofs.YtkmddjbialpppaaGreatDoor
open Go.ChangeShapes Go.WideShapes Go.ChangeAt Go.RowKit
open CM
def bV (s : Snd) : List Value := [.int .i64 s.yes.kind, .int .i64 s.yes.first, .int .i64 s.yes.period, .int .i64 s.yes.reps, .int .i64 s.yes.gap, .int .i64 s.no.kind, .int .i64 s.no.first, .int .i64 s.no.period, .int .i64 s.no.reps, .int .i64 s.no.gap, .bool s.on, .int .i64 s.delay, .int .i64 s.period, .int .i64 s.gap, .int .i64 s.left, .int .i64 s.hold, .bool s.asked]
theorem eP {W : World} {B : Nat} {s : Snd} {t : TypeId} {fz : Nat × Nat} (h : W.heap[B]? = some (.cells (bV s).toArray t fz)) :
    W.cell? ⟨B, 0, none⟩ = some (.int .i64 s.yes.kind) ∧ W.cell? ⟨B, 1, none⟩ = some (.int .i64 s.yes.first) ∧ W.cell? ⟨B, 2, none⟩ = some (.int .i64 s.yes.period) ∧ W.cell? ⟨B, 3, none⟩ = some (.int .i64 s.yes.reps) ∧ W.cell? ⟨B, 4, none⟩ = some (.int .i64 s.yes.gap) ∧
    W.cell? ⟨B, 5, none⟩ = some (.int .i64 s.no.kind) ∧ W.cell? ⟨B, 6, none⟩ = some (.int .i64 s.no.first) ∧ W.cell? ⟨B, 7, none⟩ = some (.int .i64 s.no.period) ∧ W.cell? ⟨B, 8, none⟩ = some (.int .i64 s.no.reps) ∧ W.cell? ⟨B, 9, none⟩ = some (.int .i64 s.no.gap) ∧
    W.cell? ⟨B, 10, none⟩ = some (.bool s.on) ∧ W.cell? ⟨B, 11, none⟩ = some (.int .i64 s.delay) ∧ W.cell? ⟨B, 12, none⟩ = some (.int .i64 s.period) ∧ W.cell? ⟨B, 13, none⟩ = some (.int .i64 s.gap) ∧ W.cell? ⟨B, 14, none⟩ = some (.int .i64 s.left) ∧ W.cell? ⟨B, 15, none⟩ = some (.int .i64 s.hold) ∧ W.cell? ⟨B, 16, none⟩ = some (.bool s.asked) := by
  simp [World.cell?, h, bV]
set_option maxRecDepth 100000 in
set_option maxHeartbeats 4000000 in
theorem snWay_any (s : Snd) (b : Nat) (t : TypeId) (w : World) (h : Hid (w.heap[b]? = some (.cells (bV s).toArray t (0, 0)))) :
    Calls Tryz.prog 102 #[.pointer (some ⟨b, 0, none⟩)] w fun e w' => e = .returned (.agg #[.int .i64 s.way.kind, .int .i64 s.way.first, .int .i64 s.way.period, .int .i64 s.way.reps, .int .i64 s.way.gap]) ∧ Below w.heap.size w w' := by
  have hb : b < w.heap.size := aH h.out
  have q0 : Below w.heap.size w (w.alloc (.cells #[.int .i64 0, .int .i64 0, .int .i64 0, .int .i64 0, .int .i64 0] 73)) := (Below.refl _ _).alloc (Nat.le_refl _) _
  have A0 := World.alloc_heap_new w (.cells #[.int .i64 0, .int .i64 0, .int .i64 0, .int .i64 0, .int .i64 0] 73)
  have B0 := aA (aB h.out q0)
  generalize hw0 : w.alloc (.cells #[.int .i64 0, .int .i64 0, .int .i64 0, .int .i64 0, .int .i64 0] 73) = w0 at *
  have TH := aA (show w0.there w.heap.size 0 5 from aK (cs := [_, _, _, _, _]) A0)
  have HA := aA A0
  clear A0
  obtain ⟨c0, c1, c2, c3, c4, c5, c6, c7, c8, c9, c10, c11, c12, c13, c14, c15, c16⟩ := eP B0.out
  obtain ⟨⟨yk, yf, yp, yr, yg⟩, ⟨nk, nf, np, nr, ng⟩, on, dl, pe, ga, le, ho, asq⟩ := s
  dsimp only at c0 c1 c2 c3 c4 c5 c6 c7 c8 c9 c10 c11 c12 c13 c14 c15 c16
  clear h
  go_enter Tryz.func102, Tryz.ntmps102
  cases on with
  | true =>
    go_wp2_with (refine aF (by rfl) 73 (.tmp 2) (.tmp 12) (by rfl) w.heap.size 0 [.int .i64 yk, .int .i64 yf, .int .i64 yp, .int .i64 yr, .int .i64 yg] (by rfl) (by rfl) (by exact TH.out) (by kernel_rfl) (by simp [Value.oneCell']) ?_)
    intro w1 e1
    have A1 : w1.heap[w.heap.size]? = some (.cells #[.int .i64 yk, .int .i64 yf, .int .i64 yp, .int .i64 yr, .int .i64 yg] 73 (0, 0)) := by rw [e1.out]; exact aJ [.int .i64 yk, .int .i64 yf, .int .i64 yp, .int .i64 yr, .int .i64 yg] (xs := [_, _, _, _, _]) HA.out rfl
    have Q1 := aA (show Below w.heap.size w w1 by rw [e1.out]; exact q0.trans (aE (g := w.heap.size) _ 0 _ (Nat.le_refl _)))
    obtain ⟨r0, r1, r2, r3, r4⟩ := cL (f := ⟨yk, yf, yp, yr, yg⟩) A1
    dsimp only at r0 r1 r2 r3 r4
    clear e1 A1 c0 c1 c2 c3 c4 c5 c6 c7 c8 c9 c10 c11 c12 c13 c14 c15 c16
    go_wp2_with fail
    refine bodyPost_ret (v := .agg #[.int .i64 yk, .int .i64 yf, .int .i64 yp, .int .i64 yr, .int .i64 yg]) (by simp [results, Tryz.results102, go_sem, r0, r1, r2, r3, r4]) rfl ⟨rfl, Q1.out⟩
  | false =>
    go_wp2_with (refine aF (by rfl) 73 (.tmp 2) (.tmp 17) (by rfl) w.heap.size 0 [.int .i64 nk, .int .i64 nf, .int .i64 np, .int .i64 nr, .int .i64 ng] (by rfl) (by rfl) (by exact TH.out) (by kernel_rfl) (by simp [Value.oneCell']) ?_)
    intro w1 e1
    have A1 : w1.heap[w.heap.size]? = some (.cells #[.int .i64 nk, .int .i64 nf, .int .i64 np, .int .i64 nr, .int .i64 ng] 73 (0, 0)) := by rw [e1.out]; exact aJ [.int .i64 nk, .int .i64 nf, .int .i64 np, .int .i64 nr, .int .i64 ng] (xs := [_, _, _, _, _]) HA.out rfl
    have Q1 := aA (show Below w.heap.size w w1 by rw [e1.out]; exact q0.trans (aE (g := w.heap.size) _ 0 _ (Nat.le_refl _)))
    obtain ⟨r0, r1, r2, r3, r4⟩ := cL (f := ⟨nk, nf, np, nr, ng⟩) A1
    dsimp only at r0 r1 r2 r3 r4
    clear e1 A1 c0 c1 c2 c3 c4 c5 c6 c7 c8 c9 c10 c11 c12 c13 c14 c15 c16
    go_wp2_with fail
    refine bodyPost_ret (v := .agg #[.int .i64 nk, .int .i64 nf, .int .i64 np, .int .i64 nr, .int .i64 ng]) (by simp [results, Tryz.results102, go_sem, r0, r1, r2, r3, r4]) rfl ⟨rfl, Q1.out⟩
def sndBegin (s : Snd) : Snd := { s with left := 0, gap := 0, asked := false, period := if iU s.way then max s.way.first 1 else 0 }
theorem snc_set {W : World} {b : Nat} {cs : Array Value} {t : TypeId} (h : W.heap[b]? = some (.cells cs t (0, 0))) (o : Nat) (v : Value) : (W.setCell ⟨b, o, none⟩ v).heap[b]? = some (.cells (cs.setIfInBounds o v) t (0, 0)) := by
  exact heap_setCell_same W b o _ _ v h
set_option maxRecDepth 100000 in
set_option maxHeartbeats 8000000 in
theorem snBegin_any (s : Snd) (b : Nat) (t : TypeId) (w : World) (h : Hid (w.heap[b]? = some (.cells (bV s).toArray t (0, 0)))) :
    Calls Tryz.prog 203 #[.pointer (some ⟨b, 0, none⟩)] w fun e w' => (∃ v, e = .returned v) ∧ w'.heap[b]? = some (.cells (bV (sndBegin s)).toArray t (0, 0)) ∧ Below b w w' := by
  have hb : b < w.heap.size := aH h.out
  obtain ⟨c0, c1, c2, c3, c4, c5, c6, c7, c8, c9, c10, c11, c12, c13, c14, c15, c16⟩ := eP h.out
  have HH := h.out
  obtain ⟨⟨yk, yf, yp, yr, yg⟩, ⟨nk, nf, np, nr, ng⟩, on, dl, pe, ga, le, ho, asq⟩ := s
  dsimp only at c0 c1 c2 c3 c4 c5 c6 c7 c8 c9 c10 c11 c12 c13 c14 c15 c16
  clear h
  have fz : ∀ o, w.frozen? ⟨b, o, none⟩ = false := fun o => by simp [World.frozen?, HH]
  have f13 := fz 13
  have f14 := fz 14
  have f16 := fz 16
  have f12 := fz 12
  have H1 := snc_set (snc_set (snc_set (snc_set HH 14 (.int .i64 0)) 13 (.int .i64 0)) 16 (.bool false)) 12 (.int .i64 0)
  obtain ⟨w1, hw1⟩ : ∃ w1, w1 = (((w.setCell ⟨b, 14, none⟩ (.int .i64 0)).setCell ⟨b, 13, none⟩ (.int .i64 0)).setCell ⟨b, 16, none⟩ (.bool false)).setCell ⟨b, 12, none⟩ (.int .i64 0) := ⟨_, rfl⟩
  have q1 : Below b w w1 := by
    rw [hw1]
    exact ((((Below.refl b w).setCell (p := ⟨b, 14, none⟩) (Nat.le_refl _) _).setCell (p := ⟨b, 13, none⟩) (Nat.le_refl _) _).setCell (p := ⟨b, 16, none⟩) (Nat.le_refl _) _).setCell (p := ⟨b, 12, none⟩) (Nat.le_refl _) _
  rw [← hw1] at H1
  have HW1 := aA (show w1.heap[b]? = some (.cells (bV ⟨⟨yk, yf, yp, yr, yg⟩, ⟨nk, nf, np, nr, ng⟩, on, dl, 0, 0, 0, ho, false⟩).toArray t (0, 0)) from H1)
  have Q1 := aA q1
  clear fz HH H1 q1
  go_enter Tryz.func203, Tryz.ntmps203
  go_upto_region 1 with fail
  rw [← hw1]
  clear hw1 c0 c1 c2 c3 c4 c5 c6 c7 c8 c9 c10 c11 c12 c13 c14 c15 c16 f12 f13 f14 f16
  have SW := aA (snWay_any ⟨⟨yk, yf, yp, yr, yg⟩, ⟨nk, nf, np, nr, ng⟩, on, dl, 0, 0, 0, ho, false⟩ b t w1 HW1)
  have hb1 : b < w1.heap.size := aH HW1.out
  have EB := aA (show sndBegin ⟨⟨yk, yf, yp, yr, yg⟩, ⟨nk, nf, np, nr, ng⟩, on, dl, pe, ga, le, ho, asq⟩ = ⟨⟨yk, yf, yp, yr, yg⟩, ⟨nk, nf, np, nr, ng⟩, on, dl, if iU (Snd.way ⟨⟨yk, yf, yp, yr, yg⟩, ⟨nk, nf, np, nr, ng⟩, on, dl, 0, 0, 0, ho, false⟩) then max (Snd.way ⟨⟨yk, yf, yp, yr, yg⟩, ⟨nk, nf, np, nr, ng⟩, on, dl, 0, 0, 0, ho, false⟩).first 1 else 0, 0, 0, ho, false⟩ from rfl)
  obtain ⟨Y, hY⟩ : ∃ Y, Y = Snd.way ⟨⟨yk, yf, yp, yr, yg⟩, ⟨nk, nf, np, nr, ng⟩, on, dl, 0, 0, 0, ho, false⟩ := ⟨_, rfl⟩
  rw [← hY] at SW EB
  clear hY
  have PR := aA (fun W => iK Y W)
  generalize iU Y = pb at *
  obtain ⟨xk, xf, xp, xr, xg⟩ := Y
  dsimp only at *
  go_wp2_with fail
  (with_reducible refine (SW.out).mono ?_)
  rintro e2 w2 ⟨rfl, q2⟩
  have B2 := aA (aB HW1.out q2)
  have Q2 := aA (Q1.out.trans (q2.mono (Nat.le_of_lt hb1)))
  have hb2 : b < w2.heap.size := aH B2.out
  clear q2 SW HW1 Q1
  have q3 : Below w2.heap.size w2 (w2.alloc (.cells #[.int .i64 0, .int .i64 0, .int .i64 0, .int .i64 0, .int .i64 0] 73)) := (Below.refl _ _).alloc (Nat.le_refl _) _
  have A3 := World.alloc_heap_new w2 (.cells #[.int .i64 0, .int .i64 0, .int .i64 0, .int .i64 0, .int .i64 0] 73)
  have B3 := aA (aB B2.out q3)
  have TH := aA (show (w2.alloc (.cells #[.int .i64 0, .int .i64 0, .int .i64 0, .int .i64 0, .int .i64 0] 73)).there w2.heap.size 0 5 from aK (cs := [_, _, _, _, _]) A3)
  have HA := aA A3
  have Q3 := aA (Q2.out.trans (q3.mono (Nat.le_of_lt hb2)))
  clear A3 q3
  go_wp2_with (refine aF (by rfl) 73 (.tmp 2) (.tmp 20) (by rfl) w2.heap.size 0 [.int .i64 xk, .int .i64 xf, .int .i64 xp, .int .i64 xr, .int .i64 xg] (by rfl) (by rfl) (by exact TH.out) (by kernel_rfl) (by simp [Value.oneCell']) ?_)
  intro w4 e4
  have A4 := aA (show w4.heap[w2.heap.size]? = some (.cells #[.int .i64 xk, .int .i64 xf, .int .i64 xp, .int .i64 xr, .int .i64 xg] 73 (0, 0)) by rw [e4.out]; exact aJ [.int .i64 xk, .int .i64 xf, .int .i64 xp, .int .i64 xr, .int .i64 xg] (xs := [_, _, _, _, _]) HA.out rfl)
  have Q4 := aA (show Below b w w4 by rw [e4.out]; exact Q3.out.trans (aE (g := w2.heap.size) _ 0 _ (Nat.le_of_lt hb2)))
  have B4 := aA (show w4.heap[b]? = some (.cells (bV ⟨⟨yk, yf, yp, yr, yg⟩, ⟨nk, nf, np, nr, ng⟩, on, dl, 0, 0, 0, ho, false⟩).toArray t (0, 0)) by rw [e4.out]; exact aG (x := b) (b := w2.heap.size) (by omega) _ 0 _ B3.out)
  clear e4 TH HA Q3 B3 B2 Q2
  generalize w2.heap.size = yb at *
  obtain ⟨c0, c1, c2, c3, c4⟩ := cL (f := ⟨xk, xf, xp, xr, xg⟩) A4.out
  dsimp only at c0 c1 c2 c3 c4
  go_wp2_with fail
  (with_reducible refine (PR.out _).mono ?_)
  rintro e5 w5 ⟨rfl, q5⟩
  have hb4 : b < w4.heap.size := aH B4.out
  have B5 := aA (aB B4.out q5)
  have A5 := aA (aB A4.out q5)
  have Q5 := aA (Q4.out.trans (q5.mono (Nat.le_of_lt hb4)))
  clear q5 PR A4 B4 Q4 c0 c1 c2 c3 c4
  cases pb with
  | false =>
    go_wp2_with fail
    go_end0
    exact ⟨⟨_, rfl⟩, by rw [EB.out]; exact B5.out, Q5.out⟩
  | true =>
    obtain ⟨c0, c1, c2, c3, c4⟩ := cL (f := ⟨xk, xf, xp, xr, xg⟩) A5.out
    dsimp only at c0 c1 c2 c3 c4
    obtain ⟨d0, d1, d2, d3, d4, d5, d6, d7, d8, d9, d10, d11, d12, d13, d14, d15, d16⟩ := eP B5.out
    dsimp only at d0 d1 d2 d3 d4 d5 d6 d7 d8 d9 d10 d11 d12 d13 d14 d15 d16
    have HB := B5.out
    have f12 : w5.frozen? ⟨b, 12, none⟩ = false := by simp [World.frozen?, HB]
    obtain ⟨m, em, hm⟩ := run_max (P := Tryz.prog) xf 1
    have FIN := aA (snc_set HB 12 (.int .i64 m))
    have Q6 := aA (Q5.out.setCell (p := ⟨b, 12, none⟩) (Nat.le_refl _) (.int .i64 m))
    have EM := aA em
    clear HB em d0 d1 d2 d3 d4 d5 d6 d7 d8 d9 d10 d11 d13 d14 d15 d16
    go_wp2_with fail
    go_end0
    refine ⟨⟨_, rfl⟩, ?_, Q6.out⟩
    rw [EB.out, if_pos trivial, ← EM.out]
    exact FIN.out
end Go.Proofs.YtkmddjbialpppaaGreatDoor
namespace Go.Proofs.YtkmddjbialpppaaGreatDoor
open Go.ChangeShapes Go.WideShapes Go.ChangeAt Go.RowKit
theorem aP {P : Program} {fn : Func} {p q : Tmp} {ty : TypeId} (h : fn.results = #[.cell p ty, .tmp q]) (tmps : Array Value) (w : World) (g : Nat) (t : TypeId) (cs : Array Value) (fr : Nat × Nat) (d : TypeDesc) (v : Value)
    (hp : tmps.getD p undef = .pointer (some ⟨g, 0, none⟩)) (hq : tmps.getD q undef = v) (hg : w.heap[g]? = some (.cells cs t fr))
    (hu : P.underlying ty = some d) (hd : (match d with | .struct _ | .array _ _ => true | _ => false) = true) (hi : (P.info? ty).map (·.size) = some cs.size) :
    (results fn tmps).run P w = .ok (.tuple #[.agg cs, v]) w := by
  have hp' : tmps[p]?.getD undef = .pointer (some ⟨g, 0, none⟩) := by simpa using hp
  have hq' : tmps[q]?.getD undef = v := by simpa using hq
  simp [results, h, hp', hq', asAddr, run_loadVar_row w g t ty cs fr d hg hu hd hi]
theorem eO {P : Program} {fn : Func} {p q r : Tmp} {ty : TypeId} (h : fn.results = #[.cell p ty, .tmp q, .tmp r]) (tmps : Array Value) (w : World) (g : Nat) (t : TypeId) (cs : Array Value) (fr : Nat × Nat) (d : TypeDesc) (v u : Value)
    (hp : tmps.getD p undef = .pointer (some ⟨g, 0, none⟩)) (hq : tmps.getD q undef = v) (hr : tmps.getD r undef = u) (hg : w.heap[g]? = some (.cells cs t fr))
    (hu : P.underlying ty = some d) (hd : (match d with | .struct _ | .array _ _ => true | _ => false) = true) (hi : (P.info? ty).map (·.size) = some cs.size) :
    (results fn tmps).run P w = .ok (.tuple #[.agg cs, v, u]) w := by
  have hp' : tmps[p]?.getD undef = .pointer (some ⟨g, 0, none⟩) := by simpa using hp
  have hq' : tmps[q]?.getD undef = v := by simpa using hq
  have hr' : tmps[r]?.getD undef = u := by simpa using hr
  simp [results, h, hp', hq', hr', asAddr, run_loadVar_row w g t ty cs fr d hg hu hd hi]
end Go.Proofs.YtkmddjbialpppaaGreatDoor
namespace Go.Proofs.YtkmddjbialpppaaGreatDoor
open Go.ChangeShapes Go.WideShapes Go.ChangeAt Go.RowKit
open CM
def eM : Snd := ⟨⟨0, 0, 0, 0, 0⟩, ⟨0, 0, 0, 0, 0⟩, false, 0, 0, 0, 0, 0, false⟩
theorem sndBegin_new (y n : Wy) (on : Bool) (dl : Int) : sndBegin ⟨y, n, on, dl, 0, 0, 0, 0, false⟩ = jG y n on dl := rfl
def jO (y n : Wy) (on : Bool) (dl : Int) : Snd := if fW y n dl = true then jG y n on dl else eM
def iM (y n : Wy) (dl : Int) : Int := if fW y n dl = true then 0 else 1
set_option maxRecDepth 100000 in
set_option maxHeartbeats 8000000 in
theorem sndNew_any (y n : Wy) (on : Bool) (dl : Int) (w : World) :
    Calls Tryz.prog 167 #[.agg #[.int .i64 y.kind, .int .i64 y.first, .int .i64 y.period, .int .i64 y.reps, .int .i64 y.gap], .agg #[.int .i64 n.kind, .int .i64 n.first, .int .i64 n.period, .int .i64 n.reps, .int .i64 n.gap], .bool on, .int .i64 dl] w fun e w' => e = .returned (.tuple #[.agg (bV (jO y n on dl)).toArray, .int .i64 (iM y n dl)]) ∧ Below w.heap.size w w' := by
  have WI := aA gV
  have YW := aA (fun W => way_any y W)
  have NW := aA (fun W => way_any n W)
  obtain ⟨R, hR⟩ : ∃ R, R = fW y n dl := ⟨_, rfl⟩
  obtain ⟨SV, hSV⟩ : ∃ SV, SV = jO y n on dl := ⟨_, rfl⟩
  obtain ⟨SE, hSE⟩ : ∃ SE, SE = iM y n dl := ⟨_, rfl⟩
  rw [← hSV, ← hSE]
  unfold jO at hSV
  unfold iM at hSE
  rw [← hR] at hSV hSE
  have HSV := aA hSV
  have HSE := aA hSE
  clear hSV hSE
  unfold fW at hR
  rw [show decide (0 ≤ dl ∧ dl ≤ 1000000) = cK dl 0 1000000 from rfl] at hR
  have HR := aA hR
  clear hR
  obtain ⟨w0, hw0⟩ : ∃ w0, w0 = ((w.alloc (.cells #[.int .i64 y.kind, .int .i64 y.first, .int .i64 y.period, .int .i64 y.reps, .int .i64 y.gap] 73)).alloc (.cells #[.int .i64 n.kind, .int .i64 n.first, .int .i64 n.period, .int .i64 n.reps, .int .i64 n.gap] 73)).alloc (.cells (bV eM).toArray 75) := ⟨_, rfl⟩
  have a1 := (Below.refl _ _).alloc (Nat.le_refl w.heap.size) (.cells #[.int .i64 y.kind, .int .i64 y.first, .int .i64 y.period, .int .i64 y.reps, .int .i64 y.gap] 73)
  have b1 := World.alloc_heap_new w (.cells #[.int .i64 y.kind, .int .i64 y.first, .int .i64 y.period, .int .i64 y.reps, .int .i64 y.gap] 73)
  have z1 : (w.alloc (.cells #[.int .i64 y.kind, .int .i64 y.first, .int .i64 y.period, .int .i64 y.reps, .int .i64 y.gap] 73)).heap.size = w.heap.size + 1 := by simp
  have a2 := (Below.refl _ (w.alloc (.cells #[.int .i64 y.kind, .int .i64 y.first, .int .i64 y.period, .int .i64 y.reps, .int .i64 y.gap] 73))).alloc (Nat.le_refl _) (.cells #[.int .i64 n.kind, .int .i64 n.first, .int .i64 n.period, .int .i64 n.reps, .int .i64 n.gap] 73)
  have b2 := World.alloc_heap_new (w.alloc (.cells #[.int .i64 y.kind, .int .i64 y.first, .int .i64 y.period, .int .i64 y.reps, .int .i64 y.gap] 73)) (.cells #[.int .i64 n.kind, .int .i64 n.first, .int .i64 n.period, .int .i64 n.reps, .int .i64 n.gap] 73)
  have z2 : ((w.alloc (.cells #[.int .i64 y.kind, .int .i64 y.first, .int .i64 y.period, .int .i64 y.reps, .int .i64 y.gap] 73)).alloc (.cells #[.int .i64 n.kind, .int .i64 n.first, .int .i64 n.period, .int .i64 n.reps, .int .i64 n.gap] 73)).heap.size = w.heap.size + 1 + 1 := by simp
  have a3 := (Below.refl _ ((w.alloc (.cells #[.int .i64 y.kind, .int .i64 y.first, .int .i64 y.period, .int .i64 y.reps, .int .i64 y.gap] 73)).alloc (.cells #[.int .i64 n.kind, .int .i64 n.first, .int .i64 n.period, .int .i64 n.reps, .int .i64 n.gap] 73))).alloc (Nat.le_refl _) (.cells (bV eM).toArray 75)
  have b3 := World.alloc_heap_new ((w.alloc (.cells #[.int .i64 y.kind, .int .i64 y.first, .int .i64 y.period, .int .i64 y.reps, .int .i64 y.gap] 73)).alloc (.cells #[.int .i64 n.kind, .int .i64 n.first, .int .i64 n.period, .int .i64 n.reps, .int .i64 n.gap] 73)) (.cells (bV eM).toArray 75)
  have B1 := aA (aB (aB b1 a2) a3)
  have B2 := aA (aB b2 a3)
  have B3 := aA b3
  have Q0 := aA (aC (aC a1 a1.size a2) (aC a1 a1.size a2).size a3)
  rw [← hw0] at B1 B2 B3 Q0
  rw [z1] at B2
  rw [z2] at B3
  clear a1 a2 a3 b1 b2 b3 z1 z2
  obtain ⟨yk, yf, yp, yr, yg⟩ := y
  obtain ⟨nk, nf, np, nr, ng⟩ := n
  dsimp only at *
  obtain ⟨c0, c1, c2, c3, c4⟩ := cL (f := ⟨yk, yf, yp, yr, yg⟩) B1.out
  obtain ⟨d0, d1, d2, d3, d4⟩ := cL (f := ⟨nk, nf, np, nr, ng⟩) B2.out
  dsimp only at c0 c1 c2 c3 c4 d0 d1 d2 d3 d4
  go_enter Tryz.func167, Tryz.ntmps167
  go_upto_region 1 with fail
  change Code.wp _ _ _ _ (((w.alloc (.cells #[.int .i64 yk, .int .i64 yf, .int .i64 yp, .int .i64 yr, .int .i64 yg] 73)).alloc (.cells #[.int .i64 nk, .int .i64 nf, .int .i64 np, .int .i64 nr, .int .i64 ng] 73)).alloc (.cells (bV eM).toArray 75))
  rw [← hw0]
  clear hw0
  go_wp2_with fail
  (with_reducible refine (YW.out _).mono ?_)
  rintro e1 w1 ⟨rfl, q1⟩
  have C1 := aA (aB B1.out q1)
  have C2 := aA (aB B2.out q1)
  have C3 := aA (aB B3.out q1)
  have Q1 := aA (aC Q0.out Q0.out.size q1)
  clear q1 B1 B2 B3 Q0 YW c0 c1 c2 c3 c4 d0 d1 d2 d3 d4
  rcases hy : jW ⟨yk, yf, yp, yr, yg⟩ with _ | _
  · have HA := C3
    have QQ := Q1
    have TH := aA (show w1.there (w.heap.size + 1 + 1) 0 17 from aK (cs := bV eM) C3.out)
    go_wp2_with (refine aF (by rfl) 75 (.tmp 8) (.tmp 24) (by rfl) (w.heap.size + 1 + 1) 0 (bV eM) (by rfl) (by rfl) (by exact TH.out) (by kernel_rfl) (by simp [Value.oneCell', bV]) ?_)
    intro w9 e9
    have A9 : w9.heap[w.heap.size + 1 + 1]? = some (.cells (bV eM).toArray 75 (0, 0)) := by rw [e9.out]; exact aJ (bV eM) (xs := bV eM) HA.out rfl
    have Q9 := aA (show Below w.heap.size w w9 by rw [e9.out]; exact QQ.out.trans (aE (g := w.heap.size + 1 + 1) _ 0 _ (by omega)))
    have ER : R = false := by rw [HR.out]; rw [hy]; rfl
    have E1 := aA (show SV = eM by rw [HSV.out, ER, if_neg (by simp)])
    have E2 := aA (show SE = 1 by rw [HSE.out, ER, if_neg (by simp)])
    clear e9 HR TH HA QQ HSV HSE ER
    replace A9 := aA A9
    go_wp2_with fail
    refine bodyPost_ret (aP (by rfl) _ w9 (w.heap.size + 1 + 1) 75 (bV eM).toArray (0, 0) _ (.int .i64 1) (by rfl) (by rfl) A9.out Tryz.underlying75 (by rfl) (by kernel_rfl)) rfl ⟨by rw [E1.out, E2.out], Q9.out⟩
  obtain ⟨d0, d1, d2, d3, d4⟩ := cL (f := ⟨nk, nf, np, nr, ng⟩) C2.out
  dsimp only at d0 d1 d2 d3 d4
  go_wp2_with fail
  (with_reducible refine (NW.out _).mono ?_)
  rintro e1 w2 ⟨rfl, q2⟩
  have D1 := aA (aB C1.out q2)
  have D2 := aA (aB C2.out q2)
  have D3 := aA (aB C3.out q2)
  have Q2 := aA (aC Q1.out Q1.out.size q2)
  clear q2 C1 C2 C3 Q1 NW d0 d1 d2 d3 d4
  rcases hn : jW ⟨nk, nf, np, nr, ng⟩ with _ | _
  · have HA := D3
    have QQ := Q2
    have TH := aA (show w2.there (w.heap.size + 1 + 1) 0 17 from aK (cs := bV eM) D3.out)
    go_wp2_with (refine aF (by rfl) 75 (.tmp 8) (.tmp 24) (by rfl) (w.heap.size + 1 + 1) 0 (bV eM) (by rfl) (by rfl) (by exact TH.out) (by kernel_rfl) (by simp [Value.oneCell', bV]) ?_)
    intro w9 e9
    have A9 : w9.heap[w.heap.size + 1 + 1]? = some (.cells (bV eM).toArray 75 (0, 0)) := by rw [e9.out]; exact aJ (bV eM) (xs := bV eM) HA.out rfl
    have Q9 := aA (show Below w.heap.size w w9 by rw [e9.out]; exact QQ.out.trans (aE (g := w.heap.size + 1 + 1) _ 0 _ (by omega)))
    have ER : R = false := by rw [HR.out]; rw [hy, hn]; rfl
    have E1 := aA (show SV = eM by rw [HSV.out, ER, if_neg (by simp)])
    have E2 := aA (show SE = 1 by rw [HSE.out, ER, if_neg (by simp)])
    clear e9 HR TH HA QQ HSV HSE ER
    replace A9 := aA A9
    go_wp2_with fail
    refine bodyPost_ret (aP (by rfl) _ w9 (w.heap.size + 1 + 1) 75 (bV eM).toArray (0, 0) _ (.int .i64 1) (by rfl) (by rfl) A9.out Tryz.underlying75 (by rfl) (by kernel_rfl)) rfl ⟨by rw [E1.out, E2.out], Q9.out⟩
  go_wp2_with fail
  (with_reducible refine (WI.out _ _ _ _).mono ?_)
  rintro e1 w3 ⟨rfl, rfl⟩
  rcases hd : cK dl 0 1000000 with _ | _
  · have HA := D3
    have QQ := Q2
    have TH := aA (show w2.there (w.heap.size + 1 + 1) 0 17 from aK (cs := bV eM) D3.out)
    go_wp2_with (refine aF (by rfl) 75 (.tmp 8) (.tmp 24) (by rfl) (w.heap.size + 1 + 1) 0 (bV eM) (by rfl) (by rfl) (by exact TH.out) (by kernel_rfl) (by simp [Value.oneCell', bV]) ?_)
    intro w9 e9
    have A9 : w9.heap[w.heap.size + 1 + 1]? = some (.cells (bV eM).toArray 75 (0, 0)) := by rw [e9.out]; exact aJ (bV eM) (xs := bV eM) HA.out rfl
    have Q9 := aA (show Below w.heap.size w w9 by rw [e9.out]; exact QQ.out.trans (aE (g := w.heap.size + 1 + 1) _ 0 _ (by omega)))
    have ER : R = false := by rw [HR.out]; rw [hy, hn, hd]; rfl
    have E1 := aA (show SV = eM by rw [HSV.out, ER, if_neg (by simp)])
    have E2 := aA (show SE = 1 by rw [HSE.out, ER, if_neg (by simp)])
    clear e9 HR TH HA QQ HSV HSE ER
    replace A9 := aA A9
    go_wp2_with fail
    refine bodyPost_ret (aP (by rfl) _ w9 (w.heap.size + 1 + 1) 75 (bV eM).toArray (0, 0) _ (.int .i64 1) (by rfl) (by rfl) A9.out Tryz.underlying75 (by rfl) (by kernel_rfl)) rfl ⟨by rw [E1.out, E2.out], Q9.out⟩
  have ER : R = true := by rw [HR.out, hy, hn, hd]; rfl
  have E1 := aA (show SV = jG ⟨yk, yf, yp, yr, yg⟩ ⟨nk, nf, np, nr, ng⟩ on dl by rw [HSV.out, ER, if_pos rfl])
  have E2 := aA (show SE = 0 by rw [HSE.out, ER, if_pos rfl])
  clear HR hy hn hd WI HSV HSE ER
  obtain ⟨c0, c1, c2, c3, c4⟩ := cL (f := ⟨yk, yf, yp, yr, yg⟩) D1.out
  obtain ⟨d0, d1, d2, d3, d4⟩ := cL (f := ⟨nk, nf, np, nr, ng⟩) D2.out
  dsimp only at c0 c1 c2 c3 c4 d0 d1 d2 d3 d4
  have a4 := (Below.refl _ w2).alloc (Nat.le_refl _) (.cells (bV ⟨⟨yk, yf, yp, yr, yg⟩, ⟨nk, nf, np, nr, ng⟩, on, dl, 0, 0, 0, 0, false⟩).toArray 185)
  have E4 := aA (World.alloc_heap_new w2 (.cells (bV ⟨⟨yk, yf, yp, yr, yg⟩, ⟨nk, nf, np, nr, ng⟩, on, dl, 0, 0, 0, 0, false⟩).toArray 185))
  have E3 := aA (aB D3.out a4)
  have Q4 := aA (aC Q2.out Q2.out.size a4)
  have z2 : w.heap.size + 1 + 1 < w2.heap.size := aH D3.out
  obtain ⟨w4, hw4⟩ : ∃ w4, w4 = w2.alloc (.cells (bV ⟨⟨yk, yf, yp, yr, yg⟩, ⟨nk, nf, np, nr, ng⟩, on, dl, 0, 0, 0, 0, false⟩).toArray 185) := ⟨_, rfl⟩
  rw [← hw4] at E4 E3 Q4
  have BG := aA (snBegin_any ⟨⟨yk, yf, yp, yr, yg⟩, ⟨nk, nf, np, nr, ng⟩, on, dl, 0, 0, 0, 0, false⟩ w2.heap.size 185 w4 E4)
  rw [sndBegin_new] at BG
  clear a4 D1 D2 D3 Q2
  go_upto_region 4 with fail
  change Code.wp _ _ _ _ (w2.alloc (.cells (bV ⟨⟨yk, yf, yp, yr, yg⟩, ⟨nk, nf, np, nr, ng⟩, on, dl, 0, 0, 0, 0, false⟩).toArray 185))
  rw [← hw4]
  clear hw4 c0 c1 c2 c3 c4 d0 d1 d2 d3 d4
  generalize hS : jG ⟨yk, yf, yp, yr, yg⟩ ⟨nk, nf, np, nr, ng⟩ on dl = S at *
  go_wp2_with fail
  (with_reducible refine (BG.out).mono ?_)
  rintro e1 w5 ⟨⟨v5, rfl⟩, b5, q5⟩
  have F3 := aA (q5.block (w.heap.size + 1 + 1) z2 ▸ E3.out : w5.heap[w.heap.size + 1 + 1]? = some (.cells (bV eM).toArray 75 (0, 0)))
  have Q5 := aA (Q4.out.trans (q5.mono (show w.heap.size ≤ w2.heap.size by omega)))
  have TH := aA (show w5.there (w.heap.size + 1 + 1) 0 17 from aK (cs := bV eM) F3.out)
  have B5 := aA b5
  clear BG E4 E3 Q4 q5 b5
  go_wp2_with (first | (refine wpList_load_row rfl 75 (.tmp 36) (by rfl) w2.heap.size (by rfl) 185 (bV S).toArray (0, 0) _ (by exact B5.out) Tryz.underlying75 (by rfl) (by kernel_rfl) ?_) | (refine aF (by rfl) 75 (.tmp 8) (.tmp 37) (by rfl) (w.heap.size + 1 + 1) 0 (bV S) (by rfl) (by rfl) (by exact TH.out) (by kernel_rfl) (by simp [Value.oneCell', bV]) ?_))
  intro w9 e9
  have A9 : w9.heap[w.heap.size + 1 + 1]? = some (.cells (bV S).toArray 75 (0, 0)) := by rw [e9.out]; exact aJ (bV S) (xs := bV eM) F3.out rfl
  have Q9 := aA (show Below w.heap.size w w9 by rw [e9.out]; exact Q5.out.trans (aE (g := w.heap.size + 1 + 1) _ 0 _ (by omega)))
  clear e9 TH F3 Q5 B5
  replace A9 := aA A9
  go_wp2_with fail
  refine bodyPost_ret (aP (by rfl) _ w9 (w.heap.size + 1 + 1) 75 (bV S).toArray (0, 0) _ (.int .i64 0) (by rfl) (by rfl) A9.out Tryz.underlying75 (by rfl) (by kernel_rfl)) rfl ⟨by rw [E1.out, E2.out], Q9.out⟩
end Go.Proofs.YtkmddjbialpppaaGreatDoor
namespace Go.Proofs.YtkmddjbialpppaaGreatDoor
open Go.ChangeShapes Go.WideShapes Go.ChangeAt Go.RowKit
def roundOn (B : Nat) (I : World → Prop) (W : World) : Exit → Act → World → Prop
  | .normal, _, W' => KeepsFrom B W W' ∧ I W'
  | _, _, _ => False
theorem gM {P : Program} {n : Nat} {g : Operand} {ps : Array Tmp} {assign body : Code} {Q : Exit → Act → World → Prop} {a : Act} {w : World} {gf : Nat} {lb : Array Value}
    (hg : a.eval g = .func (.func gf) #[] lb) (eg : ∀ args w, (callFunc gf args).run P w = .ok (.enter gf args) w) (enc : Nat → Array Value) (hps : ∀ k, (enc k).size = ps.size) (N : Nat) (I : Nat → World → Prop)
    (hIa : ∀ k W o, I k W → I k (W.alloc o)) (hIp : ∀ k W l o o', I k W → w.heap.size ≤ l → W.heap[l]? = some o → o.isCells = false → I k (W.putObj l o'))
    (hiter : ∀ (l : Nat) (J : Nat → World → Prop) (W : World), (∀ k W, J k W → I k W) →
      (∀ k W, k < N → J k W → YieldAt Fence.wide (n - 1 - 1) P l (enc k) W fun e W' => e = .returned (.bool true) ∧ J (k + 1) W') → J 0 W →
      CallsIn Fence.wide (n - 1) P gf (#[.func (.yield l) #[] #[]] ++ lb) W fun e W' => (∃ v, e = .returned v) ∧ J N W')
    (h0 : I 0 w) (a₁ : Nat → Act)
    (hassign : ∀ (l k : Nat) (W : World) (K : Act → World → Prop), K (a₁ k) W →
      assign.wpIn (Fence.wide.inRound l) (n - 1 - 1) P (Exit.then K (fun _ _ _ => False)) { tmps := (ps.zip (enc k)).foldl (fun t (p, v) => t.setIfInBounds p v) a.tmps, defers := [] } W)
    (hbody : ∀ (l k : Nat) (W : World), I k W → k < N → body.wpIn (Fence.wide.inRound l) (n - 1 - 1) P (roundOn w.heap.size (I (k + 1)) W) (a₁ k) W)
    (hdone : ∀ (D : Nat) (W : World), I N W → w.heap.size ≤ D → W.heap[D]? = some (.deferred (some [])) → Q .normal { a with defers := { target := .collected D, args := #[] } :: a.defers } W) :
    (Code.rangeFunc g ps assign body).wp P Q a w := by
  refine (wpIn_wide (n := n)).1 (wpIn_rangeFunc ?_)
  intro fn hfn
  rw [Fence.wide_round]
  obtain ⟨rec, hrec⟩ : ∃ rec : LoopState → Option Code → Loop, rec = fun st pe => { state := st, pending := pe, fn, tmps := a.tmps, params := ps, assign, body, defers := w.heap.size } := ⟨_, rfl⟩
  obtain ⟨W1, hW1⟩ : ∃ W1, (w.alloc (.deferred (some []))).alloc (.loop (rec .ready none)) = W1 := ⟨_, rfl⟩
  have hL1 : W1.heap[w.heap.size + 1]? = some (.loop (rec .ready none)) := by
    rw [← hW1]; have := World.alloc_heap_new (w.alloc (.deferred (some []))) (.loop (rec .ready none)); rwa [World.size_alloc] at this
  have hK1 : W1.heap[w.heap.size]? = some (.deferred (some [])) := by
    rw [← hW1]; exact (Below.heap_alloc _ _ _ (by simp)).trans (World.alloc_heap_new w _)
  have hI1 : I 0 W1 := by rw [← hW1]; exact hIa _ _ _ (hIa _ _ _ h0)
  refine ⟨w.heap.size + 1, [{ target := .collected w.heap.size, args := #[] }], W1, { target := .fn (.func gf) lb, args := #[.func (.yield (w.heap.size + 1)) #[] #[]] }, W1, gf,
    #[.func (.yield (w.heap.size + 1)) #[] #[]] ++ lb, W1, ?_, ?_, ?_, ?_, fun h => by simp [Fence.wide] at h, ?_⟩
  · rw [← hW1, hrec]; exact run_enterLoop_outer _ _ _ _ _
  · simp only [resolve, hg]
    simp [go_sem]
  · intro f' _; trivial
  · simp [invoke, go_sem, eg]
  · refine (hiter (w.heap.size + 1)
      (fun k W => I k W ∧ W.heap[w.heap.size + 1]? = some (.loop (rec .ready none)) ∧ W.heap[w.heap.size]? = some (.deferred (some [])))
      W1 (fun _ _ h => h.1) ?_ ⟨hI1, hL1, hK1⟩).mono ?_
    · rintro k W hk ⟨hi, hl, hd⟩
      have hlt : w.heap.size + 1 < W.heap.size := (Array.getElem?_eq_some_iff.1 hl).1
      have hy := run_yield (P := P) (args := enc k) hl (by rw [hrec]; exact hps k)
      rw [hrec] at hy
      refine ⟨fn, _, assign, body, hy, roundIn_of_wpIn hfn (hassign _ k W _ ⟨_, run_beginRound hl (by rw [hrec]), ?_⟩)⟩
      have hl2 : (W.putObj (w.heap.size + 1) (.loop { rec .ready none with state := .busy })).heap[w.heap.size + 1]? = some (.loop { rec .ready none with state := .busy }) := World.putObj_heap_same hlt
      have hk2 : (W.putObj (w.heap.size + 1) (.loop { rec .ready none with state := .busy })).heap[w.heap.size]? = some (.deferred (some [])) := (World.putObj_heap_other (by omega)).trans hd
      refine wpIn_mono (hbody _ k _ (hIp _ _ _ _ _ hi (by omega) hl rfl) hk) ?_
      rintro e a3 W3 hp
      cases e with
      | normal =>
        obtain ⟨hk3, hi3⟩ := hp
        have hl3 := hk3.same _ _ (by omega) hl2 rfl
        have hd3 := hk3.same _ _ (by omega) hk2 rfl
        have hr := run_endRound (P := P) none hl3
        refine ⟨_, _, hr, rfl, hIp _ _ _ _ _ hi3 (by omega) hl3 rfl, ?_, (World.putObj_heap_other (by omega)).trans hd3⟩
        have := World.putObj_heap_same (o := .loop (rec .ready none)) (Array.getElem?_eq_some_iff.1 hl3).1
        rw [hrec] at this ⊢
        exact this
      | ret => exact hp.elim
      | exit id => exact hp.elim
      | goto t => exact hp.elim
      | panic ch => exact hp.elim
      | outgrown => exact hp.elim
    · rintro e W2 ⟨⟨v, rfl⟩, hi, hl, hk⟩
      exact ⟨none, _, by have := run_endLoop (P := P) hl (by rw [hrec]; simp); rw [hrec] at this; exact this, hdone _ _ (hIp _ _ _ _ _ hi (by omega) hl rfl) (Nat.le_refl _) ((World.putObj_heap_other (by omega)).trans hk)⟩
end Go.Proofs.YtkmddjbialpppaaGreatDoor
