/- Walks of (*send.sending).way, begin, send.New. -/
import Derived.Test.YtnhegnneohpkaaaGreatMgFlB
import Derived.Test.YtnhegnneohpkaaaGreatOwS
import Derived.Laws.Rows
namespace Go.Proofs.YtnhegnneohpkaaaGreat
open Go.ChangeShapes Go.WideShapes Go.ChangeAt Go.RowKit
open CM

def sncL (s : Snd) : List Value := [.int .i64 s.yes.kind, .int .i64 s.yes.first, .int .i64 s.yes.period, .int .i64 s.yes.reps, .int .i64 s.yes.gap, .int .i64 s.no.kind, .int .i64 s.no.first, .int .i64 s.no.period, .int .i64 s.no.reps, .int .i64 s.no.gap, .bool s.on, .int .i64 s.delay, .int .i64 s.period, .int .i64 s.gap, .int .i64 s.left, .int .i64 s.hold, .bool s.asked]
theorem sn_cells {W : World} {B : Nat} {s : Snd} {t : TypeId} {fz : Nat × Nat} (h : W.heap[B]? = some (.cells (sncL s).toArray t fz)) :
    W.cell? ⟨B, 0, none⟩ = some (.int .i64 s.yes.kind) ∧ W.cell? ⟨B, 1, none⟩ = some (.int .i64 s.yes.first) ∧ W.cell? ⟨B, 2, none⟩ = some (.int .i64 s.yes.period) ∧ W.cell? ⟨B, 3, none⟩ = some (.int .i64 s.yes.reps) ∧ W.cell? ⟨B, 4, none⟩ = some (.int .i64 s.yes.gap) ∧
    W.cell? ⟨B, 5, none⟩ = some (.int .i64 s.no.kind) ∧ W.cell? ⟨B, 6, none⟩ = some (.int .i64 s.no.first) ∧ W.cell? ⟨B, 7, none⟩ = some (.int .i64 s.no.period) ∧ W.cell? ⟨B, 8, none⟩ = some (.int .i64 s.no.reps) ∧ W.cell? ⟨B, 9, none⟩ = some (.int .i64 s.no.gap) ∧
    W.cell? ⟨B, 10, none⟩ = some (.bool s.on) ∧ W.cell? ⟨B, 11, none⟩ = some (.int .i64 s.delay) ∧ W.cell? ⟨B, 12, none⟩ = some (.int .i64 s.period) ∧ W.cell? ⟨B, 13, none⟩ = some (.int .i64 s.gap) ∧ W.cell? ⟨B, 14, none⟩ = some (.int .i64 s.left) ∧ W.cell? ⟨B, 15, none⟩ = some (.int .i64 s.hold) ∧ W.cell? ⟨B, 16, none⟩ = some (.bool s.asked) := by
  simp [World.cell?, h, sncL]

set_option maxRecDepth 100000 in
set_option maxHeartbeats 4000000 in
theorem snWay_any (s : Snd) (b : Nat) (t : TypeId) (w : World) (h : Hid (w.heap[b]? = some (.cells (sncL s).toArray t (0, 0)))) :
    Calls Tryz.prog 69 #[.pointer (some ⟨b, 0, none⟩)] w fun e w' => e = .returned (.agg #[.int .i64 s.way.kind, .int .i64 s.way.first, .int .i64 s.way.period, .int .i64 s.way.reps, .int .i64 s.way.gap]) ∧ Below w.heap.size w w' := by
  have hb : b < w.heap.size := heap_lt h.out
  have q0 : Below w.heap.size w (w.alloc (.cells #[.int .i64 0, .int .i64 0, .int .i64 0, .int .i64 0, .int .i64 0] 32)) := (Below.refl _ _).alloc (Nat.le_refl _) _
  have A0 := World.alloc_heap_new w (.cells #[.int .i64 0, .int .i64 0, .int .i64 0, .int .i64 0, .int .i64 0] 32)
  have B0 := hide (heap_below h.out q0)
  generalize hw0 : w.alloc (.cells #[.int .i64 0, .int .i64 0, .int .i64 0, .int .i64 0, .int .i64 0] 32) = w0 at *
  have TH := hide (show w0.there w.heap.size 0 5 from there_heap (cs := [_, _, _, _, _]) A0)
  have HA := hide A0
  clear A0
  obtain ⟨c0, c1, c2, c3, c4, c5, c6, c7, c8, c9, c10, c11, c12, c13, c14, c15, c16⟩ := sn_cells B0.out
  obtain ⟨⟨yk, yf, yp, yr, yg⟩, ⟨nk, nf, np, nr, ng⟩, on, dl, pe, ga, le, ho, asq⟩ := s
  dsimp only at c0 c1 c2 c3 c4 c5 c6 c7 c8 c9 c10 c11 c12 c13 c14 c15 c16
  clear h
  go_enter Tryz.func69, Tryz.ntmps69
  cases on with
  | true =>
    go_wp2_with (refine wpList_store_hid (by rfl) 32 (.tmp 2) (.tmp 12) (by rfl) w.heap.size 0 [.int .i64 yk, .int .i64 yf, .int .i64 yp, .int .i64 yr, .int .i64 yg] (by rfl) (by rfl) (by exact TH.out) (by kernel_rfl) (by simp [Value.oneCell']) ?_)
    intro w1 e1
    have A1 : w1.heap[w.heap.size]? = some (.cells #[.int .i64 yk, .int .i64 yf, .int .i64 yp, .int .i64 yr, .int .i64 yg] 32 (0, 0)) := by rw [e1.out]; exact whole_heap [.int .i64 yk, .int .i64 yf, .int .i64 yp, .int .i64 yr, .int .i64 yg] (xs := [_, _, _, _, _]) HA.out rfl
    have Q1 := hide (show Below w.heap.size w w1 by rw [e1.out]; exact q0.trans (below_setCells (g := w.heap.size) _ 0 _ (Nat.le_refl _)))
    obtain ⟨r0, r1, r2, r3, r4⟩ := wy_cells (f := ⟨yk, yf, yp, yr, yg⟩) A1
    dsimp only at r0 r1 r2 r3 r4
    clear e1 A1 c0 c1 c2 c3 c4 c5 c6 c7 c8 c9 c10 c11 c12 c13 c14 c15 c16
    go_wp2_with fail
    refine bodyPost_ret (v := .agg #[.int .i64 yk, .int .i64 yf, .int .i64 yp, .int .i64 yr, .int .i64 yg]) (by simp [results, Tryz.results69, go_sem, r0, r1, r2, r3, r4]) rfl ⟨rfl, Q1.out⟩
  | false =>
    go_wp2_with (refine wpList_store_hid (by rfl) 32 (.tmp 2) (.tmp 17) (by rfl) w.heap.size 0 [.int .i64 nk, .int .i64 nf, .int .i64 np, .int .i64 nr, .int .i64 ng] (by rfl) (by rfl) (by exact TH.out) (by kernel_rfl) (by simp [Value.oneCell']) ?_)
    intro w1 e1
    have A1 : w1.heap[w.heap.size]? = some (.cells #[.int .i64 nk, .int .i64 nf, .int .i64 np, .int .i64 nr, .int .i64 ng] 32 (0, 0)) := by rw [e1.out]; exact whole_heap [.int .i64 nk, .int .i64 nf, .int .i64 np, .int .i64 nr, .int .i64 ng] (xs := [_, _, _, _, _]) HA.out rfl
    have Q1 := hide (show Below w.heap.size w w1 by rw [e1.out]; exact q0.trans (below_setCells (g := w.heap.size) _ 0 _ (Nat.le_refl _)))
    obtain ⟨r0, r1, r2, r3, r4⟩ := wy_cells (f := ⟨nk, nf, np, nr, ng⟩) A1
    dsimp only at r0 r1 r2 r3 r4
    clear e1 A1 c0 c1 c2 c3 c4 c5 c6 c7 c8 c9 c10 c11 c12 c13 c14 c15 c16
    go_wp2_with fail
    refine bodyPost_ret (v := .agg #[.int .i64 nk, .int .i64 nf, .int .i64 np, .int .i64 nr, .int .i64 ng]) (by simp [results, Tryz.results69, go_sem, r0, r1, r2, r3, r4]) rfl ⟨rfl, Q1.out⟩

/-- begin. -/
def sndBegin (s : Snd) : Snd := { s with left := 0, gap := 0, asked := false, period := if perB s.way then max s.way.first 1 else 0 }

theorem snc_set {W : World} {b : Nat} {cs : Array Value} {t : TypeId} (h : W.heap[b]? = some (.cells cs t (0, 0))) (o : Nat) (v : Value) : (W.setCell ⟨b, o, none⟩ v).heap[b]? = some (.cells (cs.setIfInBounds o v) t (0, 0)) := by
  exact heap_setCell_same W b o _ _ v h

set_option maxRecDepth 100000 in
set_option maxHeartbeats 8000000 in
theorem snBegin_any (s : Snd) (b : Nat) (t : TypeId) (w : World) (h : Hid (w.heap[b]? = some (.cells (sncL s).toArray t (0, 0)))) :
    Calls Tryz.prog 57 #[.pointer (some ⟨b, 0, none⟩)] w fun e w' => (∃ v, e = .returned v) ∧ w'.heap[b]? = some (.cells (sncL (sndBegin s)).toArray t (0, 0)) ∧ Below b w w' := by
  have hb : b < w.heap.size := heap_lt h.out
  obtain ⟨c0, c1, c2, c3, c4, c5, c6, c7, c8, c9, c10, c11, c12, c13, c14, c15, c16⟩ := sn_cells h.out
  have HH := h.out
  obtain ⟨⟨yk, yf, yp, yr, yg⟩, ⟨nk, nf, np, nr, ng⟩, on, dl, pe, ga, le, ho, asq⟩ := s
  dsimp only at c0 c1 c2 c3 c4 c5 c6 c7 c8 c9 c10 c11 c12 c13 c14 c15 c16
  clear h
  have fz : ∀ o, w.frozen? ⟨b, o, none⟩ = false := fun o => by simp [World.frozen?, HH]
  have f13 := fz 13
  have f14 := fz 14
  have f16 := fz 16
  have f12 := fz 12
  have H1 := snc_set (snc_set (snc_set (snc_set HH 14 (.int .i64 0)) 13 (.int .i64 0)) 16 (.bool false)) 12 (.int .i64 0)
  obtain ⟨w1, hw1⟩ : ∃ w1, w1 = (((w.setCell ⟨b, 14, none⟩ (.int .i64 0)).setCell ⟨b, 13, none⟩ (.int .i64 0)).setCell ⟨b, 16, none⟩ (.bool false)).setCell ⟨b, 12, none⟩ (.int .i64 0) := ⟨_, rfl⟩
  have q1 : Below b w w1 := by
    rw [hw1]
    exact ((((Below.refl b w).setCell (p := ⟨b, 14, none⟩) (Nat.le_refl _) _).setCell (p := ⟨b, 13, none⟩) (Nat.le_refl _) _).setCell (p := ⟨b, 16, none⟩) (Nat.le_refl _) _).setCell (p := ⟨b, 12, none⟩) (Nat.le_refl _) _
  rw [← hw1] at H1
  have HW1 := hide (show w1.heap[b]? = some (.cells (sncL ⟨⟨yk, yf, yp, yr, yg⟩, ⟨nk, nf, np, nr, ng⟩, on, dl, 0, 0, 0, ho, false⟩).toArray t (0, 0)) from H1)
  have Q1 := hide q1
  clear fz HH H1 q1
  go_enter Tryz.func57, Tryz.ntmps57
  go_upto_region 1 with fail
  rw [← hw1]
  clear hw1 c0 c1 c2 c3 c4 c5 c6 c7 c8 c9 c10 c11 c12 c13 c14 c15 c16 f12 f13 f14 f16
  have SW := hide (snWay_any ⟨⟨yk, yf, yp, yr, yg⟩, ⟨nk, nf, np, nr, ng⟩, on, dl, 0, 0, 0, ho, false⟩ b t w1 HW1)
  have hb1 : b < w1.heap.size := heap_lt HW1.out
  have EB := hide (show sndBegin ⟨⟨yk, yf, yp, yr, yg⟩, ⟨nk, nf, np, nr, ng⟩, on, dl, pe, ga, le, ho, asq⟩ = ⟨⟨yk, yf, yp, yr, yg⟩, ⟨nk, nf, np, nr, ng⟩, on, dl, if perB (Snd.way ⟨⟨yk, yf, yp, yr, yg⟩, ⟨nk, nf, np, nr, ng⟩, on, dl, 0, 0, 0, ho, false⟩) then max (Snd.way ⟨⟨yk, yf, yp, yr, yg⟩, ⟨nk, nf, np, nr, ng⟩, on, dl, 0, 0, 0, ho, false⟩).first 1 else 0, 0, 0, ho, false⟩ from rfl)
  obtain ⟨Y, hY⟩ : ∃ Y, Y = Snd.way ⟨⟨yk, yf, yp, yr, yg⟩, ⟨nk, nf, np, nr, ng⟩, on, dl, 0, 0, 0, ho, false⟩ := ⟨_, rfl⟩
  rw [← hY] at SW EB
  clear hY
  have PR := hide (fun W => periodic_any Y W)
  generalize perB Y = pb at *
  obtain ⟨xk, xf, xp, xr, xg⟩ := Y
  dsimp only at *
  go_wp2_with fail
  (with_reducible refine (SW.out).mono ?_)
  rintro e2 w2 ⟨rfl, q2⟩
  have B2 := hide (heap_below HW1.out q2)
  have Q2 := hide (Q1.out.trans (q2.mono (Nat.le_of_lt hb1)))
  have hb2 : b < w2.heap.size := heap_lt B2.out
  clear q2 SW HW1 Q1
  have q3 : Below w2.heap.size w2 (w2.alloc (.cells #[.int .i64 0, .int .i64 0, .int .i64 0, .int .i64 0, .int .i64 0] 32)) := (Below.refl _ _).alloc (Nat.le_refl _) _
  have A3 := World.alloc_heap_new w2 (.cells #[.int .i64 0, .int .i64 0, .int .i64 0, .int .i64 0, .int .i64 0] 32)
  have B3 := hide (heap_below B2.out q3)
  have TH := hide (show (w2.alloc (.cells #[.int .i64 0, .int .i64 0, .int .i64 0, .int .i64 0, .int .i64 0] 32)).there w2.heap.size 0 5 from there_heap (cs := [_, _, _, _, _]) A3)
  have HA := hide A3
  have Q3 := hide (Q2.out.trans (q3.mono (Nat.le_of_lt hb2)))
  clear A3 q3
  go_wp2_with (refine wpList_store_hid (by rfl) 32 (.tmp 2) (.tmp 20) (by rfl) w2.heap.size 0 [.int .i64 xk, .int .i64 xf, .int .i64 xp, .int .i64 xr, .int .i64 xg] (by rfl) (by rfl) (by exact TH.out) (by kernel_rfl) (by simp [Value.oneCell']) ?_)
  intro w4 e4
  have A4 := hide (show w4.heap[w2.heap.size]? = some (.cells #[.int .i64 xk, .int .i64 xf, .int .i64 xp, .int .i64 xr, .int .i64 xg] 32 (0, 0)) by rw [e4.out]; exact whole_heap [.int .i64 xk, .int .i64 xf, .int .i64 xp, .int .i64 xr, .int .i64 xg] (xs := [_, _, _, _, _]) HA.out rfl)
  have Q4 := hide (show Below b w w4 by rw [e4.out]; exact Q3.out.trans (below_setCells (g := w2.heap.size) _ 0 _ (Nat.le_of_lt hb2)))
  have B4 := hide (show w4.heap[b]? = some (.cells (sncL ⟨⟨yk, yf, yp, yr, yg⟩, ⟨nk, nf, np, nr, ng⟩, on, dl, 0, 0, 0, ho, false⟩).toArray t (0, 0)) by rw [e4.out]; exact other_heap (x := b) (b := w2.heap.size) (by omega) _ 0 _ B3.out)
  clear e4 TH HA Q3 B3 B2 Q2
  generalize w2.heap.size = yb at *
  obtain ⟨c0, c1, c2, c3, c4⟩ := wy_cells (f := ⟨xk, xf, xp, xr, xg⟩) A4.out
  dsimp only at c0 c1 c2 c3 c4
  go_wp2_with fail
  (with_reducible refine (PR.out _).mono ?_)
  rintro e5 w5 ⟨rfl, q5⟩
  have hb4 : b < w4.heap.size := heap_lt B4.out
  have B5 := hide (heap_below B4.out q5)
  have A5 := hide (heap_below A4.out q5)
  have Q5 := hide (Q4.out.trans (q5.mono (Nat.le_of_lt hb4)))
  clear q5 PR A4 B4 Q4 c0 c1 c2 c3 c4
  cases pb with
  | false =>
    go_wp2_with fail
    go_end0
    exact ⟨⟨_, rfl⟩, by rw [EB.out]; exact B5.out, Q5.out⟩
  | true =>
    obtain ⟨c0, c1, c2, c3, c4⟩ := wy_cells (f := ⟨xk, xf, xp, xr, xg⟩) A5.out
    dsimp only at c0 c1 c2 c3 c4
    obtain ⟨d0, d1, d2, d3, d4, d5, d6, d7, d8, d9, d10, d11, d12, d13, d14, d15, d16⟩ := sn_cells B5.out
    dsimp only at d0 d1 d2 d3 d4 d5 d6 d7 d8 d9 d10 d11 d12 d13 d14 d15 d16
    have HB := B5.out
    have f12 : w5.frozen? ⟨b, 12, none⟩ = false := by simp [World.frozen?, HB]
    obtain ⟨m, em, hm⟩ := run_max (P := Tryz.prog) xf 1
    have FIN := hide (snc_set HB 12 (.int .i64 m))
    have Q6 := hide (Q5.out.setCell (p := ⟨b, 12, none⟩) (Nat.le_refl _) (.int .i64 m))
    have EM := hide em
    clear HB em d0 d1 d2 d3 d4 d5 d6 d7 d8 d9 d10 d11 d13 d14 d15 d16
    go_wp2_with fail
    go_end0
    refine ⟨⟨_, rfl⟩, ?_, Q6.out⟩
    rw [EB.out, if_pos trivial, ← EM.out]
    exact FIN.out
end Go.Proofs.YtnhegnneohpkaaaGreat

/- Results that lie in blocks of the call's own, whole. Nothing of the program's text. -/
namespace Go.Proofs.YtnhegnneohpkaaaGreat
open Go.ChangeShapes Go.WideShapes Go.ChangeAt Go.RowKit

theorem results_cell_tmp {P : Program} {fn : Func} {p q : Tmp} {ty : TypeId} (h : fn.results = #[.cell p ty, .tmp q]) (tmps : Array Value) (w : World) (g : Nat) (t : TypeId) (cs : Array Value) (fr : Nat × Nat) (d : TypeDesc) (v : Value)
    (hp : tmps.getD p undef = .pointer (some ⟨g, 0, none⟩)) (hq : tmps.getD q undef = v) (hg : w.heap[g]? = some (.cells cs t fr))
    (hu : P.underlying ty = some d) (hd : (match d with | .struct _ | .array _ _ => true | _ => false) = true) (hi : (P.info? ty).map (·.size) = some cs.size) :
    (results fn tmps).run P w = .ok (.tuple #[.agg cs, v]) w := by
  have hp' : tmps[p]?.getD undef = .pointer (some ⟨g, 0, none⟩) := by simpa using hp
  have hq' : tmps[q]?.getD undef = v := by simpa using hq
  simp [results, h, hp', hq', asAddr, run_loadVar_row w g t ty cs fr d hg hu hd hi]
theorem results_cell_tmp2 {P : Program} {fn : Func} {p q r : Tmp} {ty : TypeId} (h : fn.results = #[.cell p ty, .tmp q, .tmp r]) (tmps : Array Value) (w : World) (g : Nat) (t : TypeId) (cs : Array Value) (fr : Nat × Nat) (d : TypeDesc) (v u : Value)
    (hp : tmps.getD p undef = .pointer (some ⟨g, 0, none⟩)) (hq : tmps.getD q undef = v) (hr : tmps.getD r undef = u) (hg : w.heap[g]? = some (.cells cs t fr))
    (hu : P.underlying ty = some d) (hd : (match d with | .struct _ | .array _ _ => true | _ => false) = true) (hi : (P.info? ty).map (·.size) = some cs.size) :
    (results fn tmps).run P w = .ok (.tuple #[.agg cs, v, u]) w := by
  have hp' : tmps[p]?.getD undef = .pointer (some ⟨g, 0, none⟩) := by simpa using hp
  have hq' : tmps[q]?.getD undef = v := by simpa using hq
  have hr' : tmps[r]?.getD undef = u := by simpa using hr
  simp [results, h, hp', hq', hr', asAddr, run_loadVar_row w g t ty cs fr d hg hu hd hi]
theorem results_cell2_tmp {P : Program} {fn : Func} {p p2 q : Tmp} {ty ty2 : TypeId} (h : fn.results = #[.cell p ty, .cell p2 ty2, .tmp q]) (tmps : Array Value) (w : World) (g g2 : Nat) (t t2 : TypeId) (cs cs2 : Array Value) (fr fr2 : Nat × Nat) (d d2 : TypeDesc) (v : Value)
    (hp : tmps.getD p undef = .pointer (some ⟨g, 0, none⟩)) (hp2 : tmps.getD p2 undef = .pointer (some ⟨g2, 0, none⟩)) (hq : tmps.getD q undef = v) (hg : w.heap[g]? = some (.cells cs t fr)) (hg2 : w.heap[g2]? = some (.cells cs2 t2 fr2))
    (hu : P.underlying ty = some d) (hd : (match d with | .struct _ | .array _ _ => true | _ => false) = true) (hi : (P.info? ty).map (·.size) = some cs.size)
    (hu2 : P.underlying ty2 = some d2) (hd2 : (match d2 with | .struct _ | .array _ _ => true | _ => false) = true) (hi2 : (P.info? ty2).map (·.size) = some cs2.size) :
    (results fn tmps).run P w = .ok (.tuple #[.agg cs, .agg cs2, v]) w := by
  have hp' : tmps[p]?.getD undef = .pointer (some ⟨g, 0, none⟩) := by simpa using hp
  have hpp : tmps[p2]?.getD undef = .pointer (some ⟨g2, 0, none⟩) := by simpa using hp2
  have hq' : tmps[q]?.getD undef = v := by simpa using hq
  simp [results, h, hp', hpp, hq', asAddr, run_loadVar_row w g t ty cs fr d hg hu hd hi, run_loadVar_row w g2 t2 ty2 cs2 fr2 d2 hg2 hu2 hd2 hi2]
end Go.Proofs.YtnhegnneohpkaaaGreat
