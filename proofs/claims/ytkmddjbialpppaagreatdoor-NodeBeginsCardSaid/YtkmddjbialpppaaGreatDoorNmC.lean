import Derived.Test.YtkmddjbialpppaaGreatDoorMgSmA
import Derived.Test.YtkmddjbialpppaaGreatDoorMgBxC
import Derived.Test.YtkmddjbialpppaaGreatDoorMgSnB
namespace Go.Proofs.YtkmddjbialpppaaGreatDoor
open Go.ChangeShapes Go.WideShapes Go.ChangeAt Go.RowKit
open ND
namespace ND
def Nm.calm (f : Nm) : Nm := { f with again := 0, next := 0, st := if f.wants = true then 3 else 4 }
def Nm.begin (f : Nm) : Nm := if f.rep = 0 then Nm.calm { f with quiet := f.hrd, left := 0 } else { f with quiet := f.hrd, left := 0, st := 2, again := f.rep, next := 0 }
def Nm.want (f : Nm) (on : Bool) : Nm := if f.wants = on then f else if f.st = 0 ∨ f.st = 1 then Nm.begin { f with wants := on } else if f.st = 3 ∨ f.st = 4 then Nm.calm { f with wants := on } else { f with wants := on }
end ND
theorem jM {W : World} {B : Nat} {f : Nm} {t : TypeId} (h : W.heap[B]? = some (.cells (bR f).toArray t (0, 0))) (j : Nat) : W.frozen? ⟨B, j, none⟩ = false := by simp [World.frozen?, h]
set_option maxRecDepth 100000 in
set_option maxHeartbeats 16000000 in
theorem nmNew_ok (a : Int) (b : Int) (c : Int) (d : Int) (w : World) (h : nmB ⟨0, false, 0, 0, 0, 0, a, b, c, d⟩ = true) :
    Calls Tryz.prog 30 #[.int .i64 a, .int .i64 b, .int .i64 c, .int .i64 d] w fun e w' => e = .returned (.tuple #[.agg (bR ⟨0, false, 0, 0, 0, 0, a, b, c, d⟩).toArray, .int .i64 0]) ∧ Below w.heap.size w w' := by
  have RT := aA (fun W => (fun W => kF ⟨0, false, 0, 0, 0, 0, a, b, c, d⟩ W h) W)
  unfold bR at RT
  go_enter Tryz.func30, Tryz.ntmps30
  go_wp2_with fail
  change Calls _ _ _ ((w.alloc (.cells (bR fZ).toArray 49)).alloc (.cells (bR ⟨0, false, 0, 0, 0, 0, a, b, c, d⟩).toArray 49)) _
  have R := World.alloc_heap_new w (.cells (bR fZ).toArray 49)
  have B := World.alloc_heap_new (w.alloc (.cells (bR fZ).toArray 49)) (.cells (bR ⟨0, false, 0, 0, 0, 0, a, b, c, d⟩).toArray 49)
  have q0 : Below w.heap.size w ((w.alloc (.cells (bR fZ).toArray 49)).alloc (.cells (bR ⟨0, false, 0, 0, 0, 0, a, b, c, d⟩).toArray 49)) := ((Below.refl _ _).alloc (Nat.le_refl _) _).alloc (by simp) _
  replace R := aB R ((Below.refl _ _).alloc (Nat.le_refl _) (.cells (bR ⟨0, false, 0, 0, 0, 0, a, b, c, d⟩).toArray 49))
  simp only [World.size_alloc] at B
  obtain ⟨w0, hw0⟩ : ∃ w0, w0 = (w.alloc (.cells (bR fZ).toArray 49)).alloc (.cells (bR ⟨0, false, 0, 0, 0, 0, a, b, c, d⟩).toArray 49) := ⟨_, rfl⟩
  rw [← hw0] at R B q0 ⊢
  clear hw0
  (with_reducible refine (RT.out _).mono ?_)
  rintro e1 w1 ⟨rfl, q1⟩
  have R1 := aA (show w1.heap[w.heap.size]? = some (.cells (bR fZ).toArray 49 (0, 0)) from aB R q1)
  have B1 := aA (show w1.heap[w.heap.size + 1]? = some (.cells (bR ⟨0, false, 0, 0, 0, 0, a, b, c, d⟩).toArray 49 (0, 0)) from aB B q1)
  have Q1 := aA (aC q0 q0.size q1)
  clear R B q0 q1 RT
  have T1 := aA (show w1.there w.heap.size 0 10 from aK (cs := bR fZ) R1.out)
  go_wp2_with (first | (refine wpList_load_row rfl 49 (.tmp 10) (by rfl) (w.heap.size + 1) (by rfl) 49 (bR ⟨0, false, 0, 0, 0, 0, a, b, c, d⟩).toArray (0, 0) _ (by exact B1.out) Tryz.underlying49 (by rfl) (by kernel_rfl) ?_) | (refine aF (by rfl) 49 (.tmp 8) (.tmp 20) (by rfl) w.heap.size 0 (bR ⟨0, false, 0, 0, 0, 0, a, b, c, d⟩) (by rfl) (by rfl) (by exact T1.out) (by kernel_rfl) (by simp [Value.oneCell', bR]) ?_))
  intro w2 e2
  have R2 := aA (show w2.heap[w.heap.size]? = some (.cells (bR ⟨0, false, 0, 0, 0, 0, a, b, c, d⟩).toArray 49 (0, 0)) by rw [e2.out]; exact aJ (bR ⟨0, false, 0, 0, 0, 0, a, b, c, d⟩) (xs := bR fZ) R1.out rfl)
  have Q2 := aA (show Below w.heap.size w w2 by rw [e2.out]; exact Q1.out.trans (aE _ _ _ (by have := Q1.out.size; omega)))
  clear e2 T1 R1 B1 Q1
  go_wp2_with fail
  refine bodyPost_ret (aP (by rfl) _ w2 w.heap.size 49 (bR ⟨0, false, 0, 0, 0, 0, a, b, c, d⟩).toArray (0, 0) _ (.int .i64 0) (by rfl) (by rfl) R2.out Tryz.underlying49 (by rfl) (by kernel_rfl)) rfl ⟨rfl, Q2.out⟩
set_option maxRecDepth 100000 in
set_option maxHeartbeats 8000000 in
theorem nmCall1 (f g : Nm) (w : World) (hf : nmB f = true) (fid : Nat) (p : Nat) (hpw : p < w.heap.size) (v : Value) (hp : ∀ (args : Array Value) (W : World), (callFunc fid args).run Tryz.prog W = .ok (.enter fid args) W)
    (hdo : Hid (∀ W, W.heap[w.heap.size]? = some (.cells (bR f).toArray 49 (0, 0)) → Below w.heap.size w W → Calls Tryz.prog fid #[.pointer (some ⟨w.heap.size, 0, none⟩), .pointer (some ⟨p, 0, none⟩)] W fun e W' => e = .returned (.tuple #[]) ∧ W'.heap[w.heap.size]? = some (.cells (bR g).toArray 49 (0, 0)) ∧ W'.heap[p]? = some (.cells #[v] 4 (0, 0)) ∧ Kp (fun k => k = w.heap.size ∨ k = p) W W')) :
    Calls Tryz.prog 109 #[.agg (bR f).toArray, .func (.func fid) #[] #[.pointer (some ⟨p, 0, none⟩)]] w fun e w' => e = .returned (.tuple #[.agg (bR g).toArray, .int .i64 0]) ∧ w'.heap[p]? = some (.cells #[v] 4 (0, 0)) ∧ Kp (fun k => k = p) w w' := by
  obtain ⟨w0, hw0⟩ : ∃ w0, w0 = (w.alloc (.cells (bR f).toArray 49)).alloc (.cells (bR fZ).toArray 49) := ⟨_, rfl⟩
  have B := aA (aB (World.alloc_heap_new w (.cells (bR f).toArray 49)) ((Below.refl _ (w.alloc (.cells (bR f).toArray 49))).alloc (Nat.le_refl _) (.cells (bR fZ).toArray 49)))
  have R := aA (World.alloc_heap_new (w.alloc (.cells (bR f).toArray 49)) (.cells (bR fZ).toArray 49))
  have Q : Hid (Below w.heap.size w w0) := by rw [hw0]; exact aA (((Below.refl w.heap.size w).alloc (Nat.le_refl _) (.cells (bR f).toArray 49)).alloc (by simp; try omega) (.cells (bR fZ).toArray 49))
  rw [← hw0] at B R
  simp only [World.size_alloc] at R
  have RT := aA (kF f w0 hf)
  clear hf
  go_enter Tryz.func109, Tryz.ntmps109
  go_upto_region 1 with fail
  change Code.wp _ _ _ _ ((w.alloc (.cells (bR f).toArray 49)).alloc (.cells (bR fZ).toArray 49))
  rw [← hw0]
  clear hw0
  go_wp2_with (refine wpList_load_row rfl 49 (.tmp 2) (by rfl) w.heap.size (by rfl) 49 (bR f).toArray (0, 0) _ (by exact B.out) Tryz.underlying49 (by rfl) (by kernel_rfl) ?_)
  (with_reducible refine (RT.out).mono ?_)
  rintro ew1' w1' ⟨rfl, qw1'⟩
  replace B := aA (aB B.out qw1')
  replace R := aA (aB R.out qw1')
  replace Q := aA (aC Q.out Q.out.size qw1')
  clear qw1'
  clear RT
  go_wp2_with fail
  (with_reducible refine (hdo.out w1' B.out Q.out).mono ?_)
  rintro e9 w9 ⟨rfl, b9, p9, k9⟩
  have zR := aH R.out
  replace R := aA (k9.heap R.out (by omega))
  replace B := aA b9
  have K := aA (show Kp (fun k => k = p) w w9 from ⟨k9.os.trans Q.out.os, k9.tape.trans Q.out.tape, k9.output.trans Q.out.output, Nat.le_trans Q.out.size k9.size, fun k hk hs => (k9.block k (by have := Q.out.size; omega) (fun h => by rcases h with h | h; omega; exact hs h)).trans (Q.out.block k hk)⟩)
  have P := aA p9
  clear p9 Q
  clear b9 k9 zR hdo hp
  have TR := aA (show World.there _ (w.heap.size + 1) 0 10 from aK (cs := bR fZ) R.out)
  go_wp2_with (first | (refine wpList_load_row rfl 49 (.tmp 2) (by rfl) w.heap.size (by rfl) 49 (bR g).toArray (0, 0) _ (by exact B.out) Tryz.underlying49 (by rfl) (by kernel_rfl) ?_) | (refine aF (by rfl) 49 (.tmp 4) (.tmp 12) (by rfl) (w.heap.size + 1) 0 (bR g) (by rfl) (by rfl) (by exact TR.out) (by kernel_rfl) (by simp [Value.oneCell', bR]) ?_))
  intro w6 e6
  have R6 := aA (show w6.heap[w.heap.size + 1]? = some (.cells (bR g).toArray 49 (0, 0)) by rw [e6.out]; exact aJ (bR g) (xs := bR fZ) R.out rfl)
  have P6 := aA (show w6.heap[p]? = some (.cells #[v] 4 (0, 0)) by rw [e6.out]; exact aG (by omega) _ _ _ P.out)
  have K6 := aA (show Kp (fun k => k = p) w w6 by
    rw [e6.out]
    have h := aE (B := w.heap.size) (bR g) 0 w9 (show w.heap.size ≤ w.heap.size + 1 by omega)
    exact ⟨h.os.trans K.out.os, h.tape.trans K.out.tape, h.output.trans K.out.output, Nat.le_trans K.out.size h.size, fun k hk hs => (h.block k hk).trans (K.out.block k hk hs)⟩)
  clear e6 TR R B P K
  go_wp2_with fail
  refine bodyPost_ret (aP (by rfl) _ w6 (w.heap.size + 1) 49 (bR g).toArray (0, 0) _ (.int .i64 0) (by rfl) (by rfl) R6.out Tryz.underlying49 (by rfl) (by kernel_rfl)) rfl ⟨rfl, P6.out, K6.out⟩
set_option maxRecDepth 100000 in
set_option maxHeartbeats 8000000 in
theorem nmCalm (f : Nm) (B : Nat) (W : World) (hB : W.heap[B]? = some (.cells (bR f).toArray 49 (0, 0))) :
    Calls Tryz.prog 112 #[.pointer (some ⟨B, 0, none⟩)] W fun e W' => e = .returned (.tuple #[]) ∧ W'.heap[B]? = some (.cells (bR f.calm).toArray 49 (0, 0)) ∧ Kp (fun k => k = B) W W' := by
  have HB := aA hB
  obtain ⟨c0, c1, c2, c3, c4, c5, c6, c7, c8, c9⟩ := fR hB
  have f4 := jM hB
  clear hB
  cases hw : f.wants with
  | false =>
    have hg : f.calm = { f with again := 0, next := 0, st := 4 } := by unfold Nm.calm; rw [hw]; rfl
    rw [hw] at c1
    rw [hg]
    clear hg hw
    go_enter Tryz.func112, Tryz.ntmps112
    go_wp2
    have H1 := aU [.int .i64 0] (bR f) 2 _ HB.out
    have H2 := aU [.int .i64 0] _ 3 _ H1
    have H3 := aU [.int .i64 4] _ 0 _ H2
    go_end0
    exact ⟨rfl, H3, (((Kp.setC (S := fun k => k = B) _ _ _ _ rfl).trans (Kp.setC (S := fun k => k = B) _ _ _ _ rfl)).trans (Kp.setC (S := fun k => k = B) _ _ _ _ rfl))⟩
  | true =>
    have hg : f.calm = { f with again := 0, next := 0, st := 3 } := by unfold Nm.calm; rw [hw]; rfl
    rw [hw] at c1
    rw [hg]
    clear hg hw
    go_enter Tryz.func112, Tryz.ntmps112
    go_wp2
    have H1 := aU [.int .i64 0] (bR f) 2 _ HB.out
    have H2 := aU [.int .i64 0] _ 3 _ H1
    have H3 := aU [.int .i64 4] _ 0 _ H2
    have H4 := aU [.int .i64 3] _ 0 _ H3
    go_end0
    exact ⟨rfl, H4, ((((Kp.setC (S := fun k => k = B) _ _ _ _ rfl).trans (Kp.setC (S := fun k => k = B) _ _ _ _ rfl)).trans (Kp.setC (S := fun k => k = B) _ _ _ _ rfl)).trans (Kp.setC (S := fun k => k = B) _ _ _ _ rfl))⟩
set_option maxRecDepth 100000 in
set_option maxHeartbeats 8000000 in
theorem nmBegin (f : Nm) (B : Nat) (W : World) (hB : W.heap[B]? = some (.cells (bR f).toArray 49 (0, 0))) :
    Calls Tryz.prog 111 #[.pointer (some ⟨B, 0, none⟩)] W fun e W' => e = .returned (.tuple #[]) ∧ W'.heap[B]? = some (.cells (bR f.begin).toArray 49 (0, 0)) ∧ Kp (fun k => k = B) W W' := by
  have HB := aA hB
  have CA := aA nmCalm
  obtain ⟨c0, c1, c2, c3, c4, c5, c6, c7, c8, c9⟩ := fR hB
  have f4 := jM hB
  clear hB
  by_cases hr : f.rep = 0
  · have hg : f.begin = Nm.calm { f with quiet := f.hrd, left := 0 } := by unfold Nm.begin; rw [if_pos hr]
    rw [hr] at c6
    rw [hg]
    clear hg hr
    go_enter Tryz.func111, Tryz.ntmps111
    go_wp2_with fail
    have H2 := aA (show ((W.setCell ⟨B, 4, none⟩ (.int .i64 f.hrd)).setCell ⟨B, 5, none⟩ (.int .i64 0)).heap[B]? = some (.cells (bR { f with quiet := f.hrd, left := 0 }).toArray 49 (0, 0)) from aU [.int .i64 0] _ 5 _ (aU [.int .i64 f.hrd] (bR f) 4 _ HB.out))
    (with_reducible refine (CA.out { f with quiet := f.hrd, left := 0 } B _ (by exact H2.out)).mono ?_)
    rintro e1 w1 ⟨rfl, b1, k1⟩
    have HB1 := aA b1
    have HK := aA (((Kp.setC (S := fun k => k = B) _ _ _ _ rfl).trans (Kp.setC (S := fun k => k = B) _ _ _ _ rfl)).trans k1)
    clear b1 k1 c0 c1 c2 c3 c4 c5 c6 c7 c8 c9 f4 H2
    go_wp2_with fail
    refine bodyPost_ret (results_none (by rfl) _ _ _) rfl ⟨rfl, HB1.out, HK.out⟩
  · have hg : f.begin = { f with quiet := f.hrd, left := 0, st := 2, again := f.rep, next := 0 } := by unfold Nm.begin; rw [if_neg hr]
    rw [hg]
    have hr2 : (f.rep == 0) = false := beq_eq_false_iff_ne.2 hr
    clear hg hr
    go_enter Tryz.func111, Tryz.ntmps111
    go_wp2_with fail
    have H1 := aU [.int .i64 f.hrd] (bR f) 4 _ HB.out
    have H2 := aU [.int .i64 0] _ 5 _ H1
    have H3 := aU [.int .i64 2] _ 0 _ H2
    have H4 := aU [.int .i64 f.rep] _ 2 _ H3
    have H5 := aU [.int .i64 0] _ 3 _ H4
    go_end0
    exact ⟨rfl, H5, (((((Kp.setC (S := fun k => k = B) _ _ _ _ rfl).trans (Kp.setC (S := fun k => k = B) _ _ _ _ rfl)).trans (Kp.setC (S := fun k => k = B) _ _ _ _ rfl)).trans (Kp.setC (S := fun k => k = B) _ _ _ _ rfl)).trans (Kp.setC (S := fun k => k = B) _ _ _ _ rfl))⟩
set_option maxRecDepth 100000 in
set_option maxHeartbeats 8000000 in
theorem nmWant1 (f : Nm) (B p : Nat) (on : Bool) (W : World) (hB : W.heap[B]? = some (.cells (bR f).toArray 49 (0, 0))) (hp : W.heap[p]? = some (.cells #[.bool on] 4 (0, 0))) (hs : 0 ≤ f.st ∧ f.st ≤ 4) :
    Calls Tryz.prog 110 #[.pointer (some ⟨B, 0, none⟩), .pointer (some ⟨p, 0, none⟩)] W fun e W' => e = .returned (.tuple #[]) ∧ W'.heap[B]? = some (.cells (bR (f.want on)).toArray 49 (0, 0)) ∧ W'.heap[p]? = some (.cells #[.bool on] 4 (0, 0)) ∧ Kp (fun k => k = B ∨ k = p) W W' := by
  have HB := aA hB
  have HP := aA hp
  have CA := aA nmCalm
  have BE := aA nmBegin
  have hb : B ≠ p := fun e => by
    subst e
    rw [hB] at hp
    injection hp with hp
    injection hp with hp _ _
    exact absurd (congrArg Array.size hp) (by simp [bR])
  have hb' : p ≠ B := fun e => hb e.symm
  have e1 := fun s : InW W => s.cell (aH hB) (fR hB).2.1
  have e7 := fun s : InW W => s.cell (aH hp) (bE hp).1
  clear hB hp
  by_cases hw : f.wants = on
  · have hg : f.want on = f := if_pos hw
    rw [hg]
    have hbb : (f.wants == on) = true := by rw [hw]; simp
    clear hg hw
    go_enter Tryz.func110, Tryz.ntmps110
    go_wp2_with fail
    refine bF (by kernel_rfl) (by kernel_rfl) ?_
    repeat (go_big_quiet_step (fail))
    refine wpQuiet_nil ?_
    rintro V ⟨⟨_, q2⟩, rfl⟩
    clear e1 e7
    have HV := aB HB.out q2
    have HVP := aB HP.out q2
    have KQ := aA (show Kp (fun k => k = B ∨ k = p) W V from Kp.of q2)
    clear q2
    obtain ⟨c0, c1, c2, c3, c4, c5, c6, c7, c8, c9⟩ := fR HV
    have f4 := jM HV
    obtain ⟨d0, d1⟩ := bE HVP
    replace HV := aA HV
    replace HVP := aA HVP
    go_wp2_with fail
    refine bodyPost_ret (results_none (by rfl) _ _ _) rfl ⟨rfl, HV.out, HVP.out, KQ.out⟩
  have hbb : (f.wants == on) = false := beq_eq_false_iff_ne.2 hw
  have hor := aA (fun (W1 W2 : World) (k : Kp (fun k => k = B) W1 W2) => show Kp (fun k => k = B ∨ k = p) W1 W2 from k.mono (fun _ _ h => .inl h))
  obtain ⟨hs0, hs4⟩ := hs
  by_cases h01 : f.st = 0 ∨ f.st = 1
  · have hg : f.want on = Nm.begin { f with wants := on } := by unfold Nm.want; rw [if_neg hw, if_pos h01]
    rw [hg]
    clear hg hw
    rcases h01 with h | h
    all_goals
      clear hs0 hs4
      go_enter Tryz.func110, Tryz.ntmps110
      go_wp2_with fail
      refine bF (by kernel_rfl) (by kernel_rfl) ?_
      repeat (go_big_quiet_step (fail))
      refine wpQuiet_nil ?_
      rintro V ⟨⟨_, q2⟩, rfl⟩
      clear e1 e7
      have HV := aB HB.out q2
      have HVP := aB HP.out q2
      have KQ := aA (show Kp (fun k => k = B ∨ k = p) W V from Kp.of q2)
      clear q2
      obtain ⟨c0, c1, c2, c3, c4, c5, c6, c7, c8, c9⟩ := fR HV
      have f4 := jM HV
      obtain ⟨d0, d1⟩ := bE HVP
      rw [h] at c0
      replace HV := aA HV
      replace HVP := aA HVP
      clear h
      go_wp2_with fail
      have W1 := aA (show (V.setCell ⟨B, 1, none⟩ (.bool on)).heap[B]? = some (.cells (bR { f with wants := on }).toArray 49 (0, 0)) from aU [.bool on] (bR f) 1 _ HV.out)
      have P1 := aA (show (V.setCell ⟨B, 1, none⟩ (.bool on)).heap[p]? = some (.cells #[.bool on] 4 (0, 0)) from aG hb' [.bool on] 1 _ HVP.out)
      have K1 := aA (show Kp (fun k => k = B ∨ k = p) W (V.setCell ⟨B, 1, none⟩ (.bool on)) from KQ.out.trans (Kp.setC (S := fun k => k = B ∨ k = p) _ _ _ _ (.inl rfl)))
      (with_reducible refine (BE.out { f with wants := on } B _ (by exact W1.out)).mono ?_)
      rintro e1 w1 ⟨rfl, b1, k1⟩
      have HB1 := aA b1
      have HP1 := aA (k1.heap P1.out hb')
      have HK := aA (K1.out.trans (hor.out _ _ k1))
      clear b1 k1 c0 c1 c2 c3 c4 c5 c6 c7 c8 c9 f4 W1 P1 K1 d0 d1
      go_wp2_with fail
      go_end0
      exact ⟨rfl, HB1.out, HP1.out, HK.out⟩
  by_cases h34 : f.st = 3 ∨ f.st = 4
  · have hg : f.want on = Nm.calm { f with wants := on } := by unfold Nm.want; rw [if_neg hw, if_neg h01, if_pos h34]
    rw [hg]
    clear hg hw h01
    rcases h34 with h | h
    all_goals
      clear hs0 hs4
      go_enter Tryz.func110, Tryz.ntmps110
      go_wp2_with fail
      refine bF (by kernel_rfl) (by kernel_rfl) ?_
      repeat (go_big_quiet_step (fail))
      refine wpQuiet_nil ?_
      rintro V ⟨⟨_, q2⟩, rfl⟩
      clear e1 e7
      have HV := aB HB.out q2
      have HVP := aB HP.out q2
      have KQ := aA (show Kp (fun k => k = B ∨ k = p) W V from Kp.of q2)
      clear q2
      obtain ⟨c0, c1, c2, c3, c4, c5, c6, c7, c8, c9⟩ := fR HV
      have f4 := jM HV
      obtain ⟨d0, d1⟩ := bE HVP
      rw [h] at c0
      replace HV := aA HV
      replace HVP := aA HVP
      clear h
      go_wp2_with fail
      have W1 := aA (show (V.setCell ⟨B, 1, none⟩ (.bool on)).heap[B]? = some (.cells (bR { f with wants := on }).toArray 49 (0, 0)) from aU [.bool on] (bR f) 1 _ HV.out)
      have P1 := aA (show (V.setCell ⟨B, 1, none⟩ (.bool on)).heap[p]? = some (.cells #[.bool on] 4 (0, 0)) from aG hb' [.bool on] 1 _ HVP.out)
      have K1 := aA (show Kp (fun k => k = B ∨ k = p) W (V.setCell ⟨B, 1, none⟩ (.bool on)) from KQ.out.trans (Kp.setC (S := fun k => k = B ∨ k = p) _ _ _ _ (.inl rfl)))
      (with_reducible refine (CA.out { f with wants := on } B _ (by exact W1.out)).mono ?_)
      rintro e1 w1 ⟨rfl, b1, k1⟩
      have HB1 := aA b1
      have HP1 := aA (k1.heap P1.out hb')
      have HK := aA (K1.out.trans (hor.out _ _ k1))
      clear b1 k1 c0 c1 c2 c3 c4 c5 c6 c7 c8 c9 f4 W1 P1 K1 d0 d1
      go_wp2_with fail
      go_end0
      exact ⟨rfl, HB1.out, HP1.out, HK.out⟩
  have hg : f.want on = { f with wants := on } := by unfold Nm.want; rw [if_neg hw, if_neg h01, if_neg h34]
  rw [hg]
  have h : f.st = 2 := by omega
  clear hg hw h01 h34 hs0 hs4
  go_enter Tryz.func110, Tryz.ntmps110
  go_wp2
  refine bF (by kernel_rfl) (by kernel_rfl) ?_
  repeat (go_big_quiet_step (fail))
  refine wpQuiet_nil ?_
  rintro V ⟨⟨_, q2⟩, rfl⟩
  clear e1 e7
  have HV := aB HB.out q2
  have HVP := aB HP.out q2
  have KQ := aA (show Kp (fun k => k = B ∨ k = p) W V from Kp.of q2)
  clear q2
  obtain ⟨c0, c1, c2, c3, c4, c5, c6, c7, c8, c9⟩ := fR HV
  have f4 := jM HV
  obtain ⟨d0, d1⟩ := bE HVP
  rw [h] at c0
  replace HV := aA HV
  replace HVP := aA HVP
  clear h
  go_wp2
  have W1 := aA (show (V.setCell ⟨B, 1, none⟩ (.bool on)).heap[B]? = some (.cells (bR { f with wants := on }).toArray 49 (0, 0)) from aU [.bool on] (bR f) 1 _ HV.out)
  have P1 := aA (show (V.setCell ⟨B, 1, none⟩ (.bool on)).heap[p]? = some (.cells #[.bool on] 4 (0, 0)) from aG hb' [.bool on] 1 _ HVP.out)
  have K1 := aA (show Kp (fun k => k = B ∨ k = p) W (V.setCell ⟨B, 1, none⟩ (.bool on)) from KQ.out.trans (Kp.setC (S := fun k => k = B ∨ k = p) _ _ _ _ (.inl rfl)))
  go_end0
  exact ⟨rfl, W1.out, P1.out, K1.out⟩
set_option maxRecDepth 100000 in
set_option maxHeartbeats 8000000 in
theorem nmWant_ok (f : Nm) (on : Bool) (w : World) (hf : nmB f = true) :
    Calls Tryz.prog 59 #[.agg (bR f).toArray, .bool on] w fun e w' => e = .returned (.tuple #[.agg (bR (f.want on)).toArray, .int .i64 0]) ∧ Below w.heap.size w w' := by
  obtain ⟨w0, hw0⟩ : ∃ w0, w0 = ((w.alloc (.cells (bR f).toArray 49)).alloc (.cells ([.bool on]).toArray 4)).alloc (.cells (bR fZ).toArray 49) := ⟨_, rfl⟩
  have B := aA (aB (aB (World.alloc_heap_new w (.cells (bR f).toArray 49)) ((Below.refl _ (w.alloc (.cells (bR f).toArray 49))).alloc (Nat.le_refl _) (.cells ([.bool on]).toArray 4))) ((Below.refl _ ((w.alloc (.cells (bR f).toArray 49)).alloc (.cells ([.bool on]).toArray 4))).alloc (Nat.le_refl _) (.cells (bR fZ).toArray 49)))
  have P := aA (aB (World.alloc_heap_new (w.alloc (.cells (bR f).toArray 49)) (.cells ([.bool on]).toArray 4)) ((Below.refl _ ((w.alloc (.cells (bR f).toArray 49)).alloc (.cells ([.bool on]).toArray 4))).alloc (Nat.le_refl _) (.cells (bR fZ).toArray 49)))
  have R := aA (World.alloc_heap_new ((w.alloc (.cells (bR f).toArray 49)).alloc (.cells ([.bool on]).toArray 4)) (.cells (bR fZ).toArray 49))
  have Q : Hid (Below w.heap.size w w0) := by rw [hw0]; exact aA ((((Below.refl w.heap.size w).alloc (Nat.le_refl _) (.cells (bR f).toArray 49)).alloc (by simp; try omega) (.cells ([.bool on]).toArray 4)).alloc (by simp; try omega) (.cells (bR fZ).toArray 49))
  rw [← hw0] at B P R
  simp only [World.size_alloc] at P R
  replace R := aA (show w0.heap[w.heap.size + 2]? = some (.cells (bR fZ).toArray 49 (0, 0)) from R.out)
  have hs : 0 ≤ f.st ∧ f.st ≤ 4 := by
    unfold nmB at hf
    simp only [Bool.and_eq_true] at hf
    exact b8 hf.2.2.2.2.1
  have CL := aA (nmCall1 f (f.want on) w0 hf 110 (w.heap.size + 1) (aH P.out) (.bool on) (fun args W => by kernel_rfl) (aA fun W hB q => nmWant1 f _ (w.heap.size + 1) on W hB (aB P.out q) hs))
  clear hf hs
  go_enter Tryz.func59, Tryz.ntmps59
  go_upto_region 1 with fail
  change Code.wp _ _ _ _ (((w.alloc (.cells (bR f).toArray 49)).alloc (.cells ([.bool on]).toArray 4)).alloc (.cells (bR fZ).toArray 49))
  rw [← hw0]
  clear hw0
  go_wp2_with (refine wpList_load_row rfl 49 (.tmp 2) (by rfl) w.heap.size (by rfl) 49 (bR f).toArray (0, 0) _ (by exact B.out) Tryz.underlying49 (by rfl) (by kernel_rfl) ?_)
  (with_reducible refine (CL.out).mono ?_)
  rintro e1 w1 ⟨rfl, p1, k1⟩
  have zR := aH R.out
  replace R := aA (k1.heap R.out (by omega))
  replace Q := aA (Q.out.trans (k1.below (B := w.heap.size) (fun k h => by omega) Q.out.size))
  clear CL B P k1 p1 zR
  have Tw1' := aA (show World.there _ (w.heap.size + 2) 0 10 from aK (cs := bR fZ) R.out)
  go_wp2_with (refine aF (by rfl) 49 (.tmp 4) (.tmp 9) (by rfl) (w.heap.size + 2) 0 (bR (f.want on)) (by rfl) (by rfl) (by exact Tw1'.out) (by kernel_rfl) (by simp [Value.oneCell', bR]) ?_)
  intro w1' ew1'
  replace Q := aA (show Below w.heap.size w w1' by rw [ew1'.out]; exact Q.out.trans (aE _ _ _ (by have := Q.out.size; omega)))
  replace R := aA (show w1'.heap[w.heap.size + 2]? = some (.cells (bR (f.want on)).toArray 49 (0, 0)) by rw [ew1'.out]; exact aJ (bR (f.want on)) (xs := bR fZ) R.out rfl)
  clear ew1' Tw1'
  go_wp2_with fail
  refine bodyPost_ret (aP (by rfl) _ w1' (w.heap.size + 2) 49 (bR (f.want on)).toArray (0, 0) _ (.int .i64 0) (by rfl) (by rfl) R.out Tryz.underlying49 (by rfl) (by kernel_rfl)) rfl ⟨rfl, Q.out⟩
end Go.Proofs.YtkmddjbialpppaaGreatDoor
