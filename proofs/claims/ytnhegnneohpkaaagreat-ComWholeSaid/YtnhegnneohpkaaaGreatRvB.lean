/- recv.Start, Got, Tick of a watch that may be. -/
import Derived.Test.YtnhegnneohpkaaaGreatMgOff
import Derived.Test.YtnhegnneohpkaaaGreatMgPdX
import Derived.Test.YtnhegnneohpkaaaGreatCxP
namespace Go.Proofs.YtnhegnneohpkaaaGreat
open Go.ChangeShapes Go.WideShapes Go.ChangeAt Go.RowKit
open CM PD SG

theorem wt_cells2 {W : World} {B : Nat} {f : Wt} {t : TypeId} {fz : Nat × Nat} (h : W.heap[B]? = some (.cells (wtcL f).toArray t fz)) :
    W.cell? ⟨B, 0, none⟩ = some (.int .i64 f.first) ∧ W.cell? ⟨B, 1, none⟩ = some (.int .i64 f.each) ∧ W.cell? ⟨B, 2, none⟩ = some (.int .i64 f.left) ∧ W.cell? ⟨B, 3, none⟩ = some (.bool f.on) ∧ W.cell? ⟨B, 4, none⟩ = some (.bool f.late) := by
  simp [World.cell?, h, wtcL]
theorem wt_free {W : World} {B : Nat} {f : Wt} {t : TypeId} (h : W.heap[B]? = some (.cells (wtcL f).toArray t (0, 0))) (j : Nat) : W.frozen? ⟨B, j, none⟩ = false := by simp [World.frozen?, h]
theorem recvRight_l (f : Wt) (w : World) (h : wtB f = true) : Calls Tryz.prog 60 #[.agg (wtcL f).toArray] w fun e w' => e = .returned (.bool true) ∧ Below w.heap.size w w' := by
  have := recvRight_any f w
  rwa [h] at this

set_option maxRecDepth 100000 in
set_option maxHeartbeats 8000000 in
theorem rvCall0 (f g : Wt) (w : World) (hf : wtB f = true) (fid : Nat) (hp : ∀ (args : Array Value) (W : World), (callFunc fid args).run Tryz.prog W = .ok (.enter fid args) W)
    (hdo : Hid (∀ W, W.heap[w.heap.size]? = some (.cells (wtcL f).toArray 45 (0, 0)) → Below w.heap.size w W → Calls Tryz.prog fid #[.pointer (some ⟨w.heap.size, 0, none⟩)] W fun e W' => e = .returned (.tuple #[]) ∧ W'.heap[w.heap.size]? = some (.cells (wtcL g).toArray 45 (0, 0)) ∧ Kp (fun k => k = w.heap.size) W W')) :
    Calls Tryz.prog 61 #[.agg (wtcL f).toArray, .func (.func fid) #[] #[]] w fun e w' => e = .returned (.tuple #[.agg (wtcL g).toArray, .int .i64 0]) ∧ Below w.heap.size w w' := by
  obtain ⟨w0, hw0⟩ : ∃ w0, w0 = (w.alloc (.cells (wtcL f).toArray 45)).alloc (.cells (wtcL zWt).toArray 45) := ⟨_, rfl⟩
  have B := hide (heap_below (World.alloc_heap_new w (.cells (wtcL f).toArray 45)) ((Below.refl _ (w.alloc (.cells (wtcL f).toArray 45))).alloc (Nat.le_refl _) (.cells (wtcL zWt).toArray 45)))
  have R := hide (World.alloc_heap_new (w.alloc (.cells (wtcL f).toArray 45)) (.cells (wtcL zWt).toArray 45))
  have Q : Hid (Below w.heap.size w w0) := by rw [hw0]; exact hide (((Below.refl w.heap.size w).alloc (Nat.le_refl _) (.cells (wtcL f).toArray 45)).alloc (by simp; try omega) (.cells (wtcL zWt).toArray 45))
  rw [← hw0] at B R
  simp only [World.size_alloc] at R
  have RT := hide (recvRight_l f w0 hf)
  clear hf
  go_enter Tryz.func61, Tryz.ntmps61
  go_upto_region 1 with fail
  change Code.wp _ _ _ _ ((w.alloc (.cells (wtcL f).toArray 45)).alloc (.cells (wtcL zWt).toArray 45))
  rw [← hw0]
  clear hw0
  go_wp2_with (refine wpList_load_row rfl 45 (.tmp 2) (by rfl) w.heap.size (by rfl) 45 (wtcL f).toArray (0, 0) _ (by exact B.out) Tryz.underlying45 (by rfl) (by kernel_rfl) ?_)
  (with_reducible refine (RT.out).mono ?_)
  rintro ew1' w1' ⟨rfl, qw1'⟩
  replace B := hide (heap_below B.out qw1')
  replace R := hide (heap_below R.out qw1')
  replace Q := hide (below_next Q.out Q.out.size qw1')
  clear qw1'
  clear RT
  go_wp2_with fail
  (with_reducible refine (hdo.out w1' B.out Q.out).mono ?_)
  rintro e9 w9 ⟨rfl, b9, k9⟩
  have zR := heap_lt R.out
  replace R := hide (k9.heap R.out (by omega))
  replace B := hide b9
  replace Q := hide (Q.out.trans (k9.below (B := w.heap.size) (fun k h => by omega) Q.out.size))
  clear b9 k9 zR hdo hp
  have Tw2' := hide (show World.there _ (w.heap.size + 1) 0 5 from there_heap (cs := wtcL zWt) R.out)
  go_wp2_with (first | (refine wpList_load_row rfl 45 (.tmp 2) (by rfl) w.heap.size (by rfl) 45 (wtcL g).toArray (0, 0) _ (by exact B.out) Tryz.underlying45 (by rfl) (by kernel_rfl) ?_) | (refine wpList_store_hid (by rfl) 45 (.tmp 4) (.tmp 12) (by rfl) (w.heap.size + 1) 0 (wtcL g) (by rfl) (by rfl) (by exact Tw2'.out) (by kernel_rfl) (by simp [Value.oneCell', wtcL]) ?_))
  intro w2' ew2'
  replace B := hide (show w2'.heap[w.heap.size]? = some (.cells (wtcL g).toArray 45 (0, 0)) by rw [ew2'.out]; exact other_heap (by omega) _ _ _ B.out)
  replace Q := hide (show Below w.heap.size w w2' by rw [ew2'.out]; exact Q.out.trans (below_setCells _ _ _ (by have := Q.out.size; omega)))
  replace R := hide (show w2'.heap[w.heap.size + 1]? = some (.cells (wtcL g).toArray 45 (0, 0)) by rw [ew2'.out]; exact whole_heap (wtcL g) (xs := wtcL zWt) R.out rfl)
  clear ew2' Tw2'
  go_wp2_with fail
  refine bodyPost_ret (results_cell_tmp (by rfl) _ w2' (w.heap.size + 1) 45 (wtcL g).toArray (0, 0) _ (.int .i64 0) (by rfl) (by rfl) R.out Tryz.underlying45 (by rfl) (by kernel_rfl)) rfl ⟨rfl, Q.out⟩

set_option maxRecDepth 100000 in
set_option maxHeartbeats 8000000 in
theorem rvCall1 (f g : Wt) (w : World) (hf : wtB f = true) (fid : Nat) (p : Nat) (hpw : p < w.heap.size) (v : Value) (hp : ∀ (args : Array Value) (W : World), (callFunc fid args).run Tryz.prog W = .ok (.enter fid args) W)
    (hdo : Hid (∀ W, W.heap[w.heap.size]? = some (.cells (wtcL f).toArray 45 (0, 0)) → Below w.heap.size w W → Calls Tryz.prog fid #[.pointer (some ⟨w.heap.size, 0, none⟩), .pointer (some ⟨p, 0, none⟩)] W fun e W' => e = .returned (.tuple #[]) ∧ W'.heap[w.heap.size]? = some (.cells (wtcL g).toArray 45 (0, 0)) ∧ W'.heap[p]? = some (.cells #[v] 4 (0, 0)) ∧ Kp (fun k => k = w.heap.size ∨ k = p) W W')) :
    Calls Tryz.prog 61 #[.agg (wtcL f).toArray, .func (.func fid) #[] #[.pointer (some ⟨p, 0, none⟩)]] w fun e w' => e = .returned (.tuple #[.agg (wtcL g).toArray, .int .i64 0]) ∧ w'.heap[p]? = some (.cells #[v] 4 (0, 0)) ∧ Kp (fun k => k = p) w w' := by
  obtain ⟨w0, hw0⟩ : ∃ w0, w0 = (w.alloc (.cells (wtcL f).toArray 45)).alloc (.cells (wtcL zWt).toArray 45) := ⟨_, rfl⟩
  have B := hide (heap_below (World.alloc_heap_new w (.cells (wtcL f).toArray 45)) ((Below.refl _ (w.alloc (.cells (wtcL f).toArray 45))).alloc (Nat.le_refl _) (.cells (wtcL zWt).toArray 45)))
  have R := hide (World.alloc_heap_new (w.alloc (.cells (wtcL f).toArray 45)) (.cells (wtcL zWt).toArray 45))
  have Q : Hid (Below w.heap.size w w0) := by rw [hw0]; exact hide (((Below.refl w.heap.size w).alloc (Nat.le_refl _) (.cells (wtcL f).toArray 45)).alloc (by simp; try omega) (.cells (wtcL zWt).toArray 45))
  rw [← hw0] at B R
  simp only [World.size_alloc] at R
  have RT := hide (recvRight_l f w0 hf)
  clear hf
  go_enter Tryz.func61, Tryz.ntmps61
  go_upto_region 1 with fail
  change Code.wp _ _ _ _ ((w.alloc (.cells (wtcL f).toArray 45)).alloc (.cells (wtcL zWt).toArray 45))
  rw [← hw0]
  clear hw0
  go_wp2_with (refine wpList_load_row rfl 45 (.tmp 2) (by rfl) w.heap.size (by rfl) 45 (wtcL f).toArray (0, 0) _ (by exact B.out) Tryz.underlying45 (by rfl) (by kernel_rfl) ?_)
  (with_reducible refine (RT.out).mono ?_)
  rintro ew1' w1' ⟨rfl, qw1'⟩
  replace B := hide (heap_below B.out qw1')
  replace R := hide (heap_below R.out qw1')
  replace Q := hide (below_next Q.out Q.out.size qw1')
  clear qw1'
  clear RT
  go_wp2_with fail
  (with_reducible refine (hdo.out w1' B.out Q.out).mono ?_)
  rintro e9 w9 ⟨rfl, b9, p9, k9⟩
  have zR := heap_lt R.out
  replace R := hide (k9.heap R.out (by omega))
  replace B := hide b9
  have K := hide (show Kp (fun k => k = p) w w9 from ⟨k9.os.trans Q.out.os, k9.tape.trans Q.out.tape, k9.output.trans Q.out.output, Nat.le_trans Q.out.size k9.size, fun k hk hs => (k9.block k (by have := Q.out.size; omega) (fun h => by rcases h with h | h; omega; exact hs h)).trans (Q.out.block k hk)⟩)
  have P := hide p9
  clear p9 Q
  clear b9 k9 zR hdo hp
  have TR := hide (show World.there _ (w.heap.size + 1) 0 5 from there_heap (cs := wtcL zWt) R.out)
  go_wp2_with (first | (refine wpList_load_row rfl 45 (.tmp 2) (by rfl) w.heap.size (by rfl) 45 (wtcL g).toArray (0, 0) _ (by exact B.out) Tryz.underlying45 (by rfl) (by kernel_rfl) ?_) | (refine wpList_store_hid (by rfl) 45 (.tmp 4) (.tmp 12) (by rfl) (w.heap.size + 1) 0 (wtcL g) (by rfl) (by rfl) (by exact TR.out) (by kernel_rfl) (by simp [Value.oneCell', wtcL]) ?_))
  intro w6 e6
  have R6 := hide (show w6.heap[w.heap.size + 1]? = some (.cells (wtcL g).toArray 45 (0, 0)) by rw [e6.out]; exact whole_heap (wtcL g) (xs := wtcL zWt) R.out rfl)
  have P6 := hide (show w6.heap[p]? = some (.cells #[v] 4 (0, 0)) by rw [e6.out]; exact other_heap (by omega) _ _ _ P.out)
  have K6 := hide (show Kp (fun k => k = p) w w6 by
    rw [e6.out]
    have h := below_setCells (B := w.heap.size) (wtcL g) 0 w9 (show w.heap.size ≤ w.heap.size + 1 by omega)
    exact ⟨h.os.trans K.out.os, h.tape.trans K.out.tape, h.output.trans K.out.output, Nat.le_trans K.out.size h.size, fun k hk hs => (h.block k hk).trans (K.out.block k hk hs)⟩)
  clear e6 TR R B P K
  go_wp2_with fail
  refine bodyPost_ret (results_cell_tmp (by rfl) _ w6 (w.heap.size + 1) 45 (wtcL g).toArray (0, 0) _ (.int .i64 0) (by rfl) (by rfl) R6.out Tryz.underlying45 (by rfl) (by kernel_rfl)) rfl ⟨rfl, P6.out, K6.out⟩

set_option maxRecDepth 100000 in
set_option maxHeartbeats 8000000 in
theorem rvStart1 (f : Wt) (B : Nat) (W : World) (hB : W.heap[B]? = some (.cells (wtcL f).toArray 45 (0, 0))) :
    Calls Tryz.prog 62 #[.pointer (some ⟨B, 0, none⟩)] W fun e W' => e = .returned (.tuple #[]) ∧ W'.heap[B]? = some (.cells (wtcL f.start).toArray 45 (0, 0)) ∧ Kp (fun k => k = B) W W' := by
  have HB := hide hB
  obtain ⟨c0, c1, c2, c3, c4⟩ := wt_cells2 hB
  have f4 := wt_free hB
  clear hB
  go_enter Tryz.func62, Tryz.ntmps62
  go_wp2
  have H1 := set_heap [.bool true] (wtcL f) 3 _ HB.out
  have H2 := set_heap [.bool false] _ 4 _ H1
  have H3 := set_heap [.int .i64 f.first] _ 2 _ H2
  go_end0
  exact ⟨rfl, H3, ((Kp.setC (S := fun k => k = B) _ _ _ _ rfl).trans (Kp.setC (S := fun k => k = B) _ _ _ _ rfl)).trans (Kp.setC (S := fun k => k = B) _ _ _ _ rfl)⟩

set_option maxRecDepth 100000 in
set_option maxHeartbeats 8000000 in
theorem recvStart_ok (f : Wt) (w : World) (hf : wtB f = true) :
    Calls Tryz.prog 24 #[.agg (wtcL f).toArray] w fun e w' => e = .returned (.tuple #[.agg (wtcL f.start).toArray, .int .i64 0]) ∧ Below w.heap.size w w' := by
  obtain ⟨w0, hw0⟩ : ∃ w0, w0 = (w.alloc (.cells (wtcL f).toArray 45)).alloc (.cells (wtcL zWt).toArray 45) := ⟨_, rfl⟩
  have B := hide (heap_below (World.alloc_heap_new w (.cells (wtcL f).toArray 45)) ((Below.refl _ (w.alloc (.cells (wtcL f).toArray 45))).alloc (Nat.le_refl _) (.cells (wtcL zWt).toArray 45)))
  have R := hide (World.alloc_heap_new (w.alloc (.cells (wtcL f).toArray 45)) (.cells (wtcL zWt).toArray 45))
  have Q : Hid (Below w.heap.size w w0) := by rw [hw0]; exact hide (((Below.refl w.heap.size w).alloc (Nat.le_refl _) (.cells (wtcL f).toArray 45)).alloc (by simp; try omega) (.cells (wtcL zWt).toArray 45))
  rw [← hw0] at B R
  simp only [World.size_alloc] at R
  have CL := hide (rvCall0 f f.start w0 hf 62 (fun args W => by kernel_rfl) (hide fun W hB _ => rvStart1 f _ W hB))
  clear hf
  go_enter Tryz.func24, Tryz.ntmps24
  go_upto_region 1 with fail
  change Code.wp _ _ _ _ ((w.alloc (.cells (wtcL f).toArray 45)).alloc (.cells (wtcL zWt).toArray 45))
  rw [← hw0]
  clear hw0
  go_wp2_with (refine wpList_load_row rfl 45 (.tmp 1) (by rfl) w.heap.size (by rfl) 45 (wtcL f).toArray (0, 0) _ (by exact B.out) Tryz.underlying45 (by rfl) (by kernel_rfl) ?_)
  (with_reducible refine (CL.out).mono ?_)
  rintro ew1' w1' ⟨rfl, qw1'⟩
  replace B := hide (heap_below B.out qw1')
  replace R := hide (heap_below R.out qw1')
  replace Q := hide (below_next Q.out Q.out.size qw1')
  clear qw1'
  clear CL
  have Tw2' := hide (show World.there _ (w.heap.size + 1) 0 5 from there_heap (cs := wtcL zWt) R.out)
  go_wp2_with (refine wpList_store_hid (by rfl) 45 (.tmp 2) (.tmp 6) (by rfl) (w.heap.size + 1) 0 (wtcL f.start) (by rfl) (by rfl) (by exact Tw2'.out) (by kernel_rfl) (by simp [Value.oneCell', wtcL]) ?_)
  intro w2' ew2'
  replace B := hide (show w2'.heap[w.heap.size]? = some (.cells (wtcL f).toArray 45 (0, 0)) by rw [ew2'.out]; exact other_heap (by omega) _ _ _ B.out)
  replace Q := hide (show Below w.heap.size w w2' by rw [ew2'.out]; exact Q.out.trans (below_setCells _ _ _ (by have := Q.out.size; omega)))
  replace R := hide (show w2'.heap[w.heap.size + 1]? = some (.cells (wtcL f.start).toArray 45 (0, 0)) by rw [ew2'.out]; exact whole_heap (wtcL f.start) (xs := wtcL zWt) R.out rfl)
  clear ew2' Tw2'
  go_wp2_with fail
  refine bodyPost_ret (results_cell_tmp (by rfl) _ w2' (w.heap.size + 1) 45 (wtcL f.start).toArray (0, 0) _ (.int .i64 0) (by rfl) (by rfl) R.out Tryz.underlying45 (by rfl) (by kernel_rfl)) rfl ⟨rfl, Q.out⟩

set_option maxRecDepth 100000 in
set_option maxHeartbeats 8000000 in
theorem rvGot1 (f : Wt) (B : Nat) (W : World) (hB : W.heap[B]? = some (.cells (wtcL f).toArray 45 (0, 0))) (hon : f.on = true) :
    Calls Tryz.prog 77 #[.pointer (some ⟨B, 0, none⟩)] W fun e W' => e = .returned (.tuple #[]) ∧ W'.heap[B]? = some (.cells (wtcL f.got).toArray 45 (0, 0)) ∧ Kp (fun k => k = B) W W' := by
  have HB := hide hB
  obtain ⟨c0, c1, c2, c3, c4⟩ := wt_cells2 hB
  have f4 := wt_free hB
  rw [hon] at c3
  have hg : f.got = { f with late := false, left := f.each } := if_pos hon
  rw [hg]
  clear hB hg hon
  go_enter Tryz.func77, Tryz.ntmps77
  go_wp2
  have H1 := set_heap [.bool false] (wtcL f) 4 _ HB.out
  have H2 := set_heap [.int .i64 f.each] _ 2 _ H1
  go_end0
  exact ⟨rfl, H2, (Kp.setC (S := fun k => k = B) _ _ _ _ rfl).trans (Kp.setC (S := fun k => k = B) _ _ _ _ rfl)⟩

set_option maxRecDepth 100000 in
set_option maxHeartbeats 8000000 in
theorem recvGot_ok (f : Wt) (w : World) (hf : wtB f = true) (hon : f.on = true) :
    Calls Tryz.prog 38 #[.agg (wtcL f).toArray] w fun e w' => e = .returned (.tuple #[.agg (wtcL f.got).toArray, .int .i64 0]) ∧ Below w.heap.size w w' := by
  obtain ⟨w0, hw0⟩ : ∃ w0, w0 = (w.alloc (.cells (wtcL f).toArray 45)).alloc (.cells (wtcL zWt).toArray 45) := ⟨_, rfl⟩
  have B := hide (heap_below (World.alloc_heap_new w (.cells (wtcL f).toArray 45)) ((Below.refl _ (w.alloc (.cells (wtcL f).toArray 45))).alloc (Nat.le_refl _) (.cells (wtcL zWt).toArray 45)))
  have R := hide (World.alloc_heap_new (w.alloc (.cells (wtcL f).toArray 45)) (.cells (wtcL zWt).toArray 45))
  have Q : Hid (Below w.heap.size w w0) := by rw [hw0]; exact hide (((Below.refl w.heap.size w).alloc (Nat.le_refl _) (.cells (wtcL f).toArray 45)).alloc (by simp; try omega) (.cells (wtcL zWt).toArray 45))
  rw [← hw0] at B R
  simp only [World.size_alloc] at R
  have CL := hide (rvCall0 f f.got w0 hf 77 (fun args W => by kernel_rfl) (hide fun W hB _ => rvGot1 f _ W hB hon))
  clear hf
  go_enter Tryz.func38, Tryz.ntmps38
  go_upto_region 1 with fail
  change Code.wp _ _ _ _ ((w.alloc (.cells (wtcL f).toArray 45)).alloc (.cells (wtcL zWt).toArray 45))
  rw [← hw0]
  clear hw0
  go_wp2_with (refine wpList_load_row rfl 45 (.tmp 1) (by rfl) w.heap.size (by rfl) 45 (wtcL f).toArray (0, 0) _ (by exact B.out) Tryz.underlying45 (by rfl) (by kernel_rfl) ?_)
  (with_reducible refine (CL.out).mono ?_)
  rintro ew1' w1' ⟨rfl, qw1'⟩
  replace B := hide (heap_below B.out qw1')
  replace R := hide (heap_below R.out qw1')
  replace Q := hide (below_next Q.out Q.out.size qw1')
  clear qw1'
  clear CL
  have Tw2' := hide (show World.there _ (w.heap.size + 1) 0 5 from there_heap (cs := wtcL zWt) R.out)
  go_wp2_with (refine wpList_store_hid (by rfl) 45 (.tmp 2) (.tmp 6) (by rfl) (w.heap.size + 1) 0 (wtcL f.got) (by rfl) (by rfl) (by exact Tw2'.out) (by kernel_rfl) (by simp [Value.oneCell', wtcL]) ?_)
  intro w2' ew2'
  replace B := hide (show w2'.heap[w.heap.size]? = some (.cells (wtcL f).toArray 45 (0, 0)) by rw [ew2'.out]; exact other_heap (by omega) _ _ _ B.out)
  replace Q := hide (show Below w.heap.size w w2' by rw [ew2'.out]; exact Q.out.trans (below_setCells _ _ _ (by have := Q.out.size; omega)))
  replace R := hide (show w2'.heap[w.heap.size + 1]? = some (.cells (wtcL f.got).toArray 45 (0, 0)) by rw [ew2'.out]; exact whole_heap (wtcL f.got) (xs := wtcL zWt) R.out rfl)
  clear ew2' Tw2'
  go_wp2_with fail
  refine bodyPost_ret (results_cell_tmp (by rfl) _ w2' (w.heap.size + 1) 45 (wtcL f.got).toArray (0, 0) _ (.int .i64 0) (by rfl) (by rfl) R.out Tryz.underlying45 (by rfl) (by kernel_rfl)) rfl ⟨rfl, Q.out⟩

set_option maxRecDepth 100000 in
set_option maxHeartbeats 8000000 in
theorem rvTick1 (f : Wt) (B p : Nat) (W : World) (hB : W.heap[B]? = some (.cells (wtcL f).toArray 45 (0, 0))) (hp : W.heap[p]? = some (.cells #[.bool false] 4 (0, 0))) (hl : 0 ≤ f.left ∧ f.left ≤ 1000000) :
    Calls Tryz.prog 79 #[.pointer (some ⟨B, 0, none⟩), .pointer (some ⟨p, 0, none⟩)] W fun e W' => e = .returned (.tuple #[]) ∧ W'.heap[B]? = some (.cells (wtcL f.tick).toArray 45 (0, 0)) ∧ W'.heap[p]? = some (.cells #[.bool f.tickE] 4 (0, 0)) ∧ Kp (fun k => k = B ∨ k = p) W W' := by
  have HB := hide hB
  have HP := hide hp
  have hb : B ≠ p := fun e => by
    subst e
    rw [hB] at hp
    injection hp with hp
    injection hp with hp _ _
    exact absurd (congrArg Array.size hp) (by simp [wtcL])
  have hb' : p ≠ B := fun e => hb e.symm
  obtain ⟨c0, c1, c2, c3, c4⟩ := wt_cells2 hB
  have f4 := wt_free hB
  obtain ⟨d0, d1⟩ := one_cell hp
  clear hB hp
  by_cases h0 : f.left = 0
  · have e1 : f.tick = f := if_pos h0
    have e2 : f.tickE = false := by unfold Wt.tickE; rw [h0]; rfl
    rw [e1, e2]
    rw [h0] at c2
    clear e1 e2 h0
    go_enter Tryz.func79, Tryz.ntmps79
    go_wp2
    refine bodyPost_ret (results_none (by rfl) _ _ _) rfl ⟨rfl, HB.out, HP.out, Kp.refl⟩
  · have hE : (f.left == 0) = false := by simpa using h0
    have hw : IntKind.i64.wrap (f.left - 1) = f.left - 1 := IntWalk.i64_in _ (by omega)
    obtain ⟨b, hbb⟩ : ∃ b : Bool, b = (f.left - 1 == 0) := ⟨_, rfl⟩
    have e1 : f.tick = { f with left := f.left - 1, late := b } := by rw [hbb]; exact if_neg h0
    have e2 : f.tickE = b := by
      rw [hbb]
      unfold Wt.tickE
      by_cases h1 : f.left = 1
      · rw [decide_eq_true h1, h1]; rfl
      · rw [decide_eq_false h1]; symm; simp; omega
    rw [e1, e2]
    have HBB := hide hbb
    clear e1 e2 hbb h0
    go_enter Tryz.func79, Tryz.ntmps79
    go_wp2
    have H1 := set_heap [.int .i64 (f.left - 1)] (wtcL f) 2 _ HB.out
    have P1 := other_heap hb' [.int .i64 (f.left - 1)] 2 _ HP.out
    have H2 := other_heap hb [.bool (f.left - 1 == 0)] 0 _ H1
    have P2 := set_heap [.bool (f.left - 1 == 0)] [.bool false] 0 _ P1
    have H3 := set_heap [.bool (f.left - 1 == 0)] _ 4 _ H2
    have P3 := other_heap hb' [.bool (f.left - 1 == 0)] 4 _ P2
    go_end0
    exact ⟨rfl, by rw [HBB.out]; exact H3, by rw [HBB.out]; exact P3, ((Kp.setC (S := fun k => k = B ∨ k = p) _ _ _ _ (.inl rfl)).trans (Kp.setC (S := fun k => k = B ∨ k = p) _ _ _ _ (.inr rfl))).trans (Kp.setC (S := fun k => k = B ∨ k = p) _ _ _ _ (.inl rfl))⟩

set_option maxRecDepth 100000 in
set_option maxHeartbeats 8000000 in
theorem recvTick_ok (f : Wt) (w : World) (hf : wtB f = true) :
    Calls Tryz.prog 46 #[.agg (wtcL f).toArray] w fun e w' => e = .returned (.tuple #[.agg (wtcL f.tick).toArray, .bool f.tickE, .int .i64 0]) ∧ Below w.heap.size w w' := by
  obtain ⟨w0, hw0⟩ : ∃ w0, w0 = (w.alloc (.cells (wtcL f).toArray 45)).alloc (.cells (wtcL zWt).toArray 45) := ⟨_, rfl⟩
  have B := hide (heap_below (World.alloc_heap_new w (.cells (wtcL f).toArray 45)) ((Below.refl _ (w.alloc (.cells (wtcL f).toArray 45))).alloc (Nat.le_refl _) (.cells (wtcL zWt).toArray 45)))
  have R := hide (World.alloc_heap_new (w.alloc (.cells (wtcL f).toArray 45)) (.cells (wtcL zWt).toArray 45))
  have Q : Hid (Below w.heap.size w w0) := by rw [hw0]; exact hide (((Below.refl w.heap.size w).alloc (Nat.le_refl _) (.cells (wtcL f).toArray 45)).alloc (by simp; try omega) (.cells (wtcL zWt).toArray 45))
  rw [← hw0] at B R
  simp only [World.size_alloc] at R
  have HF := hide hf
  have hl : 0 ≤ f.left ∧ f.left ≤ 1000000 := by have := wtB_iff.1 hf; omega
  have HL := hide hl
  clear hf hl
  go_enter Tryz.func46, Tryz.ntmps46
  go_upto_region 1 with fail
  change Code.wp _ _ _ _ ((w.alloc (.cells (wtcL f).toArray 45)).alloc (.cells (wtcL zWt).toArray 45))
  rw [← hw0]
  clear hw0
  go_upto_region 2 with fail
  obtain ⟨w1, e1⟩ : ∃ w1, w1 = w0.alloc (.cells #[.bool false] 4) := ⟨_, rfl⟩
  have P := World.alloc_heap_new w0 (.cells [.bool false].toArray 4)
  have q1 : Below w0.heap.size w0 w1 := by rw [e1]; exact (Below.refl _ _).alloc (Nat.le_refl _) _
  change Code.wp _ _ _ _ (w0.alloc (.cells #[.bool false] 4))
  rw [← e1] at P ⊢
  replace P := hide P
  have zP : w.heap.size + 1 < w0.heap.size := heap_lt R.out
  clear e1
  replace B := hide (heap_below B.out q1)
  replace R := hide (heap_below R.out q1)
  replace Q := hide (below_next Q.out Q.out.size q1)
  clear q1
  generalize w0.heap.size = p at *
  have zp1 : p < w1.heap.size := heap_lt P.out
  have CL := hide (rvCall1 f f.tick w1 HF.out 79 p zp1 (.bool f.tickE) (fun args W => by kernel_rfl) (hide fun W hB q => rvTick1 f _ p W hB (heap_below P.out q) HL.out))
  clear HF HL
  go_wp2_with (refine wpList_load_row rfl 45 (.tmp 1) (by rfl) w.heap.size (by rfl) 45 (wtcL f).toArray (0, 0) _ (by exact B.out) Tryz.underlying45 (by rfl) (by kernel_rfl) ?_)
  (with_reducible refine (CL.out).mono ?_)
  rintro e2 w2 ⟨rfl, p2, k2⟩
  replace P := hide p2
  replace B := hide (k2.heap B.out (by omega))
  replace R := hide (k2.heap R.out (by omega))
  replace Q := hide (Q.out.trans (k2.below (B := w.heap.size) (fun k h => by omega) Q.out.size))
  clear p2 k2 CL
  have Tw1' := hide (show World.there _ w.heap.size 0 5 from there_heap (cs := wtcL f) B.out)
  go_wp2_with (refine wpList_store_hid (by rfl) 45 (.tmp 1) (.tmp 11) (by rfl) w.heap.size 0 (wtcL f.tick) (by rfl) (by rfl) (by exact Tw1'.out) (by kernel_rfl) (by simp [Value.oneCell', wtcL]) ?_)
  intro w1' ew1'
  replace R := hide (show w1'.heap[w.heap.size + 1]? = some (.cells (wtcL zWt).toArray 45 (0, 0)) by rw [ew1'.out]; exact other_heap (by omega) _ _ _ R.out)
  replace P := hide (show w1'.heap[p]? = some (.cells ([.bool f.tickE]).toArray 4 (0, 0)) by rw [ew1'.out]; exact other_heap (by omega) _ _ _ P.out)
  replace Q := hide (show Below w.heap.size w w1' by rw [ew1'.out]; exact Q.out.trans (below_setCells _ _ _ (by have := Q.out.size; omega)))
  replace B := hide (show w1'.heap[w.heap.size]? = some (.cells (wtcL f.tick).toArray 45 (0, 0)) by rw [ew1'.out]; exact whole_heap (wtcL f.tick) (xs := wtcL f) B.out rfl)
  clear ew1' Tw1'
  go_upto_region 3 with fail
  refine wp_region_L [0, 1, 2] [(0, fun W => W.heap[w.heap.size]? = some (.cells (wtcL f.tick).toArray 45 (0, 0))), (1, fun W => W.heap[p]? = some (.cells ([.bool f.tickE]).toArray 4 (0, 0)))] (by kernel_rfl) ?_
  replace B := hide (show w1'.drew.heap[w.heap.size]? = some (.cells (wtcL f.tick).toArray 45 (0, 0)) from B.out)
  replace R := hide (show w1'.drew.heap[w.heap.size + 1]? = some (.cells (wtcL zWt).toArray 45 (0, 0)) from R.out)
  replace P := hide (show w1'.drew.heap[p]? = some (.cells ([.bool f.tickE]).toArray 4 (0, 0)) from P.out)
  replace Q := hide (show Below w.heap.size w w1'.drew from Q.out.drew)
  generalize w1'.drew = w2' at *
  refine wpAnyL_load (i := 0) (v := .agg (wtcL f.tick).toArray) rfl rfl (by kernel_rfl) (by kernel_rfl) (by kernel_rfl) (by kernel_rfl) (by kernel_rfl) (fun _ _ _ h => h) rfl (fun W h => exec_heap W w.heap.size 45 (wtcL f.tick) _ h Tryz.underlying45 rfl (by kernel_rfl) _ _ (.tmp 1) (by rfl) (by rfl)) (B.out) ?_
  go_simp
  refine wpAnyL_load (i := 1) (v := .bool f.tickE) rfl rfl (by kernel_rfl) (by kernel_rfl) (by kernel_rfl) (by kernel_rfl) (by kernel_rfl) (fun _ _ _ h => h) rfl (fun W h => by have h0 : W.cell? ⟨p, 0, none⟩ = some (.bool f.tickE) := (by simp [World.cell?, h]); clear h; go_simp) (P.out) ?_
  go_simp
  refine wpAnyL_pure (i := 2) (v := .int .i64 0) rfl rfl (by kernel_rfl) (by kernel_rfl) (by kernel_rfl) (by kernel_rfl) (by kernel_rfl) (fun _ _ _ h => h) rfl (fun W => by go_simp) ?_
  go_simp
  refine wpAnyL_one (i := 3) (by kernel_rfl) ?_
  refine wpOp_do rfl rfl ?_
  have Tw3' := hide (show World.there _ (w.heap.size + 1) 0 5 from there_heap (cs := wtcL zWt) R.out)
  refine wp_store_as 45 (.tmp 2) (.tmp 13) rfl (w.heap.size + 1) 0 (wtcL f.tick) (by rfl) (by rfl) (by exact Tw3'.out) (by kernel_rfl) (by simp [Value.oneCell', wtcL]) ?_
  intro w3' ew3'
  replace B := hide (show w3'.heap[w.heap.size]? = some (.cells (wtcL f.tick).toArray 45 (0, 0)) by rw [ew3']; exact other_heap (by omega) _ _ _ B.out)
  replace P := hide (show w3'.heap[p]? = some (.cells ([.bool f.tickE]).toArray 4 (0, 0)) by rw [ew3']; exact other_heap (by omega) _ _ _ P.out)
  replace Q := hide (show Below w.heap.size w w3' by rw [ew3']; exact Q.out.trans (below_setCells _ _ _ (by have := Q.out.size; omega)))
  replace R := hide (show w3'.heap[w.heap.size + 1]? = some (.cells (wtcL f.tick).toArray 45 (0, 0)) by rw [ew3']; exact whole_heap (wtcL f.tick) (xs := wtcL zWt) R.out rfl)
  clear ew3' Tw3'
  refine ⟨keepsL_mk (by kernel_rfl) (.cons B.out (.cons P.out .nil)), ?_⟩
  go_simp
  refine wpAnyL_one (i := 4) (by kernel_rfl) ?_
  refine wpOp_do rfl rfl ?_
  go_simp
  refine ⟨keepsL_mk (by kernel_rfl) (.cons B.out (.cons P.out .nil)), ?_⟩
  go_simp
  refine wpAnyL_one (i := 5) (by kernel_rfl) ?_
  refine wpOp_do rfl rfl ?_
  go_simp
  refine ⟨keepsL_mk (by kernel_rfl) (.cons B.out (.cons P.out .nil)), ?_⟩
  go_simp
  refine wpAnyL_done (by kernel_rfl) ?_ _
  go_wp2_with fail
  refine bodyPost_ret (results_cell_tmp2 (by rfl) _ w3' (w.heap.size + 1) 45 (wtcL f.tick).toArray (0, 0) _ (.bool f.tickE) (.int .i64 0) (by rfl) (by rfl) (by rfl) R.out Tryz.underlying45 (by rfl) (by kernel_rfl)) rfl ⟨rfl, Q.out⟩
end Go.Proofs.YtnhegnneohpkaaaGreat
