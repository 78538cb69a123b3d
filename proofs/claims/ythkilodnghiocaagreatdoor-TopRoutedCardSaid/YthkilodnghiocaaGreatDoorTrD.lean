/- pdur.Take of a router of one path. -/
import Derived.Test.YthkilodnghiocaaGreatDoorTrC
namespace Go.Proofs.YthkilodnghiocaaGreatDoor
open Go.ChangeShapes Go.WideShapes Go.ChangeAt Go.RowKit

theorem results_cell_tmp3T {P : Program} {fn : Func} {p q r u : Tmp} {ty : TypeId} (h : fn.results = #[.cell p ty, .tmp q, .tmp r, .tmp u]) (tmps : Array Value) (w : World) (g : Nat) (t : TypeId) (cs : Array Value) (fr : Nat × Nat) (d : TypeDesc) (x y z : Value)
    (hp : tmps.getD p undef = .pointer (some ⟨g, 0, none⟩)) (hq : tmps.getD q undef = x) (hr : tmps.getD r undef = y) (hu3 : tmps.getD u undef = z) (hg : w.heap[g]? = some (.cells cs t fr))
    (hu : P.underlying ty = some d) (hd : (match d with | .struct _ | .array _ _ => true | _ => false) = true) (hi : (P.info? ty).map (·.size) = some cs.size) :
    (results fn tmps).run P w = .ok (.tuple #[.agg cs, x, y, z]) w := by
  have hp' : tmps[p]?.getD undef = .pointer (some ⟨g, 0, none⟩) := by simpa using hp
  have hq' : tmps[q]?.getD undef = x := by simpa using hq
  have hr' : tmps[r]?.getD undef = y := by simpa using hr
  have hu' : tmps[u]?.getD undef = z := by simpa using hu3
  simp [results, h, hp', hq', hr', hu', asAddr, run_loadVar_row w g t ty cs fr d hg hu hd hi]
/-- A part of a row of the call's own is written. -/
theorem own_part {W : World} {base e sz g c k : Nat} {R : List (List Value)} (h : Own W base e sz (some ⟨g, 0, none⟩) c R) (hs : ∀ r ∈ R, r.length = sz) {r : List Value} (hk : R[k]? = some r) (j : Nat) (vs : List Value) (hj : j + vs.length ≤ sz) :
    Own (W.setCells g (k * sz + j) vs) base e sz (some ⟨g, 0, none⟩) c (R.set k (setL r j vs)) := by
  obtain ⟨h1, h2⟩ := ownsRow_setCells vs (k * sz + j) W _ h
  rw [flatten_setL (k := k) vs R r j hs hk hj] at h1
  unfold Own
  rw [List.length_set]
  exact h1
theorem ptRow_rows (p : Pth) : ∀ r ∈ [ptc p], r.length = 6 := by intro r hr; rw [List.mem_singleton.1 hr]; rfl
theorem own_ring {W : World} {base g c : Nat} {A A' : Option Addr} {n n' k k' : Nat} (h : Own W base 27 6 (some ⟨g, 0, none⟩) c [ptc (pt1 A n k)]) : Own (W.setCells g 3 (rgL A' n' k')) base 27 6 (some ⟨g, 0, none⟩) c [ptc (pt1 A' n' k')] := by
  have := own_part h (ptRow_rows _) (k := 0) (r := ptc (pt1 A n k)) rfl 3 (rgL A' n' k') (by simp [rgL])
  exact this
theorem own_pt {W : World} {base g c : Nat} {p : Pth} (h : Own W base 27 6 (some ⟨g, 0, none⟩) c [ptc p]) : W.rangeAt g 0 (ptc p) := fun j v hv => by
  have := own_at h (ptRow_rows _) (k := 0) (row := ptc p) rfl hv
  simpa using this
theorem own_ptR {W : World} {base : Nat} {A : Option Addr} {c : Nat} {p : Pth} (h : Own W base 27 6 A c [ptc p]) : PtR W W.heap.size A [p] := h.rd (ptRow_rows _)
set_option maxRecDepth 100000 in
set_option maxHeartbeats 1000000 in
theorem take1_any (f : Pth) (tb : Nat) (w : World) (ht : w.heap[tb]? = some (.cells #[.int .i64 2] 3 (0, 0))) (hto : f.dst = 2) :
    Calls Tryz.prog 16 #[.agg #[.int .i64 f.frm, .int .i64 f.dst, .int .i64 f.st, .slice f.A f.n f.c, .int .i64 f.cap, .bool f.best], .pointer (some ⟨tb, 0, none⟩)] w fun e w' => e = .returned (.bool (decide (0 < f.n))) ∧ Below w.heap.size w w' := by
  obtain ⟨frm, dst, st, A, n, c, cap, best⟩ := f
  dsimp only at *
  subst hto
  have q0 : Below w.heap.size w (w.alloc (.cells (ptc ⟨frm, 2, st, A, n, c, cap, best⟩).toArray 27)) := (Below.refl _ _).alloc (Nat.le_refl _) _
  have c0 : w.cell? ⟨tb, 0, none⟩ = some (.int .i64 2) := by simp [World.cell?, ht]
  have t0 := cellBelow q0 (heap_lt ht) c0
  clear ht c0
  unfold ptc at *
  dsimp only at *
  by_cases h : 0 < n
  · have h1 : (0 : Int) < (n : Int) := by omega
    rw [decide_eq_true h]
    go_enter Tryz.func16, Tryz.ntmps16
    go_wp2
    go_ret
    exact ⟨by simp, q0⟩
  · have h1 : ¬ (0 : Int) < (n : Int) := by omega
    rw [decide_eq_false h]
    go_enter Tryz.func16, Tryz.ntmps16
    go_wp2
    go_ret
    exact ⟨by simp, q0⟩
theorem idx_one (A : Option Addr) (n c : Nat) : idxPt (fun f => decide (0 < f.n)) [pt1 A n c] = if n = 0 then -1 else 0 := by
  unfold idxPt pt1
  by_cases h : n = 0
  · subst h; rfl
  · have : 0 < n := by omega
    simp [h, this]

set_option maxRecDepth 100000 in
set_option maxHeartbeats 16000000 in
theorem rtTake_none (PA OA A : Option Addr) (pc oc c : Nat) (w : World) (h : Rt w PA OA A c []) :
    Calls Tryz.prog 6 #[.agg (rtL PA pc OA oc).toArray, .int .i64 2] w fun e w' => e = .returned (.tuple #[.agg #[.slice none 0 0, .slice none 0 0], .int .i64 0, .string ⟨#[]⟩, .int .i64 21]) ∧ Below w.heap.size w w' := by
  obtain ⟨w0, hw0⟩ : ∃ w0, w0 = ((w.alloc (.cells (rtL PA pc OA oc).toArray 31)).alloc (.cells ([.int .i64 2]).toArray 3)).alloc (.cells ([.slice none 0 0, .slice none 0 0]).toArray 31) := ⟨_, rfl⟩
  have B := hide (heap_below (heap_below (World.alloc_heap_new w (.cells (rtL PA pc OA oc).toArray 31)) ((Below.refl _ (w.alloc (.cells (rtL PA pc OA oc).toArray 31))).alloc (Nat.le_refl _) (.cells ([.int .i64 2]).toArray 3))) ((Below.refl _ ((w.alloc (.cells (rtL PA pc OA oc).toArray 31)).alloc (.cells ([.int .i64 2]).toArray 3))).alloc (Nat.le_refl _) (.cells ([.slice none 0 0, .slice none 0 0]).toArray 31)))
  have T := hide (heap_below (World.alloc_heap_new (w.alloc (.cells (rtL PA pc OA oc).toArray 31)) (.cells ([.int .i64 2]).toArray 3)) ((Below.refl _ ((w.alloc (.cells (rtL PA pc OA oc).toArray 31)).alloc (.cells ([.int .i64 2]).toArray 3))).alloc (Nat.le_refl _) (.cells ([.slice none 0 0, .slice none 0 0]).toArray 31)))
  have R := hide (World.alloc_heap_new ((w.alloc (.cells (rtL PA pc OA oc).toArray 31)).alloc (.cells ([.int .i64 2]).toArray 3)) (.cells ([.slice none 0 0, .slice none 0 0]).toArray 31))
  have Q : Hid (Below w.heap.size w w0) := by rw [hw0]; exact hide ((((Below.refl w.heap.size w).alloc (Nat.le_refl _) (.cells (rtL PA pc OA oc).toArray 31)).alloc (by simp; try omega) (.cells ([.int .i64 2]).toArray 3)).alloc (by simp; try omega) (.cells ([.slice none 0 0, .slice none 0 0]).toArray 31))
  rw [← hw0] at B T R
  simp only [World.size_alloc] at T R
  replace R := hide (show w0.heap[w.heap.size + 2]? = some (.cells ([.slice none 0 0, .slice none 0 0]).toArray 31 (0, 0)) from R.out)
  have HR := hide h
  have RT := hide (fun W (q : Below w.heap.size w W) => rtRight_ok PA OA A pc oc c [] W (h.next q))
  have IX := hide (fun W (q : Below w.heap.size w W) (tb : Nat) (ht : W.heap[tb]? = some (.cells #[.int .i64 2] 3 (0, 0))) => show Calls Tryz.prog 15 #[.slice PA 1 pc, .func (.func 16) #[] #[.pointer (some ⟨tb, 0, none⟩)]] W fun e w' => e = .returned (.int .i64 (if ([] : List ByteArray).length = 0 then -1 else 0)) ∧ Below W.heap.size W w' from by
    have k := h.next q
    have := indexPt_any 16 #[.pointer (some ⟨tb, 0, none⟩)] (fun f => decide (0 < f.n)) (fun args W => by kernel_rfl) [pt1 A ([] : List ByteArray).length c] PA pc W k.P (by simp) (hide (fun f hf w' hb => by
      rw [List.mem_singleton.1 hf]
      exact take1_any (pt1 A ([] : List ByteArray).length c) tb w' (heap_below ht hb) rfl))
    rw [idx_one] at this
    exact this)
  clear h HR
  go_enter Tryz.func6, Tryz.ntmps6
  go_upto_region 1 with fail
  change Code.wp _ _ _ _ (((w.alloc (.cells (rtL PA pc OA oc).toArray 31)).alloc (.cells ([.int .i64 2]).toArray 3)).alloc (.cells ([.slice none 0 0, .slice none 0 0]).toArray 31))
  rw [← hw0]
  clear hw0
  have R1 := hide (RT.out _ Q.out)
  clear RT
  go_wp2_with (refine wpList_load_row rfl 31 (.tmp 2) (by rfl) w.heap.size (by rfl) 31 (rtL PA pc OA oc).toArray (0, 0) _ (by exact B.out) Tryz.underlying31 (by rfl) (by kernel_rfl) ?_)
  (with_reducible refine (R1.out).mono ?_)
  rintro ew1' w1' ⟨rfl, qw1'⟩
  replace B := hide (heap_below B.out qw1')
  replace T := hide (heap_below T.out qw1')
  replace R := hide (heap_below R.out qw1')
  replace Q := hide (below_next Q.out Q.out.size qw1')
  clear qw1'
  clear R1
  have I1 := hide (show Calls Tryz.prog 15 #[.slice PA 1 pc, .func (.func 16) #[] #[.pointer (some ⟨w.heap.size + 1, 0, none⟩)]] w1' fun e w' => e = .returned (.int .i64 (-1)) ∧ Below w1'.heap.size w1' w' from IX.out _ Q.out (w.heap.size + 1) T.out)
  clear IX
  obtain ⟨b0, b1⟩ := two_cellsT (a := .slice PA 1 pc) (b := .slice OA 1 oc) B.out
  go_wp2_with fail
  clear b0 b1
  (with_reducible refine (I1.out).mono ?_)
  rintro ew2' w2' ⟨rfl, qw2'⟩
  replace B := hide (heap_below B.out qw2')
  replace T := hide (heap_below T.out qw2')
  replace R := hide (heap_below R.out qw2')
  replace Q := hide (below_next Q.out Q.out.size qw2')
  clear qw2'
  clear I1
  have Tw3' := hide (show World.there _ (w.heap.size + 2) 0 2 from there_heap (cs := [.slice none 0 0, .slice none 0 0]) R.out)
  go_wp2_with (refine wpList_store_hid (by rfl) 31 (.tmp 4) (.tmp 22) (by rfl) (w.heap.size + 2) 0 ([.slice none 0 0, .slice none 0 0]) (by rfl) (by rfl) (by exact Tw3'.out) (by kernel_rfl) (by simp [Value.oneCell', rtL]) ?_)
  intro w3' ew3'
  replace B := hide (show w3'.heap[w.heap.size]? = some (.cells (rtL PA pc OA oc).toArray 31 (0, 0)) by rw [ew3'.out]; exact other_heap (by omega) _ _ _ B.out)
  replace T := hide (show w3'.heap[w.heap.size + 1]? = some (.cells ([.int .i64 2]).toArray 3 (0, 0)) by rw [ew3'.out]; exact other_heap (by omega) _ _ _ T.out)
  replace Q := hide (show Below w.heap.size w w3' by rw [ew3'.out]; exact Q.out.trans (below_setCells _ _ _ (by have := Q.out.size; omega)))
  replace R := hide (show w3'.heap[w.heap.size + 2]? = some (.cells ([.slice none 0 0, .slice none 0 0]).toArray 31 (0, 0)) by rw [ew3'.out]; exact whole_heap ([.slice none 0 0, .slice none 0 0]) (xs := [.slice none 0 0, .slice none 0 0]) R.out rfl)
  clear ew3' Tw3'
  go_wp2_with fail
  refine bodyPost_ret (results_cell_tmp3T (by rfl) _ w3' (w.heap.size + 1 + 1) 31 ([.slice none 0 0, .slice none 0 0]).toArray (0, 0) _ (.int .i64 0) (.string ⟨#[]⟩) (.int .i64 21) (by rfl) (by rfl) (by rfl) (by rfl) R.out Tryz.underlying31 (by rfl) (by kernel_rfl)) rfl ⟨rfl, Q.out⟩

set_option maxRecDepth 100000 in
set_option maxHeartbeats 16000000 in
theorem rtTake_ok (x : ByteArray) (l : List ByteArray) (PA OA A : Option Addr) (pc oc c : Nat) (w : World) (h : Rt w PA OA A c (x :: l)) :
    Calls Tryz.prog 6 #[.agg (rtL PA pc OA oc).toArray, .int .i64 2] w fun e w' => ∃ PA' pc' A' c', e = .returned (.tuple #[.agg (rtL PA' pc' OA oc).toArray, .int .i64 1, .string x, .int .i64 0]) ∧ Rt w' PA' OA A' c' l ∧ Fresh w.heap.size PA' ∧ (∀ g off, A' = some ⟨g, off, none⟩ → ∃ o2, A = some ⟨g, o2, none⟩) ∧ Below w.heap.size w w' := by
  obtain ⟨w0, hw0⟩ : ∃ w0, w0 = ((w.alloc (.cells (rtL PA pc OA oc).toArray 31)).alloc (.cells ([.int .i64 2]).toArray 3)).alloc (.cells ([.slice none 0 0, .slice none 0 0]).toArray 31) := ⟨_, rfl⟩
  have B := hide (heap_below (heap_below (World.alloc_heap_new w (.cells (rtL PA pc OA oc).toArray 31)) ((Below.refl _ (w.alloc (.cells (rtL PA pc OA oc).toArray 31))).alloc (Nat.le_refl _) (.cells ([.int .i64 2]).toArray 3))) ((Below.refl _ ((w.alloc (.cells (rtL PA pc OA oc).toArray 31)).alloc (.cells ([.int .i64 2]).toArray 3))).alloc (Nat.le_refl _) (.cells ([.slice none 0 0, .slice none 0 0]).toArray 31)))
  have T := hide (heap_below (World.alloc_heap_new (w.alloc (.cells (rtL PA pc OA oc).toArray 31)) (.cells ([.int .i64 2]).toArray 3)) ((Below.refl _ ((w.alloc (.cells (rtL PA pc OA oc).toArray 31)).alloc (.cells ([.int .i64 2]).toArray 3))).alloc (Nat.le_refl _) (.cells ([.slice none 0 0, .slice none 0 0]).toArray 31)))
  have R := hide (World.alloc_heap_new ((w.alloc (.cells (rtL PA pc OA oc).toArray 31)).alloc (.cells ([.int .i64 2]).toArray 3)) (.cells ([.slice none 0 0, .slice none 0 0]).toArray 31))
  have Q : Hid (Below w.heap.size w w0) := by rw [hw0]; exact hide ((((Below.refl w.heap.size w).alloc (Nat.le_refl _) (.cells (rtL PA pc OA oc).toArray 31)).alloc (by simp; try omega) (.cells ([.int .i64 2]).toArray 3)).alloc (by simp; try omega) (.cells ([.slice none 0 0, .slice none 0 0]).toArray 31))
  rw [← hw0] at B T R
  simp only [World.size_alloc] at T R
  replace R := hide (show w0.heap[w.heap.size + 2]? = some (.cells ([.slice none 0 0, .slice none 0 0]).toArray 31 (0, 0)) from R.out)
  have HR := hide h
  have RT := hide (fun W (q : Below w.heap.size w W) => rtRight_ok PA OA A pc oc c (x :: l) W (h.next q))
  have IX := hide (fun W (q : Below w.heap.size w W) (tb : Nat) (ht : W.heap[tb]? = some (.cells #[.int .i64 2] 3 (0, 0))) => show Calls Tryz.prog 15 #[.slice PA 1 pc, .func (.func 16) #[] #[.pointer (some ⟨tb, 0, none⟩)]] W fun e w' => e = .returned (.int .i64 (if (x :: l).length = 0 then -1 else 0)) ∧ Below W.heap.size W w' from by
    have k := h.next q
    have := indexPt_any 16 #[.pointer (some ⟨tb, 0, none⟩)] (fun f => decide (0 < f.n)) (fun args W => by kernel_rfl) [pt1 A (x :: l).length c] PA pc W k.P (by simp) (hide (fun f hf w' hb => by
      rw [List.mem_singleton.1 hf]
      exact take1_any (pt1 A (x :: l).length c) tb w' (heap_below ht hb) rfl))
    rw [idx_one] at this
    exact this)
  have TK := hide (fun W (q : Below w.heap.size w W) => rgTake_ok x l A c W (h.next q).I (by have := h.n; simpa using this) (by have := h.cap; simpa using this))
  have CLN := hide (fun W (q : Below w.heap.size w W) => show Calls Tryz.prog 18 #[.slice PA 1 pc] W (ClonePtV [pt1 A (l.length + 1) c] W) from clonePt_any [pt1 A (l.length + 1) c] PA pc W (by have := (h.next q).P; simpa using this) (by simp))
  clear h
  go_enter Tryz.func6, Tryz.ntmps6
  go_upto_region 1 with fail
  change Code.wp _ _ _ _ (((w.alloc (.cells (rtL PA pc OA oc).toArray 31)).alloc (.cells ([.int .i64 2]).toArray 3)).alloc (.cells ([.slice none 0 0, .slice none 0 0]).toArray 31))
  rw [← hw0]
  clear hw0
  have R1 := hide (RT.out _ Q.out)
  clear RT
  go_wp2_with (refine wpList_load_row rfl 31 (.tmp 2) (by rfl) w.heap.size (by rfl) 31 (rtL PA pc OA oc).toArray (0, 0) _ (by exact B.out) Tryz.underlying31 (by rfl) (by kernel_rfl) ?_)
  (with_reducible refine (R1.out).mono ?_)
  rintro ew1' w1' ⟨rfl, qw1'⟩
  replace B := hide (heap_below B.out qw1')
  replace T := hide (heap_below T.out qw1')
  replace R := hide (heap_below R.out qw1')
  replace Q := hide (below_next Q.out Q.out.size qw1')
  clear qw1'
  clear R1
  have I1 := hide (show Calls Tryz.prog 15 #[.slice PA 1 pc, .func (.func 16) #[] #[.pointer (some ⟨w.heap.size + 1, 0, none⟩)]] w1' fun e w' => e = .returned (.int .i64 0) ∧ Below w1'.heap.size w1' w' from IX.out _ Q.out (w.heap.size + 1) T.out)
  clear IX
  obtain ⟨b0, b1⟩ := two_cellsT (a := .slice PA 1 pc) (b := .slice OA 1 oc) B.out
  go_wp2_with fail
  clear b0 b1
  (with_reducible refine (I1.out).mono ?_)
  rintro ew2' w2' ⟨rfl, qw2'⟩
  replace B := hide (heap_below B.out qw2')
  replace T := hide (heap_below T.out qw2')
  replace R := hide (heap_below R.out qw2')
  replace Q := hide (below_next Q.out Q.out.size qw2')
  clear qw2'
  clear I1
  obtain ⟨pb, po, hPA, hpb, hrow⟩ := HR.out.P (by simp)
  have PG := hide (show w.rangeAt pb (po + 3) (rgL A (l.length + 1) c) from fun j v hv => by
    have h2 : (ptc (pt1 A (l.length + 1) c))[3 + j]? = some v := by
      match j, hv with
      | 0, hv => exact hv
      | 1, hv => exact hv
      | 2, hv => exact hv
      | j + 3, hv => simp [rgL] at hv
    have := hrow 0 (ptc (pt1 A (x :: l).length c)) (3 + j) v rfl h2
    rw [Nat.zero_mul, Nat.add_zero, ← Nat.add_assoc] at this
    exact this)
  replace hpb := hide hpb
  clear hrow
  replace hPA := hide hPA
  have PG2 := hide (show w2'.rangeAt pb (po + 3) (rgL A (l.length + 1) c) from fun j v hv => cellBelow Q.out hpb.out (PG.out j v hv))
  have T1 := hide (TK.out _ Q.out)
  clear TK PG
  obtain ⟨b0, b1⟩ := two_cellsT (a := .slice PA 1 pc) (b := .slice OA 1 oc) B.out
  rw [hPA.out] at b0
  go_wp2_with (refine wpList_load_mid rfl 25 (.tmp 28) (by rfl) pb (po + 3) (by rfl) (rgL A (l.length + 1) c) _ (by exact PG2.out) Tryz.underlying25 (by rfl) (by kernel_rfl) ?_)
  clear b0 b1 PG2
  (with_reducible refine (T1.out).mono ?_)
  rintro ew3' w3' ⟨A', c', rfl, hI, hcap, hgA, qw3'⟩
  replace B := hide (heap_below B.out qw3')
  replace T := hide (heap_below T.out qw3')
  replace R := hide (heap_below R.out qw3')
  replace Q := hide (below_next Q.out Q.out.size qw3')
  clear qw3'
  clear T1
  have HI := hide hI
  have HGA := hide hgA
  have HCP := hide hcap
  clear hI hgA hcap
  have X := World.alloc_heap_new w3' (.cells ([.slice none 0 0, .int .i64 0, .bool false]).toArray 25)
  have zBxr : w.heap.size < w3'.heap.size := heap_lt B.out
  have zTxr : w.heap.size + 1 < w3'.heap.size := heap_lt T.out
  have zRxr : w.heap.size + 2 < w3'.heap.size := heap_lt R.out
  have zQxr : w.heap.size ≤ w3'.heap.size := Q.out.size
  obtain ⟨w5', hw5'⟩ : ∃ wx, wx = w3'.alloc (.cells ([.slice none 0 0, .int .i64 0, .bool false]).toArray 25) := ⟨_, rfl⟩
  have q4' := hide (show Below w3'.heap.size w3' w5' by rw [hw5']; exact (Below.refl _ _).alloc (Nat.le_refl _) _)
  rw [← hw5'] at X
  replace X := hide X
  have Tw6' := hide (show (w3'.alloc (.cells ([.slice none 0 0, .int .i64 0, .bool false]).toArray 25)).there w3'.heap.size 0 3 by rw [← hw5']; exact there_heap (cs := [.slice none 0 0, .int .i64 0, .bool false]) X.out)
  go_wp2_with (refine wpList_store_hid (by rfl) 25 (.tmp 9) (.tmp 31) (by rfl) w3'.heap.size 0 (rgL A' l.length c') (by rfl) (by rfl) (by exact Tw6'.out) (by kernel_rfl) (by simp [Value.oneCell', rgL]) ?_)
  intro w6' ew6'
  replace ew6' : Hid (w6' = w5'.setCells w3'.heap.size 0 (rgL A' l.length c')) := by rw [hw5']; exact ew6'
  replace X := hide (show w6'.heap[w3'.heap.size]? = some (.cells (rgL A' l.length c').toArray 25 (0, 0)) by rw [ew6'.out]; exact whole_heap (rgL A' l.length c') (xs := [.slice none 0 0, .int .i64 0, .bool false]) X.out rfl)
  replace q4' := hide (show Below w3'.heap.size w3' w6' by rw [ew6'.out]; exact q4'.out.trans (below_setCells _ _ _ (by omega)))
  clear ew6' Tw6' hw5'
  replace B := hide (heap_below B.out q4'.out)
  replace T := hide (heap_below T.out q4'.out)
  replace R := hide (heap_below R.out q4'.out)
  replace HI := hide (Rd.next HI.out q4'.out q4'.out.size)
  replace Q := hide (below_next Q.out Q.out.size q4'.out)
  clear q4'
  generalize w3'.heap.size = xr at *
  have C1 := hide (CLN.out _ Q.out)
  clear CLN
  obtain ⟨b0, b1⟩ := two_cellsT (a := .slice PA 1 pc) (b := .slice OA 1 oc) B.out
  have zx := heap_lt X.out
  go_wp2_with fail
  clear b0 b1
  (with_reducible refine (C1.out).mono ?_)
  rintro e9 w9 ⟨P1, pc1, rfl, oP, q9⟩
  obtain ⟨g, rfl, hgN, hgw⟩ := Own.ofLen oP (by simp)
  have OP := hide (show Own w9 w6'.heap.size 27 6 (some ⟨g, 0, none⟩) pc1 [ptc (pt1 A (l.length + 1) c)] from oP)
  clear oP C1
  have zB := heap_lt B.out
  have zT := heap_lt T.out
  have zR := heap_lt R.out
  have zQ := Q.out.size
  replace B := hide (heap_below B.out q9)
  replace T := hide (heap_below T.out q9)
  replace R := hide (heap_below R.out q9)
  replace X := hide (heap_below X.out q9)
  replace HI := hide (Rd.next HI.out q9 q9.size)
  replace Q := hide (below_next Q.out Q.out.size q9)
  clear q9
  obtain ⟨N, hN⟩ : ∃ N, N = w6'.heap.size := ⟨_, rfl⟩
  rw [← hN] at OP hgN zB zT zR zQ zx
  replace hN := hide hN
  obtain ⟨b0, b1⟩ := two_cellsT (a := .slice PA 1 pc) (b := .slice OA 1 oc) B.out
  have hfz : w9.frozen? ⟨w.heap.size, 0, none⟩ = false := by have := B.out; simp [World.frozen?, this]
  go_upto_region 8 with fail
  clear b0 b1 hfz
  have hAw : OffS (fun k => w.heap.size ≤ k) A' l.length := .inr (fun g9 off e h9 => by
    obtain ⟨o2, e2⟩ := HGA.out g9 off e
    have := HR.out.I
    obtain ⟨b9, o9, e9, hb9, _⟩ := this (by simp [stRow])
    have e3 : g9 = b9 := by rw [e2] at e9; cases e9; rfl
    have h9' : w.heap.size ≤ g9 := h9
    omega)
  replace hAw := hide hAw
  have HIK := hide (fun (vs : List Value) (o : Nat) (W : World) (x9 : Nat) (h9 : w.heap.size ≤ x9) (h : StR W W.heap.size A' l) => show StR (W.setCells x9 o vs) (W.setCells x9 o vs).heap.size A' l from Kp.rd (S := fun k => w.heap.size ≤ k) (Kp.set W x9 o vs h9) h (by unfold stRow; rw [List.length_map]; exact hAw.out))
  obtain ⟨w7', ew7'⟩ : ∃ wq, wq = w9.setCell ⟨w.heap.size, 0, none⟩ (.slice (some ⟨g, 0, none⟩) 1 pc1) := ⟨_, rfl⟩
  rw [← ew7']
  replace T := hide (show w7'.heap[w.heap.size + 1]? = some (.cells ([.int .i64 2]).toArray 3 (0, 0)) by rw [ew7']; exact other_heap (by omega) ([.slice (some ⟨g, 0, none⟩) 1 pc1]) 0 _ T.out)
  replace R := hide (show w7'.heap[w.heap.size + 2]? = some (.cells ([.slice none 0 0, .slice none 0 0]).toArray 31 (0, 0)) by rw [ew7']; exact other_heap (by omega) ([.slice (some ⟨g, 0, none⟩) 1 pc1]) 0 _ R.out)
  replace X := hide (show w7'.heap[xr]? = some (.cells (rgL A' l.length c').toArray 25 (0, 0)) by rw [ew7']; exact other_heap (by omega) ([.slice (some ⟨g, 0, none⟩) 1 pc1]) 0 _ X.out)
  replace OP := hide (show Own w7' N 27 6 (some ⟨g, 0, none⟩) pc1 [ptc (pt1 A (l.length + 1) c)] by rw [ew7']; exact own_setCells (by omega) ([.slice (some ⟨g, 0, none⟩) 1 pc1]) 0 _ OP.out)
  replace HI := hide (show StR w7' w7'.heap.size A' l by rw [ew7']; exact HIK.out ([.slice (some ⟨g, 0, none⟩) 1 pc1]) 0 _ w.heap.size (by omega) HI.out)
  replace Q := hide (show Below w.heap.size w w7' by rw [ew7']; exact Q.out.trans (below_setCells ([.slice (some ⟨g, 0, none⟩) 1 pc1]) 0 _ (by omega)))
  replace B := hide (show w7'.heap[w.heap.size]? = some (.cells (rtL (some ⟨g, 0, none⟩) pc1 OA oc).toArray 31 (0, 0)) by rw [ew7']; exact set_heap ([.slice (some ⟨g, 0, none⟩) 1 pc1]) (rtL PA pc OA oc) 0 _ B.out)
  clear ew7'
  obtain ⟨b0, b1⟩ := two_cellsT (a := .slice (some ⟨g, 0, none⟩) 1 pc1) (b := .slice OA 1 oc) B.out
  have TH := hide (show World.there w7' g 3 3 from fun j hj => by have h := OP.out.there (ptRow_rows _) (k := 0) (by simp) (3 + j) (by omega); simpa [Nat.add_comm, Nat.add_left_comm] using h)
  go_wp2_with (first | (refine wpList_load_row rfl 25 (.tmp 9) (by rfl) xr (by rfl) 25 (rgL A' l.length c').toArray (0, 0) _ (by exact X.out) Tryz.underlying25 (by rfl) (by kernel_rfl) ?_) | (refine wpList_store_hid (by rfl) 25 (.tmp 43) (.tmp 41) (by rfl) g 3 (rgL A' l.length c') (by rfl) (by rfl) (by exact TH.out) (by kernel_rfl) (by simp [Value.oneCell', rgL]) ?_))
  intro w8' ew8'
  clear b0 b1 TH
  replace B := hide (show w8'.heap[w.heap.size]? = some (.cells (rtL (some ⟨g, 0, none⟩) pc1 OA oc).toArray 31 (0, 0)) by rw [ew8'.out]; exact other_heap (by omega) _ _ _ B.out)
  replace T := hide (show w8'.heap[w.heap.size + 1]? = some (.cells ([.int .i64 2]).toArray 3 (0, 0)) by rw [ew8'.out]; exact other_heap (by omega) _ _ _ T.out)
  replace R := hide (show w8'.heap[w.heap.size + 2]? = some (.cells ([.slice none 0 0, .slice none 0 0]).toArray 31 (0, 0)) by rw [ew8'.out]; exact other_heap (by omega) _ _ _ R.out)
  clear X 
  replace HI := hide (show StR w8' w8'.heap.size A' l by rw [ew8'.out]; exact HIK.out _ _ _ g (by omega) HI.out)
  replace OP := hide (show Own w8' N 27 6 (some ⟨g, 0, none⟩) pc1 [ptc (pt1 A' l.length c')] by rw [ew8'.out]; exact own_ring OP.out)
  replace Q := hide (show Below w.heap.size w w8' by rw [ew8'.out]; exact Q.out.trans (below_setCells _ _ _ (by omega)))
  clear ew8'
  go_upto_region 9 with fail
  have PF := hide (show w8'.cell? ⟨g, 0, none⟩ = some (.int .i64 1) from own_pt OP.out 0 _ rfl)
  refine wp_region_L [0, 1, 2, 3, 4, 5, 6, 7, 8] [(0, fun W => W.heap[w.heap.size]? = some (.cells (rtL (some ⟨g, 0, none⟩) pc1 OA oc).toArray 31 (0, 0))), (2, fun W => W.heap[w.heap.size]? = some (.cells (rtL (some ⟨g, 0, none⟩) pc1 OA oc).toArray 31 (0, 0))), (6, fun W => W.cell? ⟨g, 0, none⟩ = some (.int .i64 1))] (by kernel_rfl) ?_
  replace B := hide (show w8'.drew.heap[w.heap.size]? = some (.cells (rtL (some ⟨g, 0, none⟩) pc1 OA oc).toArray 31 (0, 0)) from B.out)
  replace T := hide (show w8'.drew.heap[w.heap.size + 1]? = some (.cells ([.int .i64 2]).toArray 3 (0, 0)) from T.out)
  replace R := hide (show w8'.drew.heap[w.heap.size + 2]? = some (.cells ([.slice none 0 0, .slice none 0 0]).toArray 31 (0, 0)) from R.out)
  replace OP := hide (show Own (w8'.drew) N 27 6 (some ⟨g, 0, none⟩) pc1 [ptc (pt1 A' l.length c')] from (OP.out.grown ((Below.refl w8'.heap.size w8').drew)))
  replace HI := hide (show StR (w8'.drew) (w8'.drew).heap.size A' l from Rd.next HI.out ((Below.refl w8'.heap.size w8').drew) ((Below.refl w8'.heap.size w8').drew).size)
  replace PF := hide (show (w8'.drew).cell? ⟨g, 0, none⟩ = some (.int .i64 1) from PF.out)
  replace Q := hide (show Below w.heap.size w w8'.drew from Q.out.drew)
  generalize w8'.drew = w9' at *
  refine wpAnyL_load (i := 0) (v := .agg (rtL (some ⟨g, 0, none⟩) pc1 OA oc).toArray) rfl rfl (by kernel_rfl) (by kernel_rfl) (by kernel_rfl) (by kernel_rfl) (by kernel_rfl) (fun _ _ _ h => h) rfl (fun W h => exec_heap W w.heap.size 31 (rtL (some ⟨g, 0, none⟩) pc1 OA oc) _ h Tryz.underlying31 rfl (by kernel_rfl) _ _ (.tmp 2) (by rfl) (by rfl)) (B.out) ?_
  go_simp
  refine wpAnyL_pure (i := 1) (v := .pointer (some ⟨w.heap.size, 0, none⟩)) rfl rfl (by kernel_rfl) (by kernel_rfl) (by kernel_rfl) (by kernel_rfl) (by kernel_rfl) (fun _ _ _ h => h) rfl (fun W => by go_simp) ?_
  go_simp
  refine wpAnyL_load (i := 2) (v := .slice (some ⟨g, 0, none⟩) 1 pc1) rfl rfl (by kernel_rfl) (by kernel_rfl) (by kernel_rfl) (by kernel_rfl) (by kernel_rfl) (fun _ _ _ h => h) rfl (fun W h => by (have hc0 := (two_cellsT h).1; clear h; go_simp)) (B.out) ?_
  go_simp
  refine wpAnyL_pure (i := 3) (v := .int .i64 0) rfl rfl (by kernel_rfl) (by kernel_rfl) (by kernel_rfl) (by kernel_rfl) (by kernel_rfl) (fun _ _ _ h => h) rfl (fun W => by go_simp) ?_
  go_simp
  refine wpAnyL_pure (i := 4) (v := .pointer (some ⟨g, 0, none⟩)) rfl rfl (by kernel_rfl) (by kernel_rfl) (by kernel_rfl) (by kernel_rfl) (by kernel_rfl) (fun _ _ _ h => h) rfl (fun W => by go_simp) ?_
  go_simp
  refine wpAnyL_pure (i := 5) (v := .pointer (some ⟨g, 0, none⟩)) rfl rfl (by kernel_rfl) (by kernel_rfl) (by kernel_rfl) (by kernel_rfl) (by kernel_rfl) (fun _ _ _ h => h) rfl (fun W => by go_simp) ?_
  go_simp
  refine wpAnyL_load (i := 6) (v := .int .i64 1) rfl rfl (by kernel_rfl) (by kernel_rfl) (by kernel_rfl) (by kernel_rfl) (by kernel_rfl) (fun _ _ _ h => h) rfl (fun W h => by (have hc0 := h; clear h; go_simp)) (PF.out) ?_
  go_simp
  refine wpAnyL_pure (i := 7) (v := .string x) rfl rfl (by kernel_rfl) (by kernel_rfl) (by kernel_rfl) (by kernel_rfl) (by kernel_rfl) (fun _ _ _ h => h) rfl (fun W => by go_simp) ?_
  go_simp
  refine wpAnyL_pure (i := 8) (v := .int .i64 0) rfl rfl (by kernel_rfl) (by kernel_rfl) (by kernel_rfl) (by kernel_rfl) (by kernel_rfl) (fun _ _ _ h => h) rfl (fun W => by go_simp) ?_
  go_simp
  refine wpAnyL_one (i := 9) (by kernel_rfl) ?_
  refine wpOp_do rfl rfl ?_
  have Tw10' := hide (show World.there _ (w.heap.size + 2) 0 2 from there_heap (cs := [.slice none 0 0, .slice none 0 0]) R.out)
  refine wp_store_as 31 (.tmp 4) (.tmp 44) rfl (w.heap.size + 2) 0 (rtL (some ⟨g, 0, none⟩) pc1 OA oc) (by rfl) (by rfl) (by exact Tw10'.out) (by kernel_rfl) (by simp [Value.oneCell', rtL]) ?_
  intro w10' ew10'
  replace B := hide (show w10'.heap[w.heap.size]? = some (.cells (rtL (some ⟨g, 0, none⟩) pc1 OA oc).toArray 31 (0, 0)) by rw [ew10']; exact other_heap (by omega) _ _ _ B.out)
  replace T := hide (show w10'.heap[w.heap.size + 1]? = some (.cells ([.int .i64 2]).toArray 3 (0, 0)) by rw [ew10']; exact other_heap (by omega) _ _ _ T.out)
  replace OP := hide (show Own w10' N 27 6 (some ⟨g, 0, none⟩) pc1 [ptc (pt1 A' l.length c')] by rw [ew10']; exact own_setCells (by omega) _ _ _ OP.out)
  replace HI := hide (show StR w10' w10'.heap.size A' l by rw [ew10']; exact HIK.out _ _ _ (w.heap.size + 1 + 1) (by omega) HI.out)
  replace Q := hide (show Below w.heap.size w w10' by rw [ew10']; exact Q.out.trans (below_setCells _ _ _ (by have := Q.out.size; omega)))
  replace R := hide (show w10'.heap[w.heap.size + 2]? = some (.cells (rtL (some ⟨g, 0, none⟩) pc1 OA oc).toArray 31 (0, 0)) by rw [ew10']; exact whole_heap (rtL (some ⟨g, 0, none⟩) pc1 OA oc) (xs := [.slice none 0 0, .slice none 0 0]) R.out rfl)
  clear ew10' Tw10'
  have PF2 := hide (show w10'.cell? ⟨g, 0, none⟩ = some (.int .i64 1) from own_pt OP.out 0 _ rfl)
  refine ⟨keepsL_mk (by kernel_rfl) (.past (by kernel_rfl) (.cons (by exact B.out) (.cons (by exact PF2.out) .nil))), ?_⟩
  clear PF2
  go_simp
  refine wpAnyL_one (i := 10) (by kernel_rfl) ?_
  refine wpOp_do rfl rfl ?_
  go_simp
  refine ⟨keepsL_all (by kernel_rfl) (by kernel_rfl), ?_⟩
  go_simp
  refine wpAnyL_one (i := 11) (by kernel_rfl) ?_
  refine wpOp_do rfl rfl ?_
  go_simp
  refine ⟨keepsL_all (by kernel_rfl) (by kernel_rfl), ?_⟩
  go_simp
  refine wpAnyL_one (i := 12) (by kernel_rfl) ?_
  refine wpOp_do rfl rfl ?_
  go_simp
  refine ⟨keepsL_all (by kernel_rfl) (by kernel_rfl), ?_⟩
  go_simp
  refine wpAnyL_done (by kernel_rfl) ?_ _
  go_wp2_with fail
  refine bodyPost_ret (results_cell_tmp3T (by rfl) _ w10' (w.heap.size + 1 + 1) 31 (rtL (some ⟨g, 0, none⟩) pc1 OA oc).toArray (0, 0) _ (.int .i64 1) (.string x) (.int .i64 0) (by rfl) (by rfl) (by rfl) (by rfl) R.out Tryz.underlying31 (by rfl) (by kernel_rfl)) rfl ⟨_, _, A', c', rfl, ⟨own_ptR OP.out, Rd.next HR.out.O Q.out Q.out.size, HI.out, by have := HR.out.n; simp at this; omega, HCP.out, fun y hy => HR.out.s y (List.mem_cons_of_mem _ hy)⟩, fun g9 off e => by cases e; omega, HGA.out, Q.out⟩
end Go.Proofs.YthkilodnghiocaaGreatDoor
