/- ring.Put, Take of strings. -/
import Derived.Test.YthkilodnghiocaaGreatDoorMgOff
namespace Go.Proofs.YthkilodnghiocaaGreatDoor
open Go.ChangeShapes Go.WideShapes Go.ChangeAt Go.RowKit

theorem slSt : SlT Tryz.prog 89 9 1 16 := SlT.mk Tryz.underlying89 (z := .string ⟨#[]⟩) (by kernel_rfl) rfl (by decide)
set_option maxRecDepth 100000 in
set_option maxHeartbeats 1000000 in
theorem cloneSt_any (l : List ByteArray) (A : Option Addr) (c : Nat) (w : World) (hr : StR w w.heap.size A l) (hl : l.length ≤ 100000) :
    Calls Tryz.prog 47 #[.slice A l.length c] w fun e w' => ∃ A' c', e = .returned (.slice A' l.length c') ∧ Own w' w.heap.size 9 1 A' c' (stRow l) ∧ Below w.heap.size w w' := by
  have hnil := fun (w : World) a n c n' c' => Lib.run_eql_slice_nil (P := Tryz.prog) w 89 9 a n c n' c' Tryz.underlying89
  rcases A with _ | a
  · have h0 : l = [] := by
      rcases l with _ | ⟨x, l⟩
      · rfl
      · obtain ⟨_, _, e, _⟩ := hr (by simp [stRow])
        cases e
    subst h0
    go_enter Tryz.func47, Tryz.ntmps47
    go_wp2
    go_ret
    exact ⟨none, 0, rfl, Own.nil, Below.refl _ _⟩
  · have O0 := hide (Own.lit w w.heap.size 9 1 [] (Nat.le_refl _) (by simp) (by simp))
    have q0 : Below w.heap.size w (w.alloc (.cells #[] 9)) := (Below.refl _ _).alloc (Nat.le_refl _) _
    have R0 := hide (Rd.next hr q0 q0.size)
    have S1 := hide (show (([] : List (List Value)).length + (stRow l).length) * 16 ≤ 140737488355328 by simp [stRow]; omega)
    have S2 := hide (show ([] : List (List Value)).length + (stRow l).length ≤ maxLen by simp [maxLen, stRow]; omega)
    have S3 := hide (show l.length = (stRow l).length by simp [stRow])
    clear hr
    go_enter Tryz.func47, Tryz.ntmps47
    go_wp2_with (at_builtin; refine wpList_append_rows _ rfl _ _ 89 rfl slSt w.heap.size _ _ _ [] rfl O0.out _ _ _ (stRow l) rfl R0.out (stRow_rows l) (stRow_ones l) S1.out S2.out ?_ rfl S3.out ?_)
    · simp
    intro A4 n4 w4 o4 g4
    have q4 : Below w.heap.size w w4 := below_append q0 g4 O0.out (Nat.le_refl _) q0.size
    have O4 := hide o4
    clear o4 g4 O0 R0 S1 S2 S3 q0 hnil
    go_wp2
    go_ret
    exact ⟨A4, n4, by simp, O4.out, q4⟩

set_option maxRecDepth 100000 in
set_option maxHeartbeats 2000000 in
theorem behind_ok (l : List ByteArray) (A : Option Addr) (c : Nat) (x : ByteArray) (w : World) (hr : StR w w.heap.size A l) (hl : l.length ≤ 16) (hc : l.length ≤ c) :
    Calls Tryz.prog 31 #[.slice A l.length c, .string x, .int .i64 0] w fun e w' => ∃ A' c', e = .returned (.slice A' (l.length + 1) c') ∧ Own w' w.heap.size 9 1 A' c' (stRow (l ++ [x])) ∧ Below w.heap.size w w' := by
  obtain ⟨A1, hA1, hf⟩ := run_from (P := Tryz.prog) 89 9 Tryz.underlying89 1 (fun W => by kernel_rfl) A l.length c 0 0 rfl (by omega)
  have hA2 : A1 = A ∨ l = [] := by
    rw [hA1]
    split
    · exact .inl rfl
    · cases A with
      | none =>
        refine .inr ?_
        rcases l with _ | ⟨y, l⟩
        · rfl
        · obtain ⟨_, _, e, _⟩ := hr (by simp [stRow])
          cases e
      | some a => refine .inl ?_; obtain ⟨b, off, sp⟩ := a; simp [Addr.add]
  have hr1 : StR w w.heap.size A1 l := by
    rcases hA2 with h | h
    · rw [h]; exact hr
    · subst h; exact Rd.nil
  simp only [Nat.sub_zero] at hf
  have CL := hide (cloneSt_any l A1 c w hr1 (by omega))
  clear hA1 hA2 hr hr1
  go_enter Tryz.func31, Tryz.ntmps31
  go_wp2_with fail
  (with_reducible refine CL.out.mono ?_)
  rintro e1 w1 ⟨A2, c2, rfl, o1, q1⟩
  have O1 := hide o1
  have Q1 := hide q1
  have zb := q1.size
  clear o1 q1 CL hf
  go_wp2_with (at_builtin; refine wpList_append_one _ _ [.string x] (by rfl) rfl _ _ 89 rfl slSt (by decide) rfl (by simp [Value.oneCell']) w.heap.size _ _ _ (stRow l) (by rfl) (by exact O1.out) 1 (by rfl) (by simp [stRow]; omega) (by exact zb) (by simp [stRow]) ?_)
  intro A3 c3 w3 ap
  have O3 := hide (show Own w3 w.heap.size 9 1 A3 c3 (stRow (l ++ [x])) by unfold stRow; rw [List.map_append]; exact ap.own)
  have Q3 := hide (ap.q Q1.out (Nat.le_refl _))
  clear ap O1 Q1
  go_wp2
  go_ret
  exact ⟨A3, c3, rfl, O3.out, Q3.out⟩

set_option maxRecDepth 100000 in
set_option maxHeartbeats 16000000 in
theorem rgPut_ok (l : List ByteArray) (A : Option Addr) (c : Nat) (x : ByteArray) (w : World) (hr : StR w w.heap.size A l) (hl : l.length < 4) (hc : l.length ≤ c) :
    Calls Tryz.prog 13 #[.agg (rgL A l.length c).toArray, .string x] w fun e w' => ∃ A' c', e = .returned (.tuple #[.agg (rgL A' (l.length + 1) c').toArray, .int .i64 0, .int .i64 0]) ∧ Own w' w.heap.size 9 1 A' c' (stRow (l ++ [x])) ∧ Below w.heap.size w w' := by
  obtain ⟨w0, hw0⟩ : ∃ w0, w0 = (w.alloc (.cells (rgL A l.length c).toArray 25)).alloc (.cells ([.slice none 0 0, .int .i64 0, .bool false]).toArray 25) := ⟨_, rfl⟩
  have B := hide (heap_below (World.alloc_heap_new w (.cells (rgL A l.length c).toArray 25)) ((Below.refl _ (w.alloc (.cells (rgL A l.length c).toArray 25))).alloc (Nat.le_refl _) (.cells ([.slice none 0 0, .int .i64 0, .bool false]).toArray 25)))
  have R := hide (World.alloc_heap_new (w.alloc (.cells (rgL A l.length c).toArray 25)) (.cells ([.slice none 0 0, .int .i64 0, .bool false]).toArray 25))
  have Q : Hid (Below w.heap.size w w0) := by rw [hw0]; exact hide (((Below.refl w.heap.size w).alloc (Nat.le_refl _) (.cells (rgL A l.length c).toArray 25)).alloc (by simp; try omega) (.cells ([.slice none 0 0, .int .i64 0, .bool false]).toArray 25))
  rw [← hw0] at B R
  simp only [World.size_alloc] at R
  have RG := hide (fun W => rgRight_ok A l.length c W (by omega))
  have RM := hide (fun W => rgRoom_ok A l.length c W (by omega))
  have BH := hide (fun W (q : Below w.heap.size w W) => behind_ok l A c x W (Rd.next hr q q.size) (by omega) hc)
  have h40 : (0 : Int) < 4 - (l.length : Int) := by omega
  clear hr
  go_enter Tryz.func13, Tryz.ntmps13
  go_upto_region 1 with fail
  change Code.wp _ _ _ _ ((w.alloc (.cells (rgL A l.length c).toArray 25)).alloc (.cells ([.slice none 0 0, .int .i64 0, .bool false]).toArray 25))
  rw [← hw0]
  clear hw0
  go_wp2_with (refine wpList_load_row rfl 25 (.tmp 2) (by rfl) w.heap.size (by rfl) 25 (rgL A l.length c).toArray (0, 0) _ (by exact B.out) Tryz.underlying25 (by rfl) (by kernel_rfl) ?_)
  (with_reducible refine (RG.out _).mono ?_)
  rintro ew1' w1' ⟨rfl, qw1'⟩
  replace B := hide (heap_below B.out qw1')
  replace R := hide (heap_below R.out qw1')
  replace Q := hide (below_next Q.out Q.out.size qw1')
  clear qw1'
  clear RG
  go_wp2_with (refine wpList_load_row rfl 25 (.tmp 2) (by rfl) w.heap.size (by rfl) 25 (rgL A l.length c).toArray (0, 0) _ (by exact B.out) Tryz.underlying25 (by rfl) (by kernel_rfl) ?_)
  (with_reducible refine (RM.out _).mono ?_)
  rintro ew2' w2' ⟨rfl, qw2'⟩
  replace B := hide (heap_below B.out qw2')
  replace R := hide (heap_below R.out qw2')
  replace Q := hide (below_next Q.out Q.out.size qw2')
  clear qw2'
  clear RM
  have B1 := hide (BH.out _ Q.out)
  clear BH
  obtain ⟨c0, c1, c2⟩ := three_cells (a := .slice A l.length c) (b := .int .i64 4) (c := .bool false) B.out
  have zB := heap_lt B.out
  have zR := heap_lt R.out
  have zQ := Q.out.size
  go_wp2_with fail
  clear c0 c1 c2
  (with_reducible refine (B1.out).mono ?_)
  rintro e9 w9 ⟨A', c', rfl, oS, q9⟩
  have OS := hide oS
  clear oS B1
  obtain ⟨N, hN⟩ : ∃ N, N = w2'.heap.size := ⟨_, rfl⟩
  rw [← hN] at OS zB zR zQ
  replace B := hide (heap_below B.out q9)
  replace R := hide (heap_below R.out q9)
  replace Q := hide (below_next Q.out Q.out.size q9)
  clear q9
  replace hN := hide hN
  obtain ⟨c0, c1, c2⟩ := three_cells (a := .slice A l.length c) (b := .int .i64 4) (c := .bool false) B.out
  have hfz : w9.frozen? ⟨w.heap.size, 0, none⟩ = false := by have := B.out; simp [World.frozen?, this]
  go_upto_region 9 with fail
  clear c0 c1 c2 hfz
  obtain ⟨w3', ew3'⟩ : ∃ wq, wq = w9.setCell ⟨w.heap.size, 0, none⟩ (.slice A' (l.length + 1) c') := ⟨_, rfl⟩
  rw [← ew3']
  replace R := hide (show w3'.heap[w.heap.size + 1]? = some (.cells ([.slice none 0 0, .int .i64 0, .bool false]).toArray 25 (0, 0)) by rw [ew3']; exact other_heap (by omega) ([.slice A' (l.length + 1) c']) 0 _ R.out)
  replace OS := hide (show Own w3' N 9 1 A' c' (stRow (l ++ [x])) by rw [ew3']; exact own_setCells (by omega) ([.slice A' (l.length + 1) c']) 0 _ OS.out)
  replace Q := hide (show Below w.heap.size w w3' by rw [ew3']; exact Q.out.trans (below_setCells ([.slice A' (l.length + 1) c']) 0 _ (by omega)))
  replace B := hide (show w3'.heap[w.heap.size]? = some (.cells (rgL A' (l.length + 1) c').toArray 25 (0, 0)) by rw [ew3']; exact set_heap ([.slice A' (l.length + 1) c']) (rgL A l.length c) 0 _ B.out)
  clear ew3'
  have Tw4' := hide (show World.there _ (w.heap.size + 1) 0 3 from there_heap (cs := [.slice none 0 0, .int .i64 0, .bool false]) R.out)
  go_wp2_with (first | (refine wpList_load_row rfl 25 (.tmp 2) (by rfl) w.heap.size (by rfl) 25 (rgL A' (l.length + 1) c').toArray (0, 0) _ (by exact B.out) Tryz.underlying25 (by rfl) (by kernel_rfl) ?_) | (refine wpList_store_hid (by rfl) 25 (.tmp 4) (.tmp 28) (by rfl) (w.heap.size + 1) 0 (rgL A' (l.length + 1) c') (by rfl) (by rfl) (by exact Tw4'.out) (by kernel_rfl) (by simp [Value.oneCell', rgL]) ?_))
  intro w4' ew4'
  replace B := hide (show w4'.heap[w.heap.size]? = some (.cells (rgL A' (l.length + 1) c').toArray 25 (0, 0)) by rw [ew4'.out]; exact other_heap (by omega) _ _ _ B.out)
  replace OS := hide (show Own w4' N 9 1 A' c' (stRow (l ++ [x])) by rw [ew4'.out]; exact own_setCells (by omega) _ _ _ OS.out)
  replace Q := hide (show Below w.heap.size w w4' by rw [ew4'.out]; exact Q.out.trans (below_setCells _ _ _ (by have := Q.out.size; omega)))
  replace R := hide (show w4'.heap[w.heap.size + 1]? = some (.cells (rgL A' (l.length + 1) c').toArray 25 (0, 0)) by rw [ew4'.out]; exact whole_heap (rgL A' (l.length + 1) c') (xs := [.slice none 0 0, .int .i64 0, .bool false]) R.out rfl)
  clear ew4' Tw4'
  go_wp2_with fail
  refine bodyPost_ret (results_cell_tmp2 (by rfl) _ w4' (w.heap.size + 1) 25 (rgL A' (l.length + 1) c').toArray (0, 0) _ (.int .i64 0) (.int .i64 0) (by rfl) (by rfl) (by rfl) R.out Tryz.underlying25 (by rfl) (by kernel_rfl)) rfl (⟨A', c', rfl, Own.mono OS.out (by omega), Q.out⟩)

set_option maxRecDepth 100000 in
set_option maxHeartbeats 16000000 in
theorem rgPut_full (l : List ByteArray) (A : Option Addr) (c : Nat) (x : ByteArray) (w : World) (hl : l.length = 4) :
    Calls Tryz.prog 13 #[.agg (rgL A l.length c).toArray, .string x] w fun e w' => (∃ v, e = .returned (.tuple #[v, .int .i64 0, .int .i64 20]) ∧ v = .agg #[.slice none 0 0, .int .i64 0, .bool false]) ∧ Below w.heap.size w w' := by
  obtain ⟨w0, hw0⟩ : ∃ w0, w0 = (w.alloc (.cells (rgL A l.length c).toArray 25)).alloc (.cells ([.slice none 0 0, .int .i64 0, .bool false]).toArray 25) := ⟨_, rfl⟩
  have B := hide (heap_below (World.alloc_heap_new w (.cells (rgL A l.length c).toArray 25)) ((Below.refl _ (w.alloc (.cells (rgL A l.length c).toArray 25))).alloc (Nat.le_refl _) (.cells ([.slice none 0 0, .int .i64 0, .bool false]).toArray 25)))
  have R := hide (World.alloc_heap_new (w.alloc (.cells (rgL A l.length c).toArray 25)) (.cells ([.slice none 0 0, .int .i64 0, .bool false]).toArray 25))
  have Q : Hid (Below w.heap.size w w0) := by rw [hw0]; exact hide (((Below.refl w.heap.size w).alloc (Nat.le_refl _) (.cells (rgL A l.length c).toArray 25)).alloc (by simp; try omega) (.cells ([.slice none 0 0, .int .i64 0, .bool false]).toArray 25))
  rw [← hw0] at B R
  simp only [World.size_alloc] at R
  have RG := hide (fun W => rgRight_ok A l.length c W (by omega))
  have RM := hide (fun W => show Calls Tryz.prog 30 #[.agg (rgL A l.length c).toArray] W fun e w' => e = .returned (.int .i64 0) ∧ Below W.heap.size W w' from by
    have h := rgRoom_ok A l.length c W (by omega)
    have e : (4 : Int) - (l.length : Int) = 0 := by omega
    rw [e] at h
    exact h)
  clear hl
  go_enter Tryz.func13, Tryz.ntmps13
  go_upto_region 1 with fail
  change Code.wp _ _ _ _ ((w.alloc (.cells (rgL A l.length c).toArray 25)).alloc (.cells ([.slice none 0 0, .int .i64 0, .bool false]).toArray 25))
  rw [← hw0]
  clear hw0
  go_wp2_with (refine wpList_load_row rfl 25 (.tmp 2) (by rfl) w.heap.size (by rfl) 25 (rgL A l.length c).toArray (0, 0) _ (by exact B.out) Tryz.underlying25 (by rfl) (by kernel_rfl) ?_)
  (with_reducible refine (RG.out _).mono ?_)
  rintro ew1' w1' ⟨rfl, qw1'⟩
  replace B := hide (heap_below B.out qw1')
  replace R := hide (heap_below R.out qw1')
  replace Q := hide (below_next Q.out Q.out.size qw1')
  clear qw1'
  clear RG
  go_wp2_with (refine wpList_load_row rfl 25 (.tmp 2) (by rfl) w.heap.size (by rfl) 25 (rgL A l.length c).toArray (0, 0) _ (by exact B.out) Tryz.underlying25 (by rfl) (by kernel_rfl) ?_)
  (with_reducible refine (RM.out _).mono ?_)
  rintro ew2' w2' ⟨rfl, qw2'⟩
  replace B := hide (heap_below B.out qw2')
  replace R := hide (heap_below R.out qw2')
  replace Q := hide (below_next Q.out Q.out.size qw2')
  clear qw2'
  clear RM
  obtain ⟨c0, c1, c2⟩ := three_cells (a := .slice A l.length c) (b := .int .i64 4) (c := .bool false) B.out
  have Tw3' := hide (show World.there _ (w.heap.size + 1) 0 3 from there_heap (cs := [.slice none 0 0, .int .i64 0, .bool false]) R.out)
  go_wp2_with (refine wpList_store_hid (by rfl) 25 (.tmp 4) (.tmp 21) (by rfl) (w.heap.size + 1) 0 ([.slice none 0 0, .int .i64 0, .bool false]) (by rfl) (by rfl) (by exact Tw3'.out) (by kernel_rfl) (by simp [Value.oneCell', rgL]) ?_)
  intro w3' ew3'
  replace B := hide (show w3'.heap[w.heap.size]? = some (.cells (rgL A l.length c).toArray 25 (0, 0)) by rw [ew3'.out]; exact other_heap (by omega) _ _ _ B.out)
  replace Q := hide (show Below w.heap.size w w3' by rw [ew3'.out]; exact Q.out.trans (below_setCells _ _ _ (by have := Q.out.size; omega)))
  replace R := hide (show w3'.heap[w.heap.size + 1]? = some (.cells ([.slice none 0 0, .int .i64 0, .bool false]).toArray 25 (0, 0)) by rw [ew3'.out]; exact whole_heap ([.slice none 0 0, .int .i64 0, .bool false]) (xs := [.slice none 0 0, .int .i64 0, .bool false]) R.out rfl)
  clear ew3' Tw3'
  clear c0 c1 c2
  go_wp2_with fail
  refine bodyPost_ret (results_cell_tmp2 (by rfl) _ w3' (w.heap.size + 1) 25 ([.slice none 0 0, .int .i64 0, .bool false]).toArray (0, 0) _ (.int .i64 0) (.int .i64 20) (by rfl) (by rfl) (by rfl) R.out Tryz.underlying25 (by rfl) (by kernel_rfl)) rfl ⟨⟨_, rfl, rfl⟩, Q.out⟩

set_option maxRecDepth 100000 in
set_option maxHeartbeats 16000000 in
theorem rgTake_ok (x : ByteArray) (l : List ByteArray) (A : Option Addr) (c : Nat) (w : World) (hr : StR w w.heap.size A (x :: l)) (hl : l.length + 1 ≤ 4) (hc : l.length + 1 ≤ c) :
    Calls Tryz.prog 17 #[.agg (rgL A (l.length + 1) c).toArray] w fun e w' => ∃ A' c', e = .returned (.tuple #[.agg (rgL A' l.length c').toArray, .string x, .int .i64 0]) ∧ StR w' w'.heap.size A' l ∧ l.length ≤ c' ∧ (∀ g off, A' = some ⟨g, off, none⟩ → ∃ o2, A = some ⟨g, o2, none⟩) ∧ Below w.heap.size w w' := by
  obtain ⟨w0, hw0⟩ : ∃ w0, w0 = (w.alloc (.cells (rgL A (l.length + 1) c).toArray 25)).alloc (.cells ([.slice none 0 0, .int .i64 0, .bool false]).toArray 25) := ⟨_, rfl⟩
  have B := hide (heap_below (World.alloc_heap_new w (.cells (rgL A (l.length + 1) c).toArray 25)) ((Below.refl _ (w.alloc (.cells (rgL A (l.length + 1) c).toArray 25))).alloc (Nat.le_refl _) (.cells ([.slice none 0 0, .int .i64 0, .bool false]).toArray 25)))
  have R := hide (World.alloc_heap_new (w.alloc (.cells (rgL A (l.length + 1) c).toArray 25)) (.cells ([.slice none 0 0, .int .i64 0, .bool false]).toArray 25))
  have Q : Hid (Below w.heap.size w w0) := by rw [hw0]; exact hide (((Below.refl w.heap.size w).alloc (Nat.le_refl _) (.cells (rgL A (l.length + 1) c).toArray 25)).alloc (by simp; try omega) (.cells ([.slice none 0 0, .int .i64 0, .bool false]).toArray 25))
  rw [← hw0] at B R
  simp only [World.size_alloc] at R
  have RG := hide (fun W => rgRight_ok A (l.length + 1) c W (by omega))
  obtain ⟨A1, hA1, hf⟩ := run_from (P := Tryz.prog) 22 9 Tryz.underlying22 1 (fun W => by kernel_rfl) A (l.length + 1) c 1 1 rfl (by omega)
  have h1 : StR w w.heap.size A1 l := by
    have h := Rd.drop hr 1 c (by simp [stRow]; omega)
    rw [← hA1] at h
    exact h
  have hg1 : ∀ g off, A1 = some ⟨g, off, none⟩ → g < w.heap.size ∨ l.length = 0 := fun g off e => by
    by_cases h0 : 0 < l.length
    · obtain ⟨b, o2, e2, hb, _⟩ := h1 (by simp [stRow]; omega)
      rw [e] at e2
      cases e2
      exact .inl hb
    · exact .inr (by omega)
  obtain ⟨xb, xo, hAx, hxb, hx0⟩ := hr.at_ (k := 0) (by simp)
  rw [List.getElem_cons_zero, Nat.add_zero] at hx0
  have hg : Hid (∀ g off, A1 = some ⟨g, off, none⟩ → ∃ o2, A = some ⟨g, o2, none⟩) := hide (fun g off e => by
    rw [hA1, hAx] at e
    rw [hAx]
    split at e
    · cases e; exact ⟨_, rfl⟩
    · simp [Addr.add] at e; exact ⟨xo, by rw [e.1]⟩)
  have H1 := hide h1
  have hn1 : ((l.length : Int) + 1 == 0) = false := by rw [beq_eq_false_iff_ne]; omega
  have HC := hide hc
  have X0 := hide hx0
  have HXB := hide hxb
  simp only [Nat.add_sub_cancel] at hf
  replace hAx := hide hAx
  clear hr hA1 h1 hg1 hx0 hxb hc
  go_enter Tryz.func17, Tryz.ntmps17
  go_upto_region 2 with fail
  change Code.wp _ _ _ _ ((w.alloc (.cells (rgL A (l.length + 1) c).toArray 25)).alloc (.cells ([.slice none 0 0, .int .i64 0, .bool false]).toArray 25))
  rw [← hw0]
  clear hw0
  go_wp2_with (refine wpList_load_row rfl 25 (.tmp 1) (by rfl) w.heap.size (by rfl) 25 (rgL A (l.length + 1) c).toArray (0, 0) _ (by exact B.out) Tryz.underlying25 (by rfl) (by kernel_rfl) ?_)
  (with_reducible refine (RG.out _).mono ?_)
  rintro ew1' w1' ⟨rfl, qw1'⟩
  replace B := hide (heap_below B.out qw1')
  replace R := hide (heap_below R.out qw1')
  replace Q := hide (below_next Q.out Q.out.size qw1')
  clear qw1'
  clear RG
  have hAy := hAx.out
  clear hAx
  subst hAy
  obtain ⟨c0, c1, c2⟩ := three_cells (a := .slice (some ⟨xb, xo, none⟩) (l.length + 1) c) (b := .int .i64 4) (c := .bool false) B.out
  have x0 := cellBelow Q.out HXB.out X0.out
  have hfz : w1'.frozen? ⟨w.heap.size, 0, none⟩ = false := by have := B.out; simp [World.frozen?, this]
  have zB := heap_lt B.out
  have zR := heap_lt R.out
  have zQ := Q.out.size
  go_upto_region 8 with fail
  clear c0 c1 c2 x0 hfz
  obtain ⟨w2', ew2'⟩ : ∃ wq, wq = w1'.setCell ⟨w.heap.size, 0, none⟩ (.slice A1 l.length (c - 1)) := ⟨_, rfl⟩
  rw [← ew2']
  replace R := hide (show w2'.heap[w.heap.size + 1]? = some (.cells ([.slice none 0 0, .int .i64 0, .bool false]).toArray 25 (0, 0)) by rw [ew2']; exact other_heap (by omega) ([.slice A1 l.length (c - 1)]) 0 _ R.out)
  replace Q := hide (show Below w.heap.size w w2' by rw [ew2']; exact Q.out.trans (below_setCells ([.slice A1 l.length (c - 1)]) 0 _ (by omega)))
  replace B := hide (show w2'.heap[w.heap.size]? = some (.cells (rgL A1 l.length (c - 1)).toArray 25 (0, 0)) by rw [ew2']; exact set_heap ([.slice A1 l.length (c - 1)]) (rgL (some ⟨xb, xo, none⟩) (l.length + 1) c) 0 _ B.out)
  clear ew2'
  have Tw3' := hide (show World.there _ (w.heap.size + 1) 0 3 from there_heap (cs := [.slice none 0 0, .int .i64 0, .bool false]) R.out)
  go_wp2_with (first | (refine wpList_load_row rfl 25 (.tmp 1) (by rfl) w.heap.size (by rfl) 25 (rgL A1 l.length (c - 1)).toArray (0, 0) _ (by exact B.out) Tryz.underlying25 (by rfl) (by kernel_rfl) ?_) | (refine wpList_store_hid (by rfl) 25 (.tmp 2) (.tmp 28) (by rfl) (w.heap.size + 1) 0 (rgL A1 l.length (c - 1)) (by rfl) (by rfl) (by exact Tw3'.out) (by kernel_rfl) (by simp [Value.oneCell', rgL]) ?_))
  intro w3' ew3'
  replace B := hide (show w3'.heap[w.heap.size]? = some (.cells (rgL A1 l.length (c - 1)).toArray 25 (0, 0)) by rw [ew3'.out]; exact other_heap (by omega) _ _ _ B.out)
  replace Q := hide (show Below w.heap.size w w3' by rw [ew3'.out]; exact Q.out.trans (below_setCells _ _ _ (by have := Q.out.size; omega)))
  replace R := hide (show w3'.heap[w.heap.size + 1]? = some (.cells (rgL A1 l.length (c - 1)).toArray 25 (0, 0)) by rw [ew3'.out]; exact whole_heap (rgL A1 l.length (c - 1)) (xs := [.slice none 0 0, .int .i64 0, .bool false]) R.out rfl)
  clear ew3' Tw3'
  go_wp2_with fail
  refine bodyPost_ret (results_cell_tmp2 (by rfl) _ w3' (w.heap.size + 1) 25 (rgL A1 l.length (c - 1)).toArray (0, 0) _ (.string x) (.int .i64 0) (by rfl) (by rfl) (by rfl) R.out Tryz.underlying25 (by rfl) (by kernel_rfl)) rfl (⟨A1, c - 1, rfl, Rd.next H1.out Q.out Q.out.size, by have := HC.out; omega, hg.out, Q.out⟩)
end Go.Proofs.YthkilodnghiocaaGreatDoor
