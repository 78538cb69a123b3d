/- timer.Set. -/
import Derived.Test.YtnfpbbgajabjkaaTmG
import Derived.Test.YtnfpbbgajabjkaaTmI
namespace Go.Proofs.Ytnfpbbgajabjkaa
open Go.ChangeShapes Go.WideShapes Go.ChangeAt Go.RowKit

/-- A row in order, each against each. -/
def srtP (l : List Tm) : Prop := l.Pairwise fun a b => ¬ aheadT2 b a
theorem srtP_of {l : List Tm} (h : srtB l = true) : srtP l := by
  have h := srtB_iff.1 h
  unfold srtP
  rw [List.pairwise_iff_getElem]
  intro i j hi hj hij
  induction j with
  | zero => omega
  | succ j ih =>
    have h1 := h j (by omega) (Nat.zero_le _)
    rw [ordT_neg] at h1
    by_cases e : i = j
    · subst e; exact h1
    · have h2 := ih (by omega) (by omega)
      unfold aheadT2 at *
      omega
theorem srtP_mono {l : List Tm} (h : srtP l) (x : Tm) : ∀ a b (ha : a < l.length) (hb : b < l.length), a ≤ b → ordT l[b] x < 0 → ordT l[a] x < 0 := fun a b ha hb hab hx => by
  by_cases e : a = b
  · subst e; exact hx
  · have h1 := List.pairwise_iff_getElem.1 h a b ha hb (by omega)
    rw [ordT_neg] at *
    unfold aheadT2 at *
    omega
/-- Where x goes. -/
def posT (l : List Tm) (x : Tm) : Nat := (l.takeWhile fun y => decide (ordT y x < 0)).length
def insT (l : List Tm) (x : Tm) : List Tm := l.take (posT l x) ++ x :: l.drop (posT l x)
theorem own_lt2 {W : World} {base : Nat} {e : TypeId} {sz : Nat} {A : Option Addr} {c : Nat} {R : List (List Value)} (h : Own W base e sz A c R) : ∀ g off, A = some ⟨g, off, none⟩ → g < W.heap.size := fun g off he => by
  rcases h.2 with ⟨hv, _⟩ | ⟨g', cap, cur, hv, _, hg, _⟩
  · simp only [Value.slice.injEq] at hv; rw [hv.1] at he; cases he
  · simp only [Value.slice.injEq] at hv; rw [hv.1] at he; cases he; exact heap_lt hg
theorem posT_eq {l : List Tm} {x : Tm} {i : Nat} (hi : i ≤ l.length) (h1 : ∀ k (h : k < l.length), k < i → ordT l[k] x < 0) (h2 : ∀ k (h : k < l.length), i ≤ k → 0 ≤ ordT l[k] x) : posT l x = i := by
  unfold posT
  induction l generalizing i with
  | nil => simp at hi; subst hi; rfl
  | cons y l ih =>
    cases i with
    | zero =>
      have := h2 0 (by simp) (by omega)
      rw [List.takeWhile_cons_of_neg (by simpa using this)]
      rfl
    | succ i =>
      have h0 := h1 0 (by simp) (by omega)
      rw [List.takeWhile_cons_of_pos (by simpa using h0), List.length_cons, ih (i := i) (by simpa using hi) (fun k hk hki => h1 (k + 1) (by simpa using hk) (by omega)) (fun k hk hki => h2 (k + 1) (by simpa using hk) (by omega))]

set_option maxRecDepth 100000 in
set_option maxHeartbeats 4000000 in
theorem set_bad (now : Int) (l : List Tm) (A : Option Addr) (c : Nat) (id after : Int) (w : World) (hr : TmR w w.heap.size A l) (hl : l.length ≤ 1000) (hlc : l.length ≤ c) (hdue : ∀ x ∈ l, x.due ≤ 9223372036854775807) (hR : rightTm now l = false ∨ id < 0 ∨ 1000000 < id ∨ after < 1 ∨ 1000000 < after) :
    Calls Try.prog 13 #[.agg #[.int .i64 now, .slice A l.length c], .int .i64 id, .int .i64 after] w (fun e w' => e = .returned (.tuple #[.agg #[.int .i64 0, .slice none 0 0], .int .i64 1]) ∧ Below w.heap.size w w') := by
  have RI := hide (fun W (q : Below w.heap.size w W) => tmRight_any now l A c W (hr.next q q.size) hl hlc hdue)
  have HR := hide hr
  have q0 : Below w.heap.size w ((w.alloc (.cells #[.int .i64 now, .slice A l.length c] 24)).alloc (.cells #[.int .i64 0, .slice none 0 0] 24)) := ((Below.refl _ _).alloc (Nat.le_refl _) _).alloc (by simp) _
  have B0 : Hid (((w.alloc (.cells #[.int .i64 now, .slice A l.length c] 24)).alloc (.cells #[.int .i64 0, .slice none 0 0] 24)).heap[w.heap.size]? = some (.cells #[.int .i64 now, .slice A l.length c] 24 (0, 0))) :=
    hide (heap_below (World.alloc_heap_new w _) ((Below.refl _ _).alloc (Nat.le_refl _) _))
  have B1 : Hid (((w.alloc (.cells #[.int .i64 now, .slice A l.length c] 24)).alloc (.cells #[.int .i64 0, .slice none 0 0] 24)).heap[w.heap.size + 1]? = some (.cells #[.int .i64 0, .slice none 0 0] 24 (0, 0))) := by
    have := World.alloc_heap_new (w.alloc (.cells #[.int .i64 now, .slice A l.length c] 24)) (.cells #[.int .i64 0, .slice none 0 0] 24)
    exact hide (by simpa using this)
  clear hr hdue
  rcases hb : rightTm now l with _ | _
  · rw [hb] at RI
    clear hb hR
    go_enter Try.func13, Try.ntmps13
    go_wp2_with fail
    (with_reducible refine (RI.out _ q0).mono ?_)
    rintro e1 w1 ⟨rfl, q1⟩
    have q1' := below_next q0 q0.size q1
    have B1' := heap_below B1.out q1
    have zz := heap_lt B1'
    obtain ⟨y0, y1, y2, y3⟩ := two_box B1'
    clear B1' q1
    go_wp2
    refine bodyPost_ret (v := .tuple #[.agg #[.int .i64 0, .slice none 0 0], .int .i64 1]) (by simp [results, Try.results13, go_sem, y0, y1]) rfl ⟨rfl, ?_⟩
    repeat (first | ((with_reducible refine Below.setCell ?_ ?_ _); rotate_left 1; (first | (simp; omega) | simp | omega)) | ((with_reducible refine Below.alloc ?_ ?_ _); rotate_left 1; (first | (simp; omega) | simp | omega)))
    all_goals exact q1'
  · have hx : id < 0 ∨ 0 ≤ id ∧ (1000000 < id ∨ id ≤ 1000000 ∧ (after < 1 ∨ 1 ≤ after ∧ 1000000 < after)) := by
      rw [hb] at hR
      simp only [Bool.true_eq_false, false_or] at hR
      omega
    rw [hb] at RI
    clear hb hR
    rcases hx with h | ⟨g1, h | ⟨g2, h | ⟨g3, h⟩⟩⟩
    all_goals
      go_enter Try.func13, Try.ntmps13
      go_wp2_with fail
      (with_reducible refine (RI.out _ q0).mono ?_)
      rintro e1 w1 ⟨rfl, q1⟩
      have q1' := below_next q0 q0.size q1
      have B1' := heap_below B1.out q1
      have zz := heap_lt B1'
      obtain ⟨y0, y1, y2, y3⟩ := two_box B1'
      clear B1' q1
      go_wp2
      refine bodyPost_ret (v := .tuple #[.agg #[.int .i64 0, .slice none 0 0], .int .i64 1]) (by simp [results, Try.results13, go_sem, y0, y1]) rfl ⟨rfl, ?_⟩
      repeat (first | ((with_reducible refine Below.setCell ?_ ?_ _); rotate_left 1; (first | (simp; omega) | simp | omega)) | ((with_reducible refine Below.alloc ?_ ?_ _); rotate_left 1; (first | (simp; omega) | simp | omega)))
      all_goals exact q1'

set_option maxRecDepth 100000 in
set_option maxHeartbeats 4000000 in
theorem set_busy (now : Int) (l : List Tm) (A : Option Addr) (c : Nat) (id after : Int) (w : World) (hr : TmR w w.heap.size A l) (hlc : l.length ≤ c) (hR : rightTm now l = true) (h0 : 0 ≤ id) (h1 : id ≤ 1000000) (h2 : 1 ≤ after) (h3 : after ≤ 1000000) (hb : 32 ≤ (withoutTm id l).length) :
    Calls Try.prog 13 #[.agg #[.int .i64 now, .slice A l.length c], .int .i64 id, .int .i64 after] w (fun e w' => e = .returned (.tuple #[.agg #[.int .i64 0, .slice none 0 0], .int .i64 20]) ∧ Below w.heap.size w w') := by
  obtain ⟨g1, g2, g3, g4⟩ := right_due hR
  have hbf : 32 ≤ (l.filter fun x => !(x.id == id)).length := hb
  have RI := hide (fun W (q : Below w.heap.size w W) => tmRight_any now l A c W (hr.next q q.size) (by omega) hlc (fun x hx => by have := g4 x hx; omega))
  have HR := hide hr
  have q0 : Below w.heap.size w ((w.alloc (.cells #[.int .i64 now, .slice A l.length c] 24)).alloc (.cells #[.int .i64 0, .slice none 0 0] 24)) := ((Below.refl _ _).alloc (Nat.le_refl _) _).alloc (by simp) _
  have B0 : Hid (((w.alloc (.cells #[.int .i64 now, .slice A l.length c] 24)).alloc (.cells #[.int .i64 0, .slice none 0 0] 24)).heap[w.heap.size]? = some (.cells #[.int .i64 now, .slice A l.length c] 24 (0, 0))) :=
    hide (heap_below (World.alloc_heap_new w _) ((Below.refl _ _).alloc (Nat.le_refl _) _))
  have B1 : Hid (((w.alloc (.cells #[.int .i64 now, .slice A l.length c] 24)).alloc (.cells #[.int .i64 0, .slice none 0 0] 24)).heap[w.heap.size + 1]? = some (.cells #[.int .i64 0, .slice none 0 0] 24 (0, 0))) := by
    have := World.alloc_heap_new (w.alloc (.cells #[.int .i64 now, .slice A l.length c] 24)) (.cells #[.int .i64 0, .slice none 0 0] 24)
    exact hide (by simpa using this)
  rw [hR] at RI
  clear hr hR g4 hb
  have CL := hide (fun W (q : Below w.heap.size w W) => cloneTm_any l A c W (HR.out.next q q.size) (by omega))
  have OF := hide (fun W => of_any id W)
  obtain ⟨f, hf⟩ : ∃ f, f = l.filter fun x => !(x.id == id) := ⟨_, rfl⟩
  have hfl : f.length ≤ l.length := by rw [hf]; exact List.length_filter_le _ _
  rw [← hf] at hbf
  have HF := hide hf
  clear hf
  go_enter Try.func13, Try.ntmps13
  go_wp2_with fail
  (with_reducible refine (RI.out _ q0).mono ?_)
  rintro e1 w1 ⟨rfl, q1⟩
  have q1' := below_next q0 q0.size q1
  have B0' := hide (heap_below B0.out q1)
  have B1' := hide (heap_below B1.out q1)
  have zz := heap_lt B1'.out
  have z0 : w.heap.size < w1.heap.size := heap_lt B0'.out
  obtain ⟨x0, x1, _, _⟩ := two_box B0'.out
  clear q1
  go_wp2_with fail
  (with_reducible refine (CL.out _ q1').mono ?_)
  rintro e3 w3 ⟨A3, c3, rfl, o3, q3⟩
  go_wp2_with fail
  (with_reducible refine (OF.out _).mono ?_)
  rintro e4 w4 ⟨rfl, e4w⟩
  have q4 : Below w3.heap.size w3 w4 := by rw [e4w]; exact (Below.refl _ _).alloc (Nat.le_refl _) _
  have hcell : w4.heap[w3.heap.size]? = some (.cells #[.int .i64 id] 3 (0, 0)) := by rw [e4w]; exact World.alloc_heap_new w3 _
  have q34 := below_next q3 q3.size q4
  have DL := hide (deleteTm_any 95 #[.pointer (some ⟨w3.heap.size, 0, none⟩)] (fun x => x.id == id) (fun _ _ => call_of1 _ _) w1.heap.size l A3 c3 w4 (o3.grown q4) q34.size (by omega)
    (fun W => W.heap[w3.heap.size]? = some (.cells #[.int .i64 id] 3 (0, 0))) (hide hcell) (hide (fun _ _ h q => heap_below h q)) (hide (fun _ _ h g => heap_grownB h g (own_ne o3 (Nat.le_refl _)))) ⟨0, 0⟩ (fun w => by kernel_rfl)
    (hide (fun f _ w' hw' hk => of1_any f id w3.heap.size w' (heap_lt hk) (cell_heap hk (Below.refl _ _) rfl))))
  rw [← HF.out] at DL
  clear e4w x0 x1 hcell
  have B0w := hide (heapB B0'.out q34 z0)
  have B1w := hide (heapB B1'.out q34 zz)
  clear o3 q3 q4
  go_wp2_with fail
  (with_reducible refine DL.out.mono ?_)
  rintro e5 w5 ⟨rfl, o5, q5⟩
  have B0x := hide (heapB B0w.out q5 z0)
  have B1x := hide (heapB B1w.out q5 zz)
  have qw5 : Below w.heap.size w w5 := q1'.trans ((q34.trans q5).mono (Nat.le_of_lt z0))
  have OW := hide o5
  have z15 : w1.heap.size ≤ w5.heap.size := Nat.le_trans q34.size q5.size
  have zz5 : w.heap.size < w5.heap.size := heap_lt B0x.out
  have zz6 : w.heap.size + 1 < w5.heap.size := heap_lt B1x.out
  clear q5 q34 B0w B1w B0' B1' DL o5
  obtain ⟨x0, x1, x2, x3⟩ := two_box B0x.out
  obtain ⟨y0, y1, y2, y3⟩ := two_box B1x.out
  have hbi : (32 : Int) ≤ (f.length : Int) := by omega
  go_wp2
  refine bodyPost_ret (v := .tuple #[.agg #[.int .i64 0, .slice none 0 0], .int .i64 20]) (by simp [results, Try.results13, go_sem, y0, y1]) rfl ⟨rfl, ?_⟩
  repeat (first | ((with_reducible refine Below.setCell ?_ ?_ _); rotate_left 1; (first | (simp; omega) | simp | omega)) | ((with_reducible refine Below.alloc ?_ ?_ _); rotate_left 1; (first | (simp; omega) | simp | omega)))
  all_goals exact qw5

/-- What Set leaves. -/
def SetV (now : Int) (l : List Tm) (id after : Int) (w : World) (e : Ending) (w' : World) : Prop :=
  ∃ A c, e = .returned (.tuple #[.agg #[.int .i64 now, .slice A (insT (withoutTm id l) ⟨id, now + after⟩).length c], .int .i64 0]) ∧ TmR w' w'.heap.size A (insT (withoutTm id l) ⟨id, now + after⟩) ∧ (insT (withoutTm id l) ⟨id, now + after⟩).length ≤ c ∧ Below w.heap.size w w'

set_option maxRecDepth 100000 in
set_option maxHeartbeats 4000000 in
theorem set_ok (now : Int) (l : List Tm) (A : Option Addr) (c : Nat) (id after : Int) (w : World) (hr : TmR w w.heap.size A l) (hlc : l.length ≤ c) (hR : rightTm now l = true) (h0 : 0 ≤ id) (h1 : id ≤ 1000000) (h2 : 1 ≤ after) (h3 : after ≤ 1000000) (hb : (withoutTm id l).length < 32) :
    Calls Try.prog 13 #[.agg #[.int .i64 now, .slice A l.length c], .int .i64 id, .int .i64 after] w (SetV now l id after w) := by
  obtain ⟨g1, g2, g3, g4⟩ := right_due hR
  have hbf : (l.filter fun x => !(x.id == id)).length < 32 := hb
  have SP := hide (show srtP (l.filter fun x => !(x.id == id)) from (srtP_of (rightTm_iff.1 hR).2.2.2.1).sublist List.filter_sublist)
  have RI := hide (fun W (q : Below w.heap.size w W) => tmRight_any now l A c W (hr.next q q.size) (by omega) hlc (fun x hx => by have := g4 x hx; omega))
  have HR := hide hr
  have q0 : Below w.heap.size w ((w.alloc (.cells #[.int .i64 now, .slice A l.length c] 24)).alloc (.cells #[.int .i64 0, .slice none 0 0] 24)) := ((Below.refl _ _).alloc (Nat.le_refl _) _).alloc (by simp) _
  have B0 : Hid (((w.alloc (.cells #[.int .i64 now, .slice A l.length c] 24)).alloc (.cells #[.int .i64 0, .slice none 0 0] 24)).heap[w.heap.size]? = some (.cells #[.int .i64 now, .slice A l.length c] 24 (0, 0))) :=
    hide (heap_below (World.alloc_heap_new w _) ((Below.refl _ _).alloc (Nat.le_refl _) _))
  have B1 : Hid (((w.alloc (.cells #[.int .i64 now, .slice A l.length c] 24)).alloc (.cells #[.int .i64 0, .slice none 0 0] 24)).heap[w.heap.size + 1]? = some (.cells #[.int .i64 0, .slice none 0 0] 24 (0, 0))) := by
    have := World.alloc_heap_new (w.alloc (.cells #[.int .i64 now, .slice A l.length c] 24)) (.cells #[.int .i64 0, .slice none 0 0] 24)
    exact hide (by simpa using this)
  rw [hR] at RI
  clear hr hR g4 hb
  have CL := hide (fun W (q : Below w.heap.size w W) => cloneTm_any l A c W (HR.out.next q q.size) (by omega))
  have OF := hide (fun W => of_any id W)
  obtain ⟨f, hf⟩ : ∃ f, f = l.filter fun x => !(x.id == id) := ⟨_, rfl⟩
  have hfl : f.length ≤ l.length := by rw [hf]; exact List.length_filter_le _ _
  rw [← hf] at hbf SP
  have HF := hide hf
  clear hf
  go_enter Try.func13, Try.ntmps13
  go_wp2_with fail
  (with_reducible refine (RI.out _ q0).mono ?_)
  rintro e1 w1 ⟨rfl, q1⟩
  have q1' := below_next q0 q0.size q1
  have B0' := hide (heap_below B0.out q1)
  have B1' := hide (heap_below B1.out q1)
  have zz := heap_lt B1'.out
  have z0 : w.heap.size < w1.heap.size := heap_lt B0'.out
  obtain ⟨x0, x1, _, _⟩ := two_box B0'.out
  clear q1
  go_wp2_with fail
  (with_reducible refine (CL.out _ q1').mono ?_)
  rintro e3 w3 ⟨A3, c3, rfl, o3, q3⟩
  go_wp2_with fail
  (with_reducible refine (OF.out _).mono ?_)
  rintro e4 w4 ⟨rfl, e4w⟩
  have q4 : Below w3.heap.size w3 w4 := by rw [e4w]; exact (Below.refl _ _).alloc (Nat.le_refl _) _
  have hcell : w4.heap[w3.heap.size]? = some (.cells #[.int .i64 id] 3 (0, 0)) := by rw [e4w]; exact World.alloc_heap_new w3 _
  have q34 := below_next q3 q3.size q4
  have DL := hide (deleteTm_any 95 #[.pointer (some ⟨w3.heap.size, 0, none⟩)] (fun x => x.id == id) (fun _ _ => call_of1 _ _) w1.heap.size l A3 c3 w4 (o3.grown q4) q34.size (by omega)
    (fun W => W.heap[w3.heap.size]? = some (.cells #[.int .i64 id] 3 (0, 0))) (hide hcell) (hide (fun _ _ h q => heap_below h q)) (hide (fun _ _ h g => heap_grownB h g (own_ne o3 (Nat.le_refl _)))) ⟨0, 0⟩ (fun w => by kernel_rfl)
    (hide (fun f _ w' hw' hk => of1_any f id w3.heap.size w' (heap_lt hk) (cell_heap hk (Below.refl _ _) rfl))))
  rw [← HF.out] at DL
  clear e4w x0 x1 hcell
  have B0w := hide (heapB B0'.out q34 z0)
  have B1w := hide (heapB B1'.out q34 zz)
  clear o3 q3 q4
  go_wp2_with fail
  (with_reducible refine DL.out.mono ?_)
  rintro e5 w5 ⟨rfl, o5, q5⟩
  have B0x := hide (heapB B0w.out q5 z0)
  have B1x := hide (heapB B1w.out q5 zz)
  have qw5 : Below w.heap.size w w5 := q1'.trans ((q34.trans q5).mono (Nat.le_of_lt z0))
  have OW := hide o5
  have z15 : w1.heap.size ≤ w5.heap.size := Nat.le_trans q34.size q5.size
  have zz5 : w.heap.size < w5.heap.size := heap_lt B0x.out
  have zz6 : w.heap.size + 1 < w5.heap.size := heap_lt B1x.out
  clear q5 q34 B0w B1w B0' B1' DL o5
  obtain ⟨x0, x1, x2, x3⟩ := two_box B0x.out
  obtain ⟨y0, y1, y2, y3⟩ := two_box B1x.out
  have hbi : (f.length : Int) < (32 : Int) := by omega
  have hwa : IntKind.i64.wrap (now + after) = now + after := IntWalk.i64_in _ (by omega)
  have qa : Below w5.heap.size w5 (w5.alloc (.cells #[.int .i64 id, .int .i64 (now + after)] 40)) := (Below.refl _ _).alloc (Nat.le_refl _) _
  have BS := hide (bsearch_any f A3 c3 ⟨id, now + after⟩ _ (TmR.next (OW.out.rd (tmc_rows f)) qa qa.size) (by omega) (srtP_mono (by have := SP.out; exact this) _))
  have T9 := hide (World.alloc_heap_new w5 (.cells #[.int .i64 id, .int .i64 (now + after)] 40))
  go_wp2_with fail
  (with_reducible refine BS.out.mono ?_)
  rintro e6 w6 ⟨i, bb, rfl, hi, hlt, hge, q6⟩
  have hpos := hide (posT_eq hi hlt hge)
  have q56 := below_next qa qa.size q6
  have T9x := heap_below T9.out q6
  obtain ⟨u0, u1, _, _⟩ := two_box T9x
  have z6 : w5.heap.size < w6.heap.size := heap_lt T9x
  have B6 := hide (heapB B0x.out q56 zz5)
  have C6 := hide (heapB B1x.out q56 zz6)
  have O6 := hide (OW.out.grown q56)
  have q6w := below_next qw5 qw5.size q56
  have IN := hide (insert_any f A3 c3 i ⟨id, now + after⟩ w6.heap.size w1.heap.size (w6.alloc (.cells #[.int .i64 id, .int .i64 (now + after)] 40)) (O6.out.alloc _) (by have := q56.size; simp; omega) (World.alloc_heap_new w6 _)
    (fun g off e => by have := own_lt2 O6.out g off e; omega) (by omega) hi)
  have z16 : w1.heap.size ≤ w6.heap.size := by omega
  clear hlt hge x0 x1 x2 x3 y0 y1 y2 y3 T9x qa q6 hwa
  go_wp2_with fail
  (with_reducible refine IN.out.mono ?_)
  rintro e7 w7 ⟨A7, c7, rfl, o7, q7⟩
  have qal : Below w6.heap.size w6 (w6.alloc (.cells #[.int .i64 id, .int .i64 (now + after)] 40)) := (Below.refl _ _).alloc (Nat.le_refl _) _
  have B7 := heapB (heap_below B6.out qal) q7 z0
  have C7 := heapB (heap_below C6.out qal) q7 zz
  have qw7 : Below w.heap.size w w7 := (q6w.alloc q6w.size _).trans (q7.mono (Nat.le_of_lt z0))
  have zw7 : w.heap.size < w7.heap.size := heap_lt B7
  have zw8 : w.heap.size + 1 < w7.heap.size := heap_lt C7
  obtain ⟨x0, x1, x2, x3⟩ := two_box B7
  obtain ⟨y0, y1, y2, y3⟩ := two_box C7
  have FIN := hide o7
  clear o7 q7 qal B7 C7 B6 C6 IN BS u0 u1
  go_wp2
  have QF : Below w.heap.size w (((w7.setCell ⟨w.heap.size, 1, none⟩ (.slice A7 (f.length + 1) c7)).setCell ⟨w.heap.size + 1, 0, none⟩ (.int .i64 now)).setCell ⟨w.heap.size + 1, 1, none⟩ (.slice A7 (f.length + 1) c7)) := ((qw7.setCell (by simp) _).setCell (by simp) _).setCell (by simp) _
  have hwt : withoutTm id l = f := HF.out.symm
  have hln : (insT (withoutTm id l) ⟨id, now + after⟩).length = f.length + 1 := by rw [hwt]; unfold insT; rw [hpos.out]; simp; omega
  have hfo : Own (((w7.setCell ⟨w.heap.size, 1, none⟩ (.slice A7 (f.length + 1) c7)).setCell ⟨w.heap.size + 1, 0, none⟩ (.int .i64 now)).setCell ⟨w.heap.size + 1, 1, none⟩ (.slice A7 (f.length + 1) c7)) w1.heap.size 40 2 A7 c7 ((insT (withoutTm id l) ⟨id, now + after⟩).map tmc) := by
    have e : insT (withoutTm id l) ⟨id, now + after⟩ = f.take i ++ ⟨id, now + after⟩ :: f.drop i := by rw [hwt]; unfold insT; rw [hpos.out]
    rw [e]
    exact own_setj (own_setj (own_setj FIN.out (by omega) 1 _) (by omega) 0 _) (by omega) 1 _
  refine bodyPost_ret (v := .tuple #[.agg #[.int .i64 now, .slice A7 (f.length + 1) c7], .int .i64 0]) (by simp [results, Try.results13, go_sem, y0, y1]) rfl ⟨A7, c7, by rw [hln], hfo.rd (tmc_rows _), by have := hfo.le; simpa using this, QF⟩
end Go.Proofs.Ytnfpbbgajabjkaa
