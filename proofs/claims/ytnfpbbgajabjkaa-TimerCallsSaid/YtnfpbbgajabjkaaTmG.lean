/- timer.Tick. -/
import Derived.Test.YtnfpbbgajabjkaaTmF
namespace Go.Proofs.Ytnfpbbgajabjkaa
open Go.ChangeShapes Go.WideShapes Go.ChangeAt Go.RowKit

theorem slInt : SlT Try.prog 32 3 1 8 := SlT.mk Try.underlying32 (z := .int .i64 0) (by kernel_rfl) rfl (by decide)
def idRows (l : List Tm) : List (List Value) := l.map fun x => [.int .i64 x.id]
theorem idRows_len (l : List Tm) : (idRows l).length = l.length := List.length_map _
theorem idRows_rows (l : List Tm) : ∀ r ∈ idRows l, r.length = 1 := by intro r hr; obtain ⟨x, _, rfl⟩ := List.mem_map.1 hr; rfl
/-- How many are due: the first ones. -/
def dueN (t : Int) (l : List Tm) : Nat := (l.takeWhile fun x => x.due == t).length
theorem dueN_le (t : Int) (l : List Tm) : dueN t l ≤ l.length := by
  unfold dueN
  exact (List.takeWhile_sublist _).length_le
theorem dueN_eq {t : Int} {l : List Tm} {j : Nat} (hj : j ≤ l.length) (h : ∀ k (hk : k < l.length), k < j → l[k].due = t) (hs : j = l.length ∨ ∃ hk : j < l.length, l[j].due ≠ t) : dueN t l = j := by
  induction l generalizing j with
  | nil => simp at hj; subst hj; rfl
  | cons x l ih =>
    cases j with
    | zero =>
      rcases hs with hs | ⟨hk, hs⟩
      · simp at hs
      · unfold dueN
        rw [List.takeWhile_cons_of_neg (by simpa using hs)]
        rfl
    | succ j =>
      have h0 := h 0 (by simp) (by omega)
      have := ih (j := j) (by simpa using hj) (fun k hk hkj => h (k + 1) (by simpa using hk) (by omega)) (by
        rcases hs with hs | ⟨hk, hs⟩
        · exact .inl (by simpa using hs)
        · exact .inr ⟨by simpa using hk, by simpa using hs⟩)
      unfold dueN at this ⊢
      rw [List.takeWhile_cons_of_pos (by simpa using h0), List.length_cons, this]

def sliceLen : Value → Nat
  | .slice _ n _ => n
  | _ => 0

set_option maxRecDepth 100000 in
set_option maxHeartbeats 2000000 in
theorem tick_bad (now : Int) (l : List Tm) (A : Option Addr) (c : Nat) (w : World) (hr : TmR w w.heap.size A l) (hl : l.length ≤ 1000) (hlc : l.length ≤ c) (hdue : ∀ x ∈ l, x.due ≤ 9223372036854775807) (hR : rightTm now l = false ∨ 1099511627776 ≤ now) :
    Calls Try.prog 16 #[.agg #[.int .i64 now, .slice A l.length c]] w fun e w' => e = .returned (.tuple #[.agg #[.int .i64 0, .slice none 0 0], .slice none 0 0, .int .i64 1]) ∧ Below w.heap.size w w' := by
  have RI := hide (fun W (q : Below w.heap.size w W) => tmRight_any now l A c W (hr.next q q.size) hl hlc hdue)
  have q0 : Below w.heap.size w ((w.alloc (.cells #[.int .i64 now, .slice A l.length c] 24)).alloc (.cells #[.int .i64 0, .slice none 0 0] 24)) := ((Below.refl _ _).alloc (Nat.le_refl _) _).alloc (by simp) _
  have B0 : Hid (((w.alloc (.cells #[.int .i64 now, .slice A l.length c] 24)).alloc (.cells #[.int .i64 0, .slice none 0 0] 24)).heap[w.heap.size]? = some (.cells #[.int .i64 now, .slice A l.length c] 24 (0, 0))) :=
    hide (heap_below (World.alloc_heap_new w _) ((Below.refl _ _).alloc (Nat.le_refl _) _))
  have B1 : Hid (((w.alloc (.cells #[.int .i64 now, .slice A l.length c] 24)).alloc (.cells #[.int .i64 0, .slice none 0 0] 24)).heap[w.heap.size + 1]? = some (.cells #[.int .i64 0, .slice none 0 0] 24 (0, 0))) := by
    have := World.alloc_heap_new (w.alloc (.cells #[.int .i64 now, .slice A l.length c] 24)) (.cells #[.int .i64 0, .slice none 0 0] 24)
    exact hide (by simpa using this)
  clear hr hdue
  rcases hb : rightTm now l with _ | _
  · rw [hb] at RI
    clear hb hR
    go_enter Try.func16, Try.ntmps16
    go_wp2_with fail
    (with_reducible refine (RI.out _ q0).mono ?_)
    rintro e1 w1 ⟨rfl, q1⟩
    have q1' := below_next q0 q0.size q1
    have B1' := heap_below B1.out q1
    have zz := heap_lt B1'
    obtain ⟨y0, y1, y2, y3⟩ := two_box B1'
    clear B1' q1
    go_wp2
    refine bodyPost_ret (v := .tuple #[.agg #[.int .i64 0, .slice none 0 0], .slice none 0 0, .int .i64 1]) (by simp [results, Try.results16, go_sem, y0, y1]) rfl ⟨rfl, ?_⟩
    repeat (first | ((with_reducible refine Below.setCell ?_ ?_ _); rotate_left 1; (first | (simp; omega) | simp | omega)) | ((with_reducible refine Below.alloc ?_ ?_ _); rotate_left 1; (first | (simp; omega) | simp | omega)))
    all_goals exact q1'
  · have hn : 1099511627776 ≤ now := by
      rcases hR with h | h
      · rw [hb] at h; cases h
      · exact h
    rw [hb] at RI
    clear hb hR
    go_enter Try.func16, Try.ntmps16
    go_wp2_with fail
    (with_reducible refine (RI.out _ q0).mono ?_)
    rintro e1 w1 ⟨rfl, q1⟩
    have q1' := below_next q0 q0.size q1
    have B0' := heap_below B0.out q1
    have B1' := heap_below B1.out q1
    have zz := heap_lt B1'
    obtain ⟨x0, _, _, _⟩ := two_box B0'
    obtain ⟨y0, y1, y2, y3⟩ := two_box B1'
    clear B0' B1' q1
    go_wp2
    refine bodyPost_ret (v := .tuple #[.agg #[.int .i64 0, .slice none 0 0], .slice none 0 0, .int .i64 1]) (by simp [results, Try.results16, go_sem, y0, y1]) rfl ⟨rfl, ?_⟩
    repeat (first | ((with_reducible refine Below.setCell ?_ ?_ _); rotate_left 1; (first | (simp; omega) | simp | omega)) | ((with_reducible refine Below.alloc ?_ ?_ _); rotate_left 1; (first | (simp; omega) | simp | omega)))
    all_goals exact q1'

/-- What Tick leaves. -/
def TickV (now : Int) (l : List Tm) (w : World) (e : Ending) (w' : World) : Prop :=
  ∃ A c Ao co, e = .returned (.tuple #[.agg #[.int .i64 (now + 1), .slice A (l.drop (dueN (now + 1) l)).length c], .slice Ao (dueN (now + 1) l) co, .int .i64 0]) ∧ TmR w' w'.heap.size A (l.drop (dueN (now + 1) l)) ∧ (l.drop (dueN (now + 1) l)).length ≤ c ∧
    Own w' w.heap.size 3 1 Ao co (idRows (l.take (dueN (now + 1) l))) ∧ Below w.heap.size w w'

/-- When j have been told. -/
structure TcR (now : Int) (l : List Tm) (w : World) (j : Nat) (A : Option Addr) (c : Nat) (Ao : Option Addr) (co : Nat) (W : World) : Prop where
  box : W.heap[w.heap.size]? = some (.cells #[.int .i64 (now + 1), .slice A (l.drop j).length c] 24 (0, 0))
  box2 : W.heap[w.heap.size + 1]? = some (.cells #[.int .i64 0, .slice none 0 0] 24 (0, 0))
  rd0 : TmR w w.heap.size A (l.drop j)
  cap : (l.drop j).length ≤ c
  own : Own W (w.heap.size + 2) 3 1 Ao co (idRows (l.take j))
  q : Below w.heap.size w W
  due : ∀ k (hk : k < l.length), k < j → l[k].due = now + 1
theorem TcR.below {now : Int} {l : List Tm} {w : World} {j : Nat} {A : Option Addr} {c : Nat} {Ao : Option Addr} {co : Nat} {W W' : World} (h : TcR now l w j A c Ao co W) (hb : Below W.heap.size W W') : TcR now l w j A c Ao co W' :=
  ⟨heap_below h.box hb, heap_below h.box2 hb, h.rd0, h.cap, h.own.grown hb, below_next h.q h.q.size hb, h.due⟩

set_option maxRecDepth 100000 in
set_option maxHeartbeats 4000000 in
theorem tick_ok (now : Int) (l : List Tm) (A : Option Addr) (c : Nat) (w : World) (hr : TmR w w.heap.size A l) (hlc : l.length ≤ c) (hR : rightTm now l = true) (hnow : now < 1099511627776) :
    Calls Try.prog 16 #[.agg #[.int .i64 now, .slice A l.length c]] w (TickV now l w) := by
  obtain ⟨g1, g2, g3, g4⟩ := right_due hR
  have RI := hide (fun W (q : Below w.heap.size w W) => tmRight_any now l A c W (hr.next q q.size) (by omega) hlc (fun x hx => by have := g4 x hx; omega))
  rw [hR] at RI
  have HR := hide hr
  have q0 : Below w.heap.size w ((w.alloc (.cells #[.int .i64 now, .slice A l.length c] 24)).alloc (.cells #[.int .i64 0, .slice none 0 0] 24)) := ((Below.refl _ _).alloc (Nat.le_refl _) _).alloc (by simp) _
  have B0 : Hid (((w.alloc (.cells #[.int .i64 now, .slice A l.length c] 24)).alloc (.cells #[.int .i64 0, .slice none 0 0] 24)).heap[w.heap.size]? = some (.cells #[.int .i64 now, .slice A l.length c] 24 (0, 0))) :=
    hide (heap_below (World.alloc_heap_new w _) ((Below.refl _ _).alloc (Nat.le_refl _) _))
  have B1 : Hid (((w.alloc (.cells #[.int .i64 now, .slice A l.length c] 24)).alloc (.cells #[.int .i64 0, .slice none 0 0] 24)).heap[w.heap.size + 1]? = some (.cells #[.int .i64 0, .slice none 0 0] 24 (0, 0))) := by
    have := World.alloc_heap_new (w.alloc (.cells #[.int .i64 now, .slice A l.length c] 24)) (.cells #[.int .i64 0, .slice none 0 0] 24)
    exact hide (by simpa using this)
  clear hr hR g4
  go_enter Try.func16, Try.ntmps16
  go_wp2_with fail
  (with_reducible refine (RI.out _ q0).mono ?_)
  rintro e1 w1 ⟨rfl, q1⟩
  have q1' := below_next q0 q0.size q1
  have B0' := hide (heap_below B0.out q1)
  have B1' := hide (heap_below B1.out q1)
  have zz := heap_lt B1'.out
  have z0 := heap_lt B0'.out
  obtain ⟨x0, x1, x2, x3⟩ := two_box B0'.out
  clear q1
  go_wp2
  clear x0 x1 x2 x3
  have C0 : (w1.setCell ⟨w.heap.size, 0, none⟩ (.int .i64 (now + 1))).heap[w.heap.size]? = some (.cells #[.int .i64 (now + 1), .slice A l.length c] 24 (0, 0)) := by
    have := heap_setCell_same w1 w.heap.size 0 _ _ (.int .i64 (now + 1)) B0'.out
    simpa using this
  have C1 : (w1.setCell ⟨w.heap.size, 0, none⟩ (.int .i64 (now + 1))).heap[w.heap.size + 1]? = some (.cells #[.int .i64 0, .slice none 0 0] 24 (0, 0)) := by
    rw [heap_setCell_other w1 ⟨w.heap.size, 0, none⟩ _ _ (by simp)]
    exact B1'.out
  have Q1 : Below w.heap.size w (w1.setCell ⟨w.heap.size, 0, none⟩ (.int .i64 (now + 1))) := q1'.setCell (Nat.le_refl _) _
  have ST := hide (show TcR now l w 0 A c none 0 (w1.setCell ⟨w.heap.size, 0, none⟩ (.int .i64 (now + 1))) from
    ⟨C0, C1, HR.out, hlc, Own.nil, Q1, fun k _ h => absurd h (by omega)⟩)
  clear C0 C1
  go_loopw [5] (fun vo W => ∃ (j : Nat) (A : Option Addr) (c : Nat) (Ao : Option Addr) (co : Nat), j ≤ l.length ∧ vo = .slice Ao j co ∧ Hid (TcR now l w j A c Ao co W)) (fun vo _ => l.length - sliceLen vo)
  case atStart => exact ⟨0, A, c, none, 0, Nat.zero_le _, rfl, ST⟩
  case round =>
    clear ST Q1 B0' B1' q1' zz z0 HR RI hlc
    obtain ⟨j, A, c, Ao, co, hj, rfl, hT⟩ := hrel
    have z0 : w.heap.size < wr.heap.size := heap_lt hT.out.box
    have z1 : w.heap.size + 1 < wr.heap.size := heap_lt hT.out.box2
    have m1 := fun s : InW wr => (⟨cell_heap (j := 0) hT.out.box s.h rfl, cell_heap (j := 1) hT.out.box s.h rfl⟩ : s.W.cell? ⟨w.heap.size, 0, none⟩ = some (.int .i64 (now + 1)) ∧ s.W.cell? ⟨w.heap.size, 1, none⟩ = some (.slice A (l.drop j).length c))
    have hlj : (l.drop j).length = l.length - j := List.length_drop
    obtain ⟨n, hn⟩ : ∃ n, n = (l.drop j).length := ⟨_, rfl⟩
    rw [← hn] at m1
    have hcn : n ≤ c := by have := hT.out.cap; omega
    have hnl1 : n + j ≤ l.length := by omega
    have hnl2 : l.length ≤ n + j := by omega
    have HN := hide hn
    clear hn hlj
    by_cases hd : ∃ hk : j < l.length, l[j].due = now + 1
    · obtain ⟨hk, hdj⟩ := hd
      have hd0 : (l.drop j)[0]'(by have := HN.out; omega) = l[j] := by simp
      have h0n : 0 < n := by omega
      have hi1 : (0 : Int) < (n : Int) := by omega
      have r0 := TmR.next hT.out.rd0 hT.out.q hT.out.q.size
      obtain ⟨b, off, rfl, hbs, _⟩ := r0.at_ (k := 0) (by have := HN.out; omega)
      obtain ⟨_, c0, c1⟩ := r0.at2 (k := 0) (by have := HN.out; omega)
      have mj := TmR.all r0 (Nat.le_refl _) (k := 0) (by have := HN.out; omega)
      rw [hd0, hdj] at mj
      rw [hd0] at c0 c1
      simp only [Nat.zero_mul, Nat.add_zero] at mj c0 c1
      clear r0
      go_wp2_with fail
      refine wp_region_tame (by kernel_rfl) (by kernel_rfl) ?_
      repeat (go_big_quiet_step (fail))
      refine wpQuiet_nil ?_
      rintro _ ⟨s, rfl⟩
      obtain ⟨W5, q5⟩ := s
      dsimp only
      have T5 := hide (hT.out.below q5)
      have c0 := cellBelow q5 hbs c0
      have z5 : wr.heap.size ≤ W5.heap.size := q5.size
      have hb5 : b < W5.heap.size := by omega
      clear m1 mj c1 hT
      obtain ⟨y0, y1, y2, y3⟩ := two_box T5.out.box
      rw [← HN.out] at y1
      have R6 := hide (fun t => rd_row (cs := [.int .i64 l[j].id]) (World.alloc_heap_new W5 (.cells #[.int .i64 l[j].id] t)))
      have E1 := hide (show ((idRows (l.take j)).length + [([.int .i64 l[j].id] : List Value)].length) * 8 ≤ 140737488355328 by rw [idRows_len]; simp; omega)
      have E2 := hide (show (idRows (l.take j)).length + [([.int .i64 l[j].id] : List Value)].length ≤ maxLen by rw [idRows_len]; simp [maxLen]; omega)
      have E3 := hide (show j = (idRows (l.take j)).length by rw [idRows_len, List.length_take]; omega)
      obtain ⟨A', hA', hrun⟩ := run_from (P := Try.prog) 22 40 Try.underlying22 2 (fun W => by kernel_rfl) (some ⟨b, off, none⟩) n c 1 1 rfl h0n
      have HA' := hide hA'
      clear hA'
      go_wp2_with (at_builtin; refine wpList_append_rows _ rfl _ _ 32 rfl slInt (w.heap.size + 2) _ _ _ (idRows (l.take j)) (by rfl) (by exact T5.out.own.alloc _) _ _ _ [[.int .i64 l[j].id]] (by rfl) (by exact R6.out _) (by simp) (by simp [Value.oneCell']) (by exact E1.out) (by exact E2.out) (by simp; omega) (by exact E3.out) (by rfl) ?_)
      intro A6 c6 W6 o6 g6
      have qal : Below W5.heap.size W5 (W5.alloc (.cells #[.int .i64 l[j].id] 3)) := (Below.refl _ _).alloc (Nat.le_refl _) _
      have BX6 := heap_grown (heap_below T5.out.box qal) (by decide) (T5.out.own.alloc _) g6
      have BY6 := heap_grown (heap_below T5.out.box2 qal) (by decide) (T5.out.own.alloc _) g6
      have q6 := below_append (T5.out.q.alloc T5.out.q.size (.cells #[.int .i64 l[j].id] 3)) g6 (T5.out.own.alloc _) (by omega) (by have := T5.out.q.size; simp; omega)
      have z6 : w.heap.size < W6.heap.size := heap_lt BX6
      have z6b : w.heap.size + 1 < W6.heap.size := heap_lt BY6
      clear y0 y1 y2 y3
      obtain ⟨y0, y1, y2, y3⟩ := two_box BX6
      rw [← HN.out] at y1
      have NEXT := hide (show TcR now l w (j + 1) A' (c - 1) A6 c6 (W6.setCell ⟨w.heap.size, 1, none⟩ (.slice A' (n - 1) (c - 1))) from by
        have hlen : (l.drop (j + 1)).length = n - 1 := by rw [List.length_drop]; omega
        refine ⟨?_, ?_, ?_, ?_, ?_, ?_, ?_⟩
        · have := heap_setCell_same W6 w.heap.size 1 _ _ (.slice A' (n - 1) (c - 1)) BX6
          rw [hlen]
          simpa using this
        · rw [heap_setCell_other W6 ⟨w.heap.size, 1, none⟩ _ _ (by simp)]
          exact BY6
        · have := Rd.drop T5.out.rd0 1 c (by rw [List.length_map]; exact T5.out.cap)
          rw [← List.map_drop, List.drop_drop] at this
          unfold TmR
          rw [HA'.out]
          simpa [Nat.add_comm] using this
        · rw [hlen]; omega
        · have e : idRows (l.take (j + 1)) = idRows (l.take j) ++ [[.int .i64 l[j].id]] := by unfold idRows; rw [List.take_succ_eq_append_getElem hk, List.map_append]; rfl
          rw [e]
          exact own_setj o6 (by omega) 1 _
        · exact q6.setCell (Nat.le_refl _) _
        · intro k hkl hkj
          by_cases e : k = j
          · subst e; exact hdj
          · exact T5.out.due k hkl (by omega))
      clear BX6 BY6 o6 g6 q6 qal T5 R6 E1 E2 E3
      go_wp2
      go_roundw
      case rel => exact ⟨j + 1, A', c - 1, A6, c6, by omega, rfl, NEXT⟩
      case measure => simp [sliceLen]; omega
    · have hE := dueN_eq (t := now + 1) hj hT.out.due (by
        by_cases e : j = l.length
        · exact .inl e
        · exact .inr ⟨by omega, fun h => hd ⟨by omega, h⟩⟩)
      have HE := hide hE
      clear hE
      rcases Nat.eq_zero_or_pos n with h0 | h0
      · have hgt : decide ((0 : Int) < (n : Int)) = false := by rw [decide_eq_false_iff_not]; omega
        have hgt' : decide (0 < n) = false := by rw [decide_eq_false_iff_not]; omega
        have H0 := hide h0
        clear h0 hd
        go_wp2_with fail
        refine wp_region_tame (by kernel_rfl) (by kernel_rfl) ?_
        repeat (go_big_quiet_step (fail))
        refine wpQuiet_nil ?_
        rintro _ ⟨s, rfl⟩
        obtain ⟨W5, q5⟩ := s
        dsimp only
        have T5 := hide (hT.out.below q5)
        have z5 : wr.heap.size ≤ W5.heap.size := q5.size
        clear m1 hT q5
        obtain ⟨x0, x1, _, _⟩ := two_box T5.out.box
        obtain ⟨y0, y1, y2, y3⟩ := two_box T5.out.box2
        rw [← HN.out] at x1
        go_wp2
        have QF : Below w.heap.size w ((W5.setCell ⟨w.heap.size + 1, 0, none⟩ (.int .i64 (now + 1))).setCell ⟨w.heap.size + 1, 1, none⟩ (.slice A n c)) := (T5.out.q.setCell (by simp) _).setCell (by simp) _
        refine bodyPost_ret (v := .tuple #[.agg #[.int .i64 (now + 1), .slice A n c], .slice Ao j co, .int .i64 0]) (by simp [results, Try.results16, go_sem, y0, y1]) rfl ⟨_, c, Ao, co, by rw [HE.out, ← HN.out], ?_, ?_, ?_, QF⟩
        · rw [HE.out]; exact T5.out.rd0.next QF QF.size
        · rw [HE.out]; exact T5.out.cap
        · rw [HE.out]; exact (own_setj (own_setj T5.out.own (by omega) 0 _) (by omega) 1 _).mono (by omega)
      · have hk : j < l.length := by omega
        have hd0 : (l.drop j)[0]'(by have := HN.out; omega) = l[j] := by simp
        have hne : (l[j].due == now + 1) = false := by rw [beq_eq_false_iff_ne]; exact fun h => hd ⟨hk, h⟩
        have hgt : decide ((0 : Int) < (n : Int)) = true := by rw [decide_eq_true_eq]; omega
        have hgt' : decide (0 < n) = true := by rw [decide_eq_true_eq]; omega
        have r0 := TmR.next hT.out.rd0 hT.out.q hT.out.q.size
        obtain ⟨b, off, rfl, hbs, _⟩ := r0.at_ (k := 0) (by have := HN.out; omega)
        have mj := TmR.all r0 (Nat.le_refl _) (k := 0) (by have := HN.out; omega)
        rw [hd0] at mj
        simp only [Nat.zero_mul, Nat.add_zero] at mj
        have H0 := hide h0
        clear r0 hd
        go_wp2_with fail
        refine wp_region_tame (by kernel_rfl) (by kernel_rfl) ?_
        repeat (go_big_quiet_step (fail))
        clear mj
        refine wpQuiet_nil ?_
        rintro _ ⟨s, rfl⟩
        obtain ⟨W5, q5⟩ := s
        dsimp only
        have T5 := hide (hT.out.below q5)
        have z5 : wr.heap.size ≤ W5.heap.size := q5.size
        clear m1 hT q5
        obtain ⟨x0, x1, _, _⟩ := two_box T5.out.box
        obtain ⟨y0, y1, y2, y3⟩ := two_box T5.out.box2
        rw [← HN.out] at x1
        go_wp2
        have QF : Below w.heap.size w ((W5.setCell ⟨w.heap.size + 1, 0, none⟩ (.int .i64 (now + 1))).setCell ⟨w.heap.size + 1, 1, none⟩ (.slice (some ⟨b, off, none⟩) n c)) := (T5.out.q.setCell (by simp) _).setCell (by simp) _
        refine bodyPost_ret (v := .tuple #[.agg #[.int .i64 (now + 1), .slice (some ⟨b, off, none⟩) n c], .slice Ao j co, .int .i64 0]) (by simp [results, Try.results16, go_sem, y0, y1]) rfl ⟨_, c, Ao, co, by rw [HE.out, ← HN.out], ?_, ?_, ?_, QF⟩
        · rw [HE.out]; exact T5.out.rd0.next QF QF.size
        · rw [HE.out]; exact T5.out.cap
        · rw [HE.out]; exact (own_setj (own_setj T5.out.own (by omega) 0 _) (by omega) 1 _).mono (by omega)
end Go.Proofs.Ytnfpbbgajabjkaa
