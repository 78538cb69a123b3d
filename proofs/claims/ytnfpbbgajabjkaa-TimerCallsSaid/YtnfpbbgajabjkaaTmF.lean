/- timer.Left. -/
import Derived.Test.YtnfpbbgajabjkaaTmE
namespace Go.Proofs.Ytnfpbbgajabjkaa
open Go.ChangeShapes Go.WideShapes Go.ChangeAt Go.RowKit

theorem right_due {now : Int} {l : List Tm} (h : rightTm now l = true) : 0 ≤ now ∧ now ≤ 1099511627776 ∧ l.length ≤ 32 ∧ ∀ x ∈ l, 0 ≤ x.id ∧ x.id ≤ 1000000 ∧ now < x.due ∧ x.due ≤ now + 1000000 := by
  obtain ⟨h1, h2, h3, _, h5⟩ := rightTm_iff.1 h
  refine ⟨h1, h2, h3, fun x hx => ?_⟩
  obtain ⟨k, hk, rfl⟩ := List.mem_iff_getElem.1 hx
  have := h5 k hk hk
  unfold okTm at this
  simp only [Bool.and_eq_true, decide_eq_true_eq] at this
  omega

set_option maxRecDepth 100000 in
set_option maxHeartbeats 2000000 in
theorem left_bad (now : Int) (l : List Tm) (A : Option Addr) (c : Nat) (id : Int) (w : World) (hr : TmR w w.heap.size A l) (hl : l.length ≤ 1000) (hlc : l.length ≤ c) (hdue : ∀ x ∈ l, x.due ≤ 9223372036854775807) (hR : rightTm now l = false) :
    Calls Try.prog 15 #[.agg #[.int .i64 now, .slice A l.length c], .int .i64 id] w fun e w' => e = .returned (.tuple #[.int .i64 0, .int .i64 1]) ∧ Below w.heap.size w w' := by
  have RI := hide (fun W (q : Below w.heap.size w W) => tmRight_any now l A c W (hr.next q q.size) hl hlc hdue)
  rw [hR] at RI
  have q0 : Below w.heap.size w (w.alloc (.cells #[.int .i64 now, .slice A l.length c] 24)) := (Below.refl _ _).alloc (Nat.le_refl _) _
  clear hr hdue hR
  go_enter Try.func15, Try.ntmps15
  go_wp2_with fail
  (with_reducible refine (RI.out _ q0).mono ?_)
  rintro e1 w1 ⟨rfl, q1⟩
  have q1' := below_next q0 q0.size q1
  go_wp2
  go_ret2
  exact ⟨rfl, q1'⟩

set_option maxRecDepth 100000 in
set_option maxHeartbeats 2000000 in
theorem left_ok (now : Int) (l : List Tm) (A : Option Addr) (c : Nat) (id : Int) (w : World) (hr : TmR w w.heap.size A l) (hlc : l.length ≤ c) (hR : rightTm now l = true) :
    Calls Try.prog 15 #[.agg #[.int .i64 now, .slice A l.length c], .int .i64 id] w fun e w' => ((idxTm (fun x => x.id == id) l = -1 ∧ e = .returned (.tuple #[.int .i64 0, .int .i64 21])) ∨ (∃ (i : Nat) (h : i < l.length), idxTm (fun x => x.id == id) l = i ∧ e = .returned (.tuple #[.int .i64 (l[i].due - now), .int .i64 0]))) ∧ Below w.heap.size w w' := by
  obtain ⟨g1, g2, g3, g4⟩ := right_due hR
  have RI := hide (fun W (q : Below w.heap.size w W) => tmRight_any now l A c W (hr.next q q.size) (by omega) hlc (fun x hx => by have := g4 x hx; omega))
  rw [hR] at RI
  have HR := hide hr
  have q0 : Below w.heap.size w (w.alloc (.cells #[.int .i64 now, .slice A l.length c] 24)) := (Below.refl _ _).alloc (Nat.le_refl _) _
  have B0 := hide (World.alloc_heap_new w (.cells #[.int .i64 now, .slice A l.length c] 24))
  have OF := hide (fun W => of_any id W)
  have IX := hide (fun W B (hB : W.heap[B]? = some (.cells #[.int .i64 id] 3 (0, 0))) (q : Below w.heap.size w W) => indexTm_any 95 #[.pointer (some ⟨B, 0, none⟩)] (fun y => y.id == id) (fun _ _ => call_of1 _ _) l A c W (HR.out.next q q.size) (by omega)
    (hide (fun f _ w' hw' => of1_any f id B w' (by have := hw'.size; have := heap_lt hB; omega) (cell_heap hB hw' rfl))))
  have HI : (idxTm (fun y => y.id == id) l = -1 ∧ idxTm (fun y => y.id == id) l < 0) ∨ ∃ (i : Nat) (h : i < l.length), idxTm (fun y => y.id == id) l = i := by
    by_cases h : idxTm (fun y => y.id == id) l < 0
    · exact .inl ⟨(delTm_none h).1, h⟩
    · obtain ⟨i, h1, h2, _⟩ := delTm_start (by omega : 0 ≤ idxTm (fun y => y.id == id) l)
      exact .inr ⟨i, h2, h1⟩
  have G4 := hide g4
  clear hr hR g4
  rcases HI with ⟨hx, _⟩ | ⟨i, hi, hx⟩
  all_goals
    have HX := hide hx
    rw [hx] at IX
    clear hx
    go_enter Try.func15, Try.ntmps15
    go_wp2_with fail
    (with_reducible refine (RI.out _ q0).mono ?_)
    rintro e1 w1 ⟨rfl, q1⟩
    have q1' := below_next q0 q0.size q1
    have B1 := hide (heap_below B0.out q1)
    clear q1
    go_wp2_with fail
    refine wp_region_L [0, 1, 2] [(1, fun W => W.heap[w.heap.size]? = some (.cells #[.int .i64 now, .slice A l.length c] 24 (0, 0)))] (by kernel_rfl) ?_
    replace B1 : Hid (w1.drew.heap[w.heap.size]? = some (.cells #[.int .i64 now, .slice A l.length c] 24 (0, 0))) := B1
    replace q1' : Below w.heap.size w w1.drew := q1'.drew
    generalize w1.drew = w2 at *
    refine wpAnyL_pure (i := 0) (v := .pointer (some ⟨w.heap.size, 1, none⟩)) rfl rfl (by kernel_rfl) (by kernel_rfl) (by kernel_rfl) (by kernel_rfl) (by kernel_rfl) (fun _ _ _ h => h) rfl (fun W => by go_simp) ?_
    go_simp
    refine wpAnyL_load (i := 1) (v := .slice A l.length c) rfl rfl (by kernel_rfl) (by kernel_rfl) (by kernel_rfl) (by kernel_rfl) (by kernel_rfl) (fun _ _ _ h => h) rfl (fun W h => by (have hc0 : W.cell? ⟨w.heap.size, 1, none⟩ = some (.slice A l.length c) := by simp [World.cell?, h]); clear h; go_simp) (B1.out) ?_
    refine wpAnyL_pure (i := 2) (v := .int .i64 id) rfl rfl (by kernel_rfl) (by kernel_rfl) (by kernel_rfl) (by kernel_rfl) (by kernel_rfl) (fun _ _ _ h => h) rfl (fun W => by go_simp) ?_
    go_simp
    refine wpAnyL_one (i := 3) (by kernel_rfl) ?_
    refine wpOp_do rfl rfl ?_
    go_simp
    (with_reducible refine (OF.out _).mono ?_)
    rintro e4 w4 ⟨rfl, e4w⟩
    have q4 : Below w2.heap.size w2 w4 := by rw [e4w]; exact (Below.refl _ _).alloc (Nat.le_refl _) _
    have hcell : w4.heap[w2.heap.size]? = some (.cells #[.int .i64 id] 3 (0, 0)) := by rw [e4w]; exact World.alloc_heap_new w2 _
    have q4' := below_next q1' q1'.size q4
    have B4 := hide (heap_below B1.out q4)
    have IY := hide (IX.out w4 _ hcell q4')
    clear e4w hcell q4
    go_simp
    refine ⟨keepsL_mk (by kernel_rfl) (.cons B4.out .nil), ?_⟩
    go_simp
    refine wpAnyL_one (i := 4) (by kernel_rfl) ?_
    refine wpOp_do rfl rfl ?_
    go_simp
    (with_reducible refine IY.out.mono ?_)
    rintro e5 w5 ⟨rfl, q5⟩
    have q5' := below_next q4' q4'.size q5
    have B5 := hide (heap_below B4.out q5)
    clear IY q5
    go_simp
    refine ⟨keepsL_all (by kernel_rfl) (by kernel_rfl), ?_⟩
    refine wpAnyL_one (i := 5) (by kernel_rfl) ?_
    refine wpOp_do rfl rfl ?_
    go_simp
    refine ⟨keepsL_all (by kernel_rfl) (by kernel_rfl), ?_⟩
    refine wpAnyL_done (by kernel_rfl) ?_ _
  · go_wp2
    go_ret2
    exact ⟨.inl ⟨HX.out, rfl⟩, q5'⟩
  · have hi0 : (0 : Int) ≤ (i : Int) := by omega
    have hi1 : (i : Int) < (l.length : Int) := by omega
    obtain ⟨b, off, rfl, _⟩ := HR.out.at_ hi
    have mi := TmR.all (HR.out.next q5' q5'.size) (Nat.le_refl _) hi
    have m1 := fun s : InW w5 => (⟨cell_heap (j := 0) B5.out s.h rfl, cell_heap (j := 1) B5.out s.h rfl⟩ : s.W.cell? ⟨w.heap.size, 0, none⟩ = some (.int .i64 now) ∧ s.W.cell? ⟨w.heap.size, 1, none⟩ = some (.slice (some ⟨b, off, none⟩) l.length c))
    have gx := G4.out _ (List.getElem_mem hi)
    have hw1 : IntKind.i64.wrap (l[i].due - now) = l[i].due - now := IntWalk.i64_in _ (by omega)
    have hd0 : decide ((0 : Int) ≤ (i : Int)) = true := decide_eq_true hi0
    go_wp2_with fail
    refine wp_region_tame (by kernel_rfl) (by kernel_rfl) ?_
    repeat (go_big_quiet_step (fail))
    refine wpQuiet_nil ?_
    rintro _ ⟨s, rfl⟩
    have qs := below_next q5' q5'.size s.h
    clear mi m1 hw1
    go_wp2
    go_ret2
    exact ⟨.inr ⟨i, hi, HX.out, rfl⟩, qs⟩
end Go.Proofs.Ytnfpbbgajabjkaa
