/- timer.of, its closure, timer.Right. -/
import Derived.Test.YtnfpbbgajabjkaaTmC
namespace Go.Proofs.Ytnfpbbgajabjkaa
open Go.ChangeShapes Go.WideShapes Go.ChangeAt Go.RowKit

/-- May the timer at k be? -/
def okTm (l : List Tm) (now : Int) (k : Nat) (x : Tm) : Bool := decide (0 ≤ x.id) && (decide (x.id ≤ 1000000) && (decide (now < x.due) && (decide (x.due - now ≤ 1000000) && !(l.take k).any (fun y => y.id == x.id))))
def okTmTo (l : List Tm) (now : Int) (n : Nat) : Prop := ∀ k (h : k < l.length), k < n → okTm l now k l[k] = true
def rightTm (now : Int) (l : List Tm) : Bool :=
  decide (0 ≤ now) && (decide (now ≤ 1099511627776) && (decide (l.length ≤ 32) && (srtB l && (List.range l.length).all fun k => match l[k]? with | none => true | some x => okTm l now k x)))
theorem rightTm_all {l : List Tm} {now : Int} : ((List.range l.length).all fun k => match l[k]? with | none => true | some x => okTm l now k x) = true ↔ okTmTo l now l.length := by
  rw [List.all_eq_true]
  constructor
  · intro h k hk _
    have := h k (List.mem_range.2 hk)
    rw [List.getElem?_eq_getElem hk] at this
    exact this
  · intro h k hk
    have hk := List.mem_range.1 hk
    rw [List.getElem?_eq_getElem hk]
    exact h k hk hk
theorem rightTm_iff {l : List Tm} {now : Int} : rightTm now l = true ↔ 0 ≤ now ∧ now ≤ 1099511627776 ∧ l.length ≤ 32 ∧ srtB l = true ∧ okTmTo l now l.length := by
  unfold rightTm
  simp only [Bool.and_eq_true, decide_eq_true_eq, rightTm_all]
theorem rightTm_false {l : List Tm} {now : Int} (h : ¬ (0 ≤ now ∧ now ≤ 1099511627776 ∧ l.length ≤ 32 ∧ srtB l = true ∧ okTmTo l now l.length)) : rightTm now l = false := by
  rw [← Bool.not_eq_true, rightTm_iff]; exact h
theorem rightTm_bad {l : List Tm} {now : Int} {k : Nat} (hk : k < l.length) (h : okTm l now k l[k] = false) : rightTm now l = false := by
  apply rightTm_false
  rintro ⟨_, _, _, _, h6⟩
  rw [h6 k hk hk] at h
  cases h
theorem okTmTo_succ {l : List Tm} {now : Int} {k : Nat} (hlt : k < l.length) (h : okTmTo l now k) (hx : okTm l now k l[k] = true) : okTmTo l now (k + 1) := fun j hj hk => by
  by_cases e : j = k
  · subst e; exact hx
  · exact h j hj (by omega)

set_option maxRecDepth 100000 in
theorem of_any (s : Int) (w : World) : Calls Try.prog 53 #[.int .i64 s] w fun e w' => e = .returned (.func (.func 95) #[] #[.pointer (some ⟨w.heap.size, 0, none⟩)]) ∧ w' = w.alloc (.cells #[.int .i64 s] 3) := by
  go_enter Try.func53, Try.ntmps53
  go_wp2
  go_ret
  exact ⟨rfl, rfl⟩
set_option maxRecDepth 100000 in
theorem of1_any (x : Tm) (s : Int) (bb : Nat) (w : World) (hb : bb < w.heap.size) (hc : w.cell? ⟨bb, 0, none⟩ = some (.int .i64 s)) :
    Calls Try.prog 95 #[.agg #[.int .i64 x.id, .int .i64 x.due], .pointer (some ⟨bb, 0, none⟩)] w fun e w' => e = .returned (.bool (x.id == s)) ∧ Below w.heap.size w w' := by
  obtain ⟨id, due⟩ := x
  dsimp only at *
  have q0 : Below w.heap.size w (w.alloc (.cells #[.int .i64 id, .int .i64 due] 40)) := (Below.refl _ _).alloc (Nat.le_refl _) _
  go_enter Try.func95, Try.ntmps95
  go_wp2
  go_ret
  exact ⟨rfl, q0⟩
theorem call_of1 (args : Array Value) (w : World) : (callFunc 95 args).run Try.prog w = .ok (.enter 95 args) w := by kernel_rfl

/-- A box of the call's own that stands. -/
theorem cell_heap {W W' : World} {B j : Nat} {cs : Array Value} {t : TypeId} {fz : Nat × Nat} {v : Value} (h : W.heap[B]? = some (.cells cs t fz)) (q : Below W.heap.size W W') (hv : cs[j]? = some v) : W'.cell? ⟨B, j, none⟩ = some v := by
  simp [World.cell?, heap_below h q, hv]

set_option maxRecDepth 100000 in
set_option maxHeartbeats 4000000 in
theorem tmRight_any (now : Int) (l : List Tm) (A : Option Addr) (c : Nat) (w : World) (hr : TmR w w.heap.size A l) (hl : l.length ≤ 1000) (hlc : l.length ≤ c) (hdue : ∀ x ∈ l, x.due ≤ 9223372036854775807) :
    Calls Try.prog 17 #[.agg #[.int .i64 now, .slice A l.length c]] w fun e w' => e = .returned (.bool (rightTm now l)) ∧ Below w.heap.size w w' := by
  have q0 : Below w.heap.size w (w.alloc (.cells #[.int .i64 now, .slice A l.length c] 24)) := (Below.refl _ _).alloc (Nat.le_refl _) _
  have HR := hide hr
  have HDUE := hide hdue
  have B0 := hide (World.alloc_heap_new w (.cells #[.int .i64 now, .slice A l.length c] 24))
  have SR := hide (fun W (q : Below w.heap.size w W) => isSorted_any l A c W (hr.next q q.size) hl)
  clear hr hdue
  by_cases hout : 0 ≤ now ∧ now ≤ 1099511627776 ∧ l.length ≤ 32
  · obtain ⟨o1, o2, o3⟩ := hout
    have o3' : (l.length : Int) ≤ 32 := by omega
    rcases hS : srtB l with _ | _
    · have HF := hide (rightTm_false (l := l) (now := now) (fun h => by rw [hS] at h; exact absurd h.2.2.2.1 (by simp)))
      rw [hS] at SR
      clear hS
      go_enter Try.func17, Try.ntmps17
      go_wp2_with fail
      (with_reducible refine (SR.out _ q0).mono ?_)
      rintro e1 w1 ⟨rfl, q1⟩
      have q1' := below_next q0 q0.size q1
      go_wp2
      go_ret
      exact ⟨by rw [HF.out]; rfl, q1'⟩
    · rw [hS] at SR
      have HSR := hide hS
      clear hS
      go_enter Try.func17, Try.ntmps17
      go_wp2_with fail
      (with_reducible refine (SR.out _ q0).mono ?_)
      rintro e1 w1 ⟨rfl, q1⟩
      have q1' := below_next q0 q0.size q1
      have B1 := hide (heap_below B0.out q1)
      have z1 : w.heap.size < w1.heap.size := heap_lt B1.out
      have cc0 : w1.cell? ⟨w.heap.size, 0, none⟩ = some (.int .i64 now) := cell_heap B1.out (Below.refl _ _) rfl
      have cc1 : w1.cell? ⟨w.heap.size, 1, none⟩ = some (.slice A l.length c) := cell_heap B1.out (Below.refl _ _) rfl
      clear q1
      go_wp2
      clear cc0 cc1
      go_loopw [28] (fun i W => ∃ k : Nat, k ≤ l.length ∧ i = .int .i64 k ∧ Hid (okTmTo l now k) ∧ Below w.heap.size w W ∧ Hid (W.heap[w.heap.size]? = some (.cells #[.int .i64 now, .slice A l.length c] 24 (0, 0)))) (fun i _ => l.length - (intOf i).toNat)
      case atStart => exact ⟨0, Nat.zero_le _, rfl, hide (fun _ _ h => absurd h (by omega)), q1', B1⟩
      case round =>
        obtain ⟨k, hk, rfl, hinv, q, hB⟩ := hrel
        clear B1 z1 q1'
        have zw : w.heap.size < wr.heap.size := heap_lt hB.out
        by_cases hlt : k < l.length
        · have rd := TmR.next HR.out q q.size
          obtain ⟨b, off, rfl, hbs, c0, c1⟩ := rd.at_ hlt
          have qa : Below w.heap.size w (wr.alloc (.cells #[.int .i64 l[k].id, .int .i64 l[k].due] 40)) := q.alloc q.size _
          have HBAD := hide (show okTm l now k l[k] = false → rightTm now l = false from fun h => rightTm_bad hlt h)
          have H4 := hide (World.alloc_heap_new wr (.cells #[.int .i64 l[k].id, .int .i64 l[k].due] 40))
          have H1 := hide (heap_below hB.out ((Below.refl _ _).alloc (Nat.le_refl _) (.cells #[.int .i64 l[k].id, .int .i64 l[k].due] 40)))
          by_cases hin : 0 ≤ l[k].id ∧ l[k].id ≤ 1000000 ∧ now < l[k].due ∧ l[k].due - now ≤ 1000000
          · obtain ⟨i1, i2, i3, i4⟩ := hin
            have hdk := HDUE.out _ (List.getElem_mem hlt)
            have hw1 : IntKind.i64.wrap (l[k].due - now) = l[k].due - now := IntWalk.i64_in _ (by omega)
            have hrun := run_to (P := Try.prog) 22 40 Try.underlying22 2 (fun W => by kernel_rfl) (some ⟨b, off, none⟩) l.length c k k rfl (by omega)
            have hkl : (l.take k).length = k := by rw [List.length_take]; omega
            have CF := hide (fun W W' B (hB : B = W.heap.size) (hW : Below wr.heap.size wr W) (hW' : W'= W.alloc (.cells #[.int .i64 l[k].id] 3)) => by
              have hz : wr.heap.size ≤ W.heap.size := hW.size
              have hcell : W'.heap[B]? = some (.cells #[.int .i64 l[k].id] 3 (0, 0)) := by rw [hW', hB]; exact World.alloc_heap_new W _
              have hb' : Below W.heap.size W W' := by rw [hW']; exact (Below.refl _ _).alloc (Nat.le_refl _) _
              have := containsTm_any 95 #[.pointer (some ⟨B, 0, none⟩)] (fun y => y.id == l[k].id) (fun _ _ => call_of1 _ _) (l.take k) (some ⟨b, off, none⟩) c W' (((rd.next hW hW.size).next hb' hb'.size).take k) (by omega)
                (hide (fun f _ w' hw' => of1_any f l[k].id B w' (by have := hw'.size; have := heap_lt hcell; omega) (cell_heap hcell hw' rfl)))
              rw [hkl] at this
              exact this)
            have OF := hide (fun W => of_any l[k].id W)
            have hk3 : (k : Int) ≤ (l.length : Int) := by omega
            rcases hC : (l.take k).any (fun y => y.id == l[k].id) with _ | _
            all_goals
              rw [hC] at CF
              go_wp2_with fail
              clear c0 c1
              refine wp_region_L [0, 1, 2, 3, 4, 5, 6, 7, 8, 9, 10, 11, 12, 13, 14, 15, 16, 17, 18, 19, 20, 21, 22, 23, 24, 25, 26, 27, 28, 29] [(1, fun W => W.heap[wr.heap.size]? = some (.cells #[.int .i64 l[k].id, .int .i64 l[k].due] 40 (0, 0))), (5, fun W => W.heap[wr.heap.size]? = some (.cells #[.int .i64 l[k].id, .int .i64 l[k].due] 40 (0, 0))), (10, fun W => W.heap[wr.heap.size]? = some (.cells #[.int .i64 l[k].id, .int .i64 l[k].due] 40 (0, 0))), (12, fun W => W.heap[w.heap.size]? = some (.cells #[.int .i64 now, .slice (some ⟨b, off, none⟩) l.length c] 24 (0, 0))), (17, fun W => W.heap[wr.heap.size]? = some (.cells #[.int .i64 l[k].id, .int .i64 l[k].due] 40 (0, 0))), (19, fun W => W.heap[w.heap.size]? = some (.cells #[.int .i64 now, .slice (some ⟨b, off, none⟩) l.length c] 24 (0, 0))), (25, fun W => W.heap[w.heap.size]? = some (.cells #[.int .i64 now, .slice (some ⟨b, off, none⟩) l.length c] 24 (0, 0))), (29, fun W => W.heap[wr.heap.size]? = some (.cells #[.int .i64 l[k].id, .int .i64 l[k].due] 40 (0, 0)))] (by kernel_rfl) ?_
              refine wpAnyL_pure (i := 0) (v := .pointer (some ⟨wr.heap.size, 0, none⟩)) rfl rfl (by kernel_rfl) (by kernel_rfl) (by kernel_rfl) (by kernel_rfl) (by kernel_rfl) (fun _ _ _ h => h) rfl (fun W => by go_simp) ?_
              go_simp
              refine wpAnyL_load (i := 1) (v := .int .i64 l[k].id) rfl rfl (by kernel_rfl) (by kernel_rfl) (by kernel_rfl) (by kernel_rfl) (by kernel_rfl) (fun _ _ _ h => h) rfl (fun W h => by (have hc0 : W.cell? ⟨wr.heap.size, 0, none⟩ = some (.int .i64 l[k].id) := by simp [World.cell?, h]); clear h; go_simp) (H4.out) ?_
              go_simp
              refine wpAnyL_pure (i := 2) (v := .bool false) rfl rfl (by kernel_rfl) (by kernel_rfl) (by kernel_rfl) (by kernel_rfl) (by kernel_rfl) (fun _ _ _ h => h) rfl (fun W => by go_simp) ?_
              go_simp
              refine wpAnyL_pure (i := 3) (v := .bool false) rfl rfl (by kernel_rfl) (by kernel_rfl) (by kernel_rfl) (by kernel_rfl) (by kernel_rfl) (fun _ _ _ h => h) rfl (fun W => by go_simp) ?_
              go_simp
              refine wpAnyL_pureG (i := 4) (v := .pointer (some ⟨wr.heap.size, 0, none⟩)) rfl rfl (by kernel_rfl) (by kernel_rfl) (by kernel_rfl) (by kernel_rfl) (by kernel_rfl) (fun _ _ _ h => h) (by kernel_rfl) (fun W => by go_simp) ?_
              go_simp
              refine wpAnyL_loadG (i := 5) (v := .int .i64 l[k].id) rfl rfl (by kernel_rfl) (by kernel_rfl) (by kernel_rfl) (by kernel_rfl) (by kernel_rfl) (fun _ _ _ h => h) (by kernel_rfl) (fun W h => by (have hc0 : W.cell? ⟨wr.heap.size, 0, none⟩ = some (.int .i64 l[k].id) := by simp [World.cell?, h]); clear h; go_simp) (H4.out) ?_
              go_simp
              refine wpAnyL_pureG (i := 6) (v := .bool false) rfl rfl (by kernel_rfl) (by kernel_rfl) (by kernel_rfl) (by kernel_rfl) (by kernel_rfl) (fun _ _ _ h => h) (by kernel_rfl) (fun W => by go_simp) ?_
              go_simp
              refine wpAnyL_pure (i := 7) (v := .bool false) rfl rfl (by kernel_rfl) (by kernel_rfl) (by kernel_rfl) (by kernel_rfl) (by kernel_rfl) (fun _ _ _ h => h) rfl (fun W => by go_simp) ?_
              go_simp
              refine wpAnyL_pure (i := 8) (v := .bool false) rfl rfl (by kernel_rfl) (by kernel_rfl) (by kernel_rfl) (by kernel_rfl) (by kernel_rfl) (fun _ _ _ h => h) rfl (fun W => by go_simp) ?_
              go_simp
              refine wpAnyL_pureG (i := 9) (v := .pointer (some ⟨wr.heap.size, 1, none⟩)) rfl rfl (by kernel_rfl) (by kernel_rfl) (by kernel_rfl) (by kernel_rfl) (by kernel_rfl) (fun _ _ _ h => h) (by kernel_rfl) (fun W => by go_simp) ?_
              go_simp
              refine wpAnyL_loadG (i := 10) (v := .int .i64 l[k].due) rfl rfl (by kernel_rfl) (by kernel_rfl) (by kernel_rfl) (by kernel_rfl) (by kernel_rfl) (fun _ _ _ h => h) (by kernel_rfl) (fun W h => by (have hc0 : W.cell? ⟨wr.heap.size, 1, none⟩ = some (.int .i64 l[k].due) := by simp [World.cell?, h]); clear h; go_simp) (H4.out) ?_
              go_simp
              refine wpAnyL_pureG (i := 11) (v := .pointer (some ⟨w.heap.size, 0, none⟩)) rfl rfl (by kernel_rfl) (by kernel_rfl) (by kernel_rfl) (by kernel_rfl) (by kernel_rfl) (fun _ _ _ h => h) (by kernel_rfl) (fun W => by go_simp) ?_
              go_simp
              refine wpAnyL_loadG (i := 12) (v := .int .i64 now) rfl rfl (by kernel_rfl) (by kernel_rfl) (by kernel_rfl) (by kernel_rfl) (by kernel_rfl) (fun _ _ _ h => h) (by kernel_rfl) (fun W h => by (have hc0 : W.cell? ⟨w.heap.size, 0, none⟩ = some (.int .i64 now) := by simp [World.cell?, h]); clear h; go_simp) (H1.out) ?_
              go_simp
              refine wpAnyL_pureG (i := 13) (v := .bool false) rfl rfl (by kernel_rfl) (by kernel_rfl) (by kernel_rfl) (by kernel_rfl) (by kernel_rfl) (fun _ _ _ h => h) (by kernel_rfl) (fun W => by go_simp) ?_
              go_simp
              refine wpAnyL_pure (i := 14) (v := .bool false) rfl rfl (by kernel_rfl) (by kernel_rfl) (by kernel_rfl) (by kernel_rfl) (by kernel_rfl) (fun _ _ _ h => h) rfl (fun W => by go_simp) ?_
              go_simp
              refine wpAnyL_pure (i := 15) (v := .bool false) rfl rfl (by kernel_rfl) (by kernel_rfl) (by kernel_rfl) (by kernel_rfl) (by kernel_rfl) (fun _ _ _ h => h) rfl (fun W => by go_simp) ?_
              go_simp
              refine wpAnyL_pureG (i := 16) (v := .pointer (some ⟨wr.heap.size, 1, none⟩)) rfl rfl (by kernel_rfl) (by kernel_rfl) (by kernel_rfl) (by kernel_rfl) (by kernel_rfl) (fun _ _ _ h => h) (by kernel_rfl) (fun W => by go_simp) ?_
              go_simp
              refine wpAnyL_loadG (i := 17) (v := .int .i64 l[k].due) rfl rfl (by kernel_rfl) (by kernel_rfl) (by kernel_rfl) (by kernel_rfl) (by kernel_rfl) (fun _ _ _ h => h) (by kernel_rfl) (fun W h => by (have hc0 : W.cell? ⟨wr.heap.size, 1, none⟩ = some (.int .i64 l[k].due) := by simp [World.cell?, h]); clear h; go_simp) (H4.out) ?_
              go_simp
              refine wpAnyL_pureG (i := 18) (v := .pointer (some ⟨w.heap.size, 0, none⟩)) rfl rfl (by kernel_rfl) (by kernel_rfl) (by kernel_rfl) (by kernel_rfl) (by kernel_rfl) (fun _ _ _ h => h) (by kernel_rfl) (fun W => by go_simp) ?_
              go_simp
              refine wpAnyL_loadG (i := 19) (v := .int .i64 now) rfl rfl (by kernel_rfl) (by kernel_rfl) (by kernel_rfl) (by kernel_rfl) (by kernel_rfl) (fun _ _ _ h => h) (by kernel_rfl) (fun W h => by (have hc0 : W.cell? ⟨w.heap.size, 0, none⟩ = some (.int .i64 now) := by simp [World.cell?, h]); clear h; go_simp) (H1.out) ?_
              go_simp
              refine wpAnyL_pureG (i := 20) (v := .int .i64 (l[k].due - now)) rfl rfl (by kernel_rfl) (by kernel_rfl) (by kernel_rfl) (by kernel_rfl) (by kernel_rfl) (fun _ _ _ h => h) (by kernel_rfl) (fun W => by go_simp) ?_
              go_simp
              refine wpAnyL_pureG (i := 21) (v := .bool false) rfl rfl (by kernel_rfl) (by kernel_rfl) (by kernel_rfl) (by kernel_rfl) (by kernel_rfl) (fun _ _ _ h => h) (by kernel_rfl) (fun W => by go_simp) ?_
              go_simp
              refine wpAnyL_pure (i := 22) (v := .bool false) rfl rfl (by kernel_rfl) (by kernel_rfl) (by kernel_rfl) (by kernel_rfl) (by kernel_rfl) (fun _ _ _ h => h) rfl (fun W => by go_simp) ?_
              go_simp
              refine wpAnyL_pure (i := 23) (v := .bool false) rfl rfl (by kernel_rfl) (by kernel_rfl) (by kernel_rfl) (by kernel_rfl) (by kernel_rfl) (fun _ _ _ h => h) rfl (fun W => by go_simp) ?_
              go_simp
              refine wpAnyL_pureG (i := 24) (v := .pointer (some ⟨w.heap.size, 1, none⟩)) rfl rfl (by kernel_rfl) (by kernel_rfl) (by kernel_rfl) (by kernel_rfl) (by kernel_rfl) (fun _ _ _ h => h) (by kernel_rfl) (fun W => by go_simp) ?_
              go_simp
              refine wpAnyL_loadG (i := 25) (v := .slice (some ⟨b, off, none⟩) l.length c) rfl rfl (by kernel_rfl) (by kernel_rfl) (by kernel_rfl) (by kernel_rfl) (by kernel_rfl) (fun _ _ _ h => h) (by kernel_rfl) (fun W h => by (have hc0 : W.cell? ⟨w.heap.size, 1, none⟩ = some (.slice (some ⟨b, off, none⟩) l.length c) := by simp [World.cell?, h]); clear h; go_simp) (H1.out) ?_
              go_simp
              refine wpAnyL_pureG (i := 26) (v := .int .i64 k) rfl rfl (by kernel_rfl) (by kernel_rfl) (by kernel_rfl) (by kernel_rfl) (by kernel_rfl) (fun _ _ _ h => h) (by kernel_rfl) (fun W => by go_simp) ?_
              go_simp
              refine wpAnyL_pureG (i := 27) (v := .slice (some ⟨b, off, none⟩) k c) rfl rfl (by kernel_rfl) (by kernel_rfl) (by kernel_rfl) (by kernel_rfl) (by kernel_rfl) (fun _ _ _ h => h) (by kernel_rfl) (fun W => by go_simp) ?_
              go_simp
              refine wpAnyL_pureG (i := 28) (v := .pointer (some ⟨wr.heap.size, 0, none⟩)) rfl rfl (by kernel_rfl) (by kernel_rfl) (by kernel_rfl) (by kernel_rfl) (by kernel_rfl) (fun _ _ _ h => h) (by kernel_rfl) (fun W => by go_simp) ?_
              go_simp
              refine wpAnyL_loadG (i := 29) (v := .int .i64 l[k].id) rfl rfl (by kernel_rfl) (by kernel_rfl) (by kernel_rfl) (by kernel_rfl) (by kernel_rfl) (fun _ _ _ h => h) (by kernel_rfl) (fun W h => by (have hc0 : W.cell? ⟨wr.heap.size, 0, none⟩ = some (.int .i64 l[k].id) := by simp [World.cell?, h]); clear h; go_simp) (H4.out) ?_
              go_simp
              refine wpAnyL_one (i := 30) (by kernel_rfl) ?_
              refine wpOp_guard rfl (by kernel_rfl) ?_
              go_simp
              (with_reducible refine (OF.out _).mono ?_)
              rintro e5 w5 ⟨rfl, e5w⟩
              have CT := hide (CF.out _ w5 (wr.heap.size + 1) (by simp) (((Below.refl _ _).alloc (Nat.le_refl _) _).drew) e5w)
              have qb : Below (wr.alloc (.cells #[.int .i64 l[k].id, .int .i64 l[k].due] 40)).heap.size (wr.alloc (.cells #[.int .i64 l[k].id, .int .i64 l[k].due] 40)) w5 := by rw [e5w]; refine Below.alloc (Below.drew (Below.refl _ _)) ?_ _; exact Nat.le_refl _
              have H1' := hide (heap_below H1.out qb)
              have H4' := hide (heap_below H4.out qb)
              have q5 := below_next qa qa.size qb
              clear e5w qb
              go_simp
              refine ⟨keepsL_mk (by kernel_rfl) (.cons H4'.out (.cons H4'.out (.cons H4'.out (.cons H1'.out (.cons H4'.out (.cons H1'.out (.cons H1'.out (.cons H4'.out .nil)))))))), ?_⟩
              go_simp
              refine wpAnyL_one (i := 31) (by kernel_rfl) ?_
              refine wpOp_guard rfl (by kernel_rfl) ?_
              go_simp
              (with_reducible refine CT.out.mono ?_)
              rintro e6 w6 ⟨rfl, q6⟩
              have q6' := below_next q5 q5.size q6
              have B6 := hide (heap_below H1'.out q6)
              clear CT H4' H1'
              go_simp
              refine ⟨keepsL_all (by kernel_rfl) (by kernel_rfl), ?_⟩
              refine wpAnyL_one (i := 32) (by kernel_rfl) ?_
              refine wpOp_do rfl rfl ?_
              go_simp
              refine ⟨keepsL_all (by kernel_rfl) (by kernel_rfl), ?_⟩
              refine wpAnyL_done (by kernel_rfl) ?_ _
            · have HS := hide (okTmTo_succ hlt hinv.out (by
                unfold okTm
                rw [hC, decide_eq_true i1, decide_eq_true i2, decide_eq_true i3, decide_eq_true i4]
                rfl))
              go_wp2
              go_roundw
              case rel => exact ⟨k + 1, by omega, by go_num, HS.out, q6', B6⟩
              case measure => simp [intOf]; omega
            · have HF := hide (HBAD.out (by unfold okTm; rw [hC]; simp))
              go_wp2
              go_ret
              exact ⟨by rw [HF.out]; rfl, q6'⟩
          · have HF := hide (HBAD.out (by
              unfold okTm
              rw [← Bool.not_eq_true]
              simp only [Bool.and_eq_true, decide_eq_true_eq]
              rintro ⟨h1, h2, h3, h4, _⟩
              exact hin ⟨h1, h2, h3, h4⟩))
            have hdk := HDUE.out _ (List.getElem_mem hlt)
            have zwa : wr.heap.size < (wr.alloc (.cells #[.int .i64 l[k].id, .int .i64 l[k].due] 40)).heap.size := by simp
            have m4 := fun s : InW (wr.alloc (.cells #[.int .i64 l[k].id, .int .i64 l[k].due] 40)) => tmBox_s H4.out s
            have m1 := fun s : InW (wr.alloc (.cells #[.int .i64 l[k].id, .int .i64 l[k].due] 40)) => (cell_heap (j := 0) H1.out s.h rfl : s.W.cell? ⟨w.heap.size, 0, none⟩ = some (.int .i64 now))
            rcases (show l[k].id < 0 ∨ 0 ≤ l[k].id ∧ (1000000 < l[k].id ∨ l[k].id ≤ 1000000 ∧ (l[k].due ≤ now ∨ now < l[k].due ∧ 1000000 < l[k].due - now)) by omega) with h | ⟨g1, h | ⟨g2, h | ⟨g3, h⟩⟩⟩
            rotate_left 3
            · have hw1 : IntKind.i64.wrap (l[k].due - now) = l[k].due - now := IntWalk.i64_in _ (by omega)
              have hd1 : decide (1000000 < l[k].due - now) = true := decide_eq_true h
              have hd2 : decide (l[k].id < 0) = false := decide_eq_false (by omega)
              have hd3 : decide (1000000 < l[k].id) = false := decide_eq_false (by omega)
              have hd4 : decide (l[k].due ≤ now) = false := decide_eq_false (by omega)
              clear hin h
              go_wp2_with fail
              refine wp_region_tame (by kernel_rfl) (by kernel_rfl) ?_
              repeat (go_big_quiet_step (fail))
              refine wpQuiet_nil ?_
              rintro _ ⟨s, rfl⟩
              have qs := below_next qa qa.size s.h
              clear m1 m4 hw1
              go_wp2
              go_ret
              exact ⟨by rw [HF.out]; rfl, qs⟩
            all_goals
              first | (have hd2 : decide (l[k].id < 0) = true := decide_eq_true (by omega)) | (have hd2 : decide (l[k].id < 0) = false := decide_eq_false (by omega))
              first | (have hd3 : decide (1000000 < l[k].id) = true := decide_eq_true (by omega)) | (have hd3 : decide (1000000 < l[k].id) = false := decide_eq_false (by omega))
              first | (have hd4 : decide (l[k].due ≤ now) = true := decide_eq_true (by omega)) | (have hd4 : decide (l[k].due ≤ now) = false := decide_eq_false (by omega)) | skip
              clear hin
              go_wp2_with fail
              refine wp_region_tame (by kernel_rfl) (by kernel_rfl) ?_
              repeat (go_big_quiet_step (fail))
              refine wpQuiet_nil ?_
              rintro _ ⟨s, rfl⟩
              have qs := below_next qa qa.size s.h
              clear m1 m4
              go_wp2
              go_ret
              exact ⟨by rw [HF.out]; rfl, qs⟩
        · have HT := hide (rightTm_iff.2 ⟨o1, o2, o3, HSR.out, fun j h _ => hinv.out j h (by omega)⟩)
          go_wp2
          go_ret
          exact ⟨by rw [HT.out]; rfl, q⟩
  · have HF := hide (rightTm_false (l := l) (now := now) (fun h => hout ⟨h.1, h.2.1, h.2.2.1⟩))
    rcases (show now < 0 ∨ 0 ≤ now ∧ (1099511627776 < now ∨ now ≤ 1099511627776 ∧ 32 < l.length) by omega) with h | ⟨g1, h | ⟨g2, h⟩⟩
    all_goals
      clear hout
      go_enter Try.func17, Try.ntmps17
      go_wp2
      go_ret
      exact ⟨by rw [HF.out]; rfl, q0⟩
end Go.Proofs.Ytnfpbbgajabjkaa
