/- cmp.Compare, cmp.Or of ints; timer.order. -/
import Derived.Test.YtnfpbbgajabjkaaOrdL
namespace Go.Proofs.Ytnfpbbgajabjkaa
open Go.ChangeShapes Go.WideShapes Go.ChangeAt Go.RowKit

theorem bcell2 {W w1 : World} (hb : Below W.heap.size W w1) : (∀ b o, b < W.heap.size → w1.cell? ⟨b, o, none⟩ = W.cell? ⟨b, o, none⟩) ∧ (∀ b o, b < W.heap.size → w1.frozen? ⟨b, o, none⟩ = W.frozen? ⟨b, o, none⟩) :=
  ⟨fun b o h => hb.cell (p := ⟨b, o, none⟩) h, fun b o h => hb.frozen (p := ⟨b, o, none⟩) h⟩

structure Tm where
  id : Int
  due : Int

def cmpZ (x y : Int) : Int := if x < y then -1 else if y < x then 1 else 0
theorem cmpZ_cases (x y : Int) : (x < y ∧ cmpZ x y = -1) ∨ (y < x ∧ cmpZ x y = 1) ∨ (x = y ∧ cmpZ x y = 0) := by
  unfold cmpZ
  by_cases h : x < y
  · rw [if_pos h]; omega
  · by_cases h2 : y < x
    · rw [if_neg h, if_pos h2]; omega
    · rw [if_neg h, if_neg h2]; omega
def orZ (x y : Int) : Int := if x ≠ 0 then x else y
def ordT (a b : Tm) : Int := orZ (cmpZ a.due b.due) (cmpZ a.id b.id)
def aheadT2 (a b : Tm) : Prop := a.due < b.due ∨ a.due = b.due ∧ a.id < b.id
theorem ordT_neg (a b : Tm) : ordT a b < 0 ↔ aheadT2 a b := by
  unfold ordT orZ aheadT2
  rcases cmpZ_cases a.due b.due with h | h | h <;> rcases cmpZ_cases a.id b.id with h' | h' | h' <;> (rw [h.2, h'.2]; simp; omega)

set_option maxRecDepth 100000 in
theorem cmpInt_any (x y : Int) (w : World) : Calls Try.prog 97 #[.int .i64 x, .int .i64 y] w fun e w' => e = .returned (.int .i64 (cmpZ x y)) ∧ w = w' := by
  rcases cmpZ_cases x y with ⟨h, e⟩ | ⟨h, e⟩ | ⟨h, e⟩
  · rw [e]
    clear e
    go_enter Try.func97, Try.ntmps97
    go_wp2
    go_ret
    exact ⟨rfl, rfl⟩
  · rw [e]
    have h' : ¬ x < y := by omega
    clear e
    go_enter Try.func97, Try.ntmps97
    go_wp2
    go_ret
    exact ⟨rfl, rfl⟩
  · rw [e]
    subst h
    clear e
    go_enter Try.func97, Try.ntmps97
    go_wp2
    go_ret
    exact ⟨rfl, rfl⟩

set_option maxRecDepth 100000 in
theorem cmpOr_any (x y : Int) (b : Nat) (w : World) (h0 : w.cell? ⟨b, 0, none⟩ = some (.int .i64 x)) (h1 : w.cell? ⟨b, 1, none⟩ = some (.int .i64 y)) :
    Calls Try.prog 96 #[.slice (some ⟨b, 0, none⟩) 2 2] w fun e w' => e = .returned (.int .i64 (orZ x y)) ∧ w = w' := by
  have hx : x = 0 ∨ ((x == 0) = false ∧ (x != 0) = true ∧ orZ x y = x) := by
    by_cases h : x = 0
    · exact .inl h
    · exact .inr ⟨by simp [h], by simp [h], by unfold orZ; rw [if_pos h]⟩
  rcases hx with hx | ⟨hx, hx', e⟩
  · subst hx
    have e : orZ 0 y = y := by unfold orZ; simp
    rw [e]
    by_cases hy : y = 0
    · subst hy
      clear e
      go_enter Try.func96, Try.ntmps96
      go_wp2
      refine wp_loop_rounds 3 ?_
      rw [rounds_succ]
      go_wp2
      rw [rounds_succ]
      go_wp2
      rw [rounds_succ]
      go_wp2
      go_ret
      exact ⟨rfl, rfl⟩
    · have hy1 : (y == 0) = false := by simp [hy]
      have hy2 : (y != 0) = true := by simp [hy]
      clear e hy
      go_enter Try.func96, Try.ntmps96
      go_wp2
      refine wp_loop_rounds 2 ?_
      rw [rounds_succ]
      go_wp2
      rw [rounds_succ]
      go_wp2
      go_ret
      exact ⟨rfl, rfl⟩
  · rw [e]
    clear e
    go_enter Try.func96, Try.ntmps96
    go_wp2
    refine wp_loop_rounds 1 ?_
    rw [rounds_succ]
    go_wp2
    go_ret
    exact ⟨rfl, rfl⟩

set_option maxRecDepth 100000 in
set_option maxHeartbeats 1000000 in
theorem order_any (x y : Tm) (w : World) : Calls Try.prog 55 #[.agg #[.int .i64 x.id, .int .i64 x.due], .agg #[.int .i64 y.id, .int .i64 y.due]] w fun e w' => e = .returned (.int .i64 (ordT x y)) ∧ Below w.heap.size w w' := by
  have hO : ordT x y = orZ (cmpZ x.due y.due) (cmpZ x.id y.id) := rfl
  rw [hO]
  clear hO
  obtain ⟨id, due⟩ := x
  obtain ⟨id', due'⟩ := y
  dsimp only
  go_enter Try.func55, Try.ntmps55
  go_wp2_with fail
  have q0 : Below w.heap.size w (((w.alloc (.cells #[.int .i64 id, .int .i64 due] 40)).alloc (.cells #[.int .i64 id', .int .i64 due'] 40))) := ((Below.refl _ _).alloc (Nat.le_refl _) _).alloc (by simp) _
  have B0 : (((w.alloc (.cells #[.int .i64 id, .int .i64 due] 40)).alloc (.cells #[.int .i64 id', .int .i64 due'] 40))).heap[w.heap.size]? = some (.cells #[.int .i64 id, .int .i64 due] 40 (0, 0)) :=
    heap_below (World.alloc_heap_new w _) ((Below.refl _ _).alloc (Nat.le_refl _) _)
  have B1 := World.alloc_heap_new (w.alloc (.cells #[.int .i64 id, .int .i64 due] 40)) (.cells #[.int .i64 id', .int .i64 due'] 40)
  have hs : (w.alloc (.cells #[.int .i64 id, .int .i64 due] 40)).heap.size = w.heap.size + 1 := by simp
  rw [hs] at B1
  refine wp_region_L [0, 1, 2, 3, 5, 6, 7, 8] [(1, fun W => W.heap[w.heap.size]? = some (.cells #[.int .i64 id, .int .i64 due] 40 (0, 0))), (3, fun W => W.heap[w.heap.size + 1]? = some (.cells #[.int .i64 id', .int .i64 due'] 40 (0, 0))), (6, fun W => W.heap[w.heap.size]? = some (.cells #[.int .i64 id, .int .i64 due] 40 (0, 0))), (8, fun W => W.heap[w.heap.size + 1]? = some (.cells #[.int .i64 id', .int .i64 due'] 40 (0, 0)))] (by kernel_rfl) ?_
  generalize hW : (((w.alloc (.cells #[.int .i64 id, .int .i64 due] 40)).alloc (.cells #[.int .i64 id', .int .i64 due'] 40))).drew = W0
  replace B0 : Hid (W0.heap[w.heap.size]? = some (.cells #[.int .i64 id, .int .i64 due] 40 (0, 0))) := by rw [← hW]; exact B0
  replace B1 : Hid (W0.heap[w.heap.size + 1]? = some (.cells #[.int .i64 id', .int .i64 due'] 40 (0, 0))) := by rw [← hW]; exact B1
  replace q0 : Below w.heap.size w W0 := by rw [← hW]; exact q0.drew
  clear hW hs
  refine wpAnyL_pure (i := 0) (v := .pointer (some ⟨w.heap.size, 1, none⟩)) rfl rfl (by kernel_rfl) (by kernel_rfl) (by kernel_rfl) (by kernel_rfl) (by kernel_rfl) (fun _ _ _ h => h) rfl (fun W => by go_simp) ?_
  go_simp
  refine wpAnyL_load (i := 1) (v := .int .i64 due) rfl rfl (by kernel_rfl) (by kernel_rfl) (by kernel_rfl) (by kernel_rfl) (by kernel_rfl) (fun _ _ _ h => h) rfl (fun W h => by (have hc : W.cell? ⟨w.heap.size, 1, none⟩ = some (.int .i64 due) := by simp [World.cell?, h]); clear h; go_simp) (B0.out) ?_
  refine wpAnyL_pure (i := 2) (v := .pointer (some ⟨w.heap.size + 1, 1, none⟩)) rfl rfl (by kernel_rfl) (by kernel_rfl) (by kernel_rfl) (by kernel_rfl) (by kernel_rfl) (fun _ _ _ h => h) rfl (fun W => by go_simp) ?_
  go_simp
  refine wpAnyL_load (i := 3) (v := .int .i64 due') rfl rfl (by kernel_rfl) (by kernel_rfl) (by kernel_rfl) (by kernel_rfl) (by kernel_rfl) (fun _ _ _ h => h) rfl (fun W h => by (have hc : W.cell? ⟨w.heap.size + 1, 1, none⟩ = some (.int .i64 due') := by simp [World.cell?, h]); clear h; go_simp) (B1.out) ?_
  refine wpAnyL_pure (i := 5) (v := .pointer (some ⟨w.heap.size, 0, none⟩)) rfl rfl (by kernel_rfl) (by kernel_rfl) (by kernel_rfl) (by kernel_rfl) (by kernel_rfl) (fun _ _ _ h => h) rfl (fun W => by go_simp) ?_
  go_simp
  refine wpAnyL_load (i := 6) (v := .int .i64 id) rfl rfl (by kernel_rfl) (by kernel_rfl) (by kernel_rfl) (by kernel_rfl) (by kernel_rfl) (fun _ _ _ h => h) rfl (fun W h => by (have hc : W.cell? ⟨w.heap.size, 0, none⟩ = some (.int .i64 id) := by simp [World.cell?, h]); clear h; go_simp) (B0.out) ?_
  refine wpAnyL_pure (i := 7) (v := .pointer (some ⟨w.heap.size + 1, 0, none⟩)) rfl rfl (by kernel_rfl) (by kernel_rfl) (by kernel_rfl) (by kernel_rfl) (by kernel_rfl) (fun _ _ _ h => h) rfl (fun W => by go_simp) ?_
  go_simp
  refine wpAnyL_load (i := 8) (v := .int .i64 id') rfl rfl (by kernel_rfl) (by kernel_rfl) (by kernel_rfl) (by kernel_rfl) (by kernel_rfl) (fun _ _ _ h => h) rfl (fun W h => by (have hc : W.cell? ⟨w.heap.size + 1, 0, none⟩ = some (.int .i64 id') := by simp [World.cell?, h]); clear h; go_simp) (B1.out) ?_
  go_simp
  have K1 := hide (fun W => cmpInt_any due due' W)
  have K2 := hide (fun W => cmpInt_any id id' W)
  refine wpAnyL_one (i := 4) (by kernel_rfl) ?_
  refine wpOp_do rfl rfl ?_
  go_simp
  (with_reducible refine (K1.out _).mono ?_)
  rintro e w1 ⟨rfl, rfl⟩
  go_simp
  refine ⟨keepsL_mk (by kernel_rfl) (.cons B0.out (.cons B1.out (.cons B0.out (.cons B1.out .nil)))), ?_⟩
  refine wpAnyL_one (i := 9) (by kernel_rfl) ?_
  refine wpOp_do rfl rfl ?_
  go_simp
  (with_reducible refine (K2.out _).mono ?_)
  rintro e w1 ⟨rfl, rfl⟩
  go_simp
  refine ⟨keepsL_all (by kernel_rfl) (by kernel_rfl), ?_⟩
  refine wpAnyL_one (i := 10) (by kernel_rfl) ?_
  refine wpOp_do rfl rfl ?_
  go_simp
  refine ⟨keepsL_all (by kernel_rfl) (by kernel_rfl), ?_⟩
  go_simp
  have q1 := q0.alloc q0.size (.cells #[.int .i64 (cmpZ due due'), .int .i64 (cmpZ id id')] 3)
  have c0 : (W0.alloc (.cells #[.int .i64 (cmpZ due due'), .int .i64 (cmpZ id id')] 3)).cell? ⟨W0.heap.size, 0, none⟩ = some (.int .i64 (cmpZ due due')) := by simp [go_sem]
  have c1 : (W0.alloc (.cells #[.int .i64 (cmpZ due due'), .int .i64 (cmpZ id id')] 3)).cell? ⟨W0.heap.size, 1, none⟩ = some (.int .i64 (cmpZ id id')) := by simp [go_sem]
  have K3 := hide (cmpOr_any (cmpZ due due') (cmpZ id id') _ _ c0 c1)
  refine wpAnyL_one (i := 11) (by kernel_rfl) ?_
  refine wpOp_do rfl rfl ?_
  go_simp
  (with_reducible refine K3.out.mono ?_)
  rintro e w1 ⟨rfl, rfl⟩
  go_simp
  refine ⟨keepsL_all (by kernel_rfl) (by kernel_rfl), ?_⟩
  refine wpAnyL_one (i := 12) (by kernel_rfl) ?_
  refine wpOp_do rfl rfl ?_
  go_simp
  refine ⟨keepsL_all (by kernel_rfl) (by kernel_rfl), ?_⟩
  refine wpAnyL_done (by kernel_rfl) ?_ _
  go_wp2
  go_ret
  exact ⟨rfl, q1⟩
end Go.Proofs.Ytnfpbbgajabjkaa
