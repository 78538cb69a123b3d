/- The queue's Push and Pop. -/
import Derived.Test.YtbdgifngldipcaaBxC
namespace Go.Proofs.Ytbdgifngldipcaa
open Go.ChangeShapes Go.WideShapes Go.ChangeAt Go.RowKit
open FP (Fr)

theorem slQueue : SlT Try.prog 97 70 7 48 := SlT.mk Try.underlying97 (z := .agg #[.int .i64 0, .int .u32 0, .bool false, .bool false, .int .i64 0, .string ⟨#[]⟩, .int .i64 0]) (by kernel_rfl) rfl (by decide)

/-- What Push's load asks. -/
def puR (bq : Nat) (v : Value) : Nat → World → Prop
  | 3, W => W.cell? ⟨bq, 0, none⟩ = some v
  | _, _ => True
theorem puR_other {bq : Nat} {v : Value} {j : Nat} {W : World} (h : j ≠ 3) : puR bq v j W := by
  unfold puR
  split <;> simp_all
theorem puKeeps {ops : Array Oper} {bq : Nat} {v : Value} {j : Nat} {w w' : World} (hj : j ∉ [0, 1, 2, 3, 4, 5, 8]) (h3 : mayAhead .any ops 3 j = false ∨ w'.cell? ⟨bq, 0, none⟩ = some v) :
    keeps .any ops [0, 1, 2, 3, 4, 5, 8] (puR bq v) j w w' := ⟨fun h => absurd h hj, fun _ m _ hm => by
  by_cases a : m = 3
  · subst a
    rcases h3 with h3 | h3
    · rw [h3] at hm; cases hm
    · exact h3
  · exact puR_other a⟩
theorem rd_heaps {W : World} {x : Nat} {b : Bx} {t : TypeId} {fz : Nat × Nat} (h : W.heap[x]? = some (.cells #[.int .i64 b.h, .int .u32 b.f.id, .bool b.f.ext, .bool b.f.rem, .int .i64 b.f.dlc, .string b.f.data, .int .i64 b.s] t fz)) : Rd W W.heap.size (some ⟨x, 0, none⟩) 7 [bxc b] := fun _ =>
  ⟨x, 0, rfl, heap_lt h, fun k row j u a c => by
    have hk : k = 0 := by have := (List.getElem?_eq_some_iff.1 a).1; simp at this; omega
    subst hk
    simp only [List.getElem?_cons_zero, Option.some.injEq] at a
    subst a
    have h2 : W.cell? ⟨x, 0 + 0 * 7 + j, none⟩ = (bxc b).toArray[0 + 0 * 7 + j]? := by simp [World.cell?, h, bxc]
    rw [h2]
    simpa using c⟩
theorem assert_box (b : Bx) (W : World) : (Instr.typeAssert (.iface 70 (.agg #[.int .i64 b.h, .int .u32 b.f.id, .bool b.f.ext, .bool b.f.rem, .int .i64 b.f.dlc, .string b.f.data, .int .i64 b.s])) 20 70 false).run Try.prog W = .ok (.agg #[.int .i64 b.h, .int .u32 b.f.id, .bool b.f.ext, .bool b.f.rem, .int .i64 b.f.dlc, .string b.f.data, .int .i64 b.s]) W := by kernel_rfl

set_option maxRecDepth 100000 in
set_option maxHeartbeats 2000000 in
theorem qPush_any (B : Nat) (w : World) (bq : Nat) (A : Option Addr) (c : Nat) (l : List Bx) (x : Bx) (W : World) (h : HQ B w bq A c l W) (hl : l.length ≤ 1000) :
    Calls Try.prog 124 #[.pointer (some ⟨bq, 0, none⟩), .iface 70 (.agg #[.int .i64 x.h, .int .u32 x.f.id, .bool x.f.ext, .bool x.f.rem, .int .i64 x.f.dlc, .string x.f.data, .int .i64 x.s])] W fun e W' => e = .returned (.tuple #[]) ∧ ∃ A' c', HQ B w bq A' c' (l ++ [x]) W' := by
  have H := hide h
  have hcell := h.cell
  have E1 := hide (show ((l.map bxc).length + [bxc x].length) * 48 ≤ 140737488355328 by simp; omega)
  have E2 := hide (show (l.map bxc).length + [bxc x].length ≤ maxLen by simp [maxLen]; omega)
  have E3 := hide (show l.length = (l.map bxc).length by simp)
  have HC := hide hcell
  clear h hcell
  go_enter Try.func124, Try.ntmps124
  refine wp_region_S [0, 1, 2, 3, 4, 5, 8] (puR bq (.slice A l.length c)) (by kernel_rfl) ?_
  refine wpAnyS_take (i := 0) (v := .pointer (some ⟨bq, 0, none⟩)) rfl (by simp) (by kernel_rfl) (by kernel_rfl) (by kernel_rfl) (fun _ _ _ h => h) rfl (fun _ _ => rfl) (puR_other (by decide)) ?_
  refine wpAnyS_take (i := 1) (v := .pointer (some ⟨bq, 0, none⟩)) rfl (by simp) (by kernel_rfl) (by kernel_rfl) (by kernel_rfl) (fun _ _ _ h => h) rfl (fun _ _ => rfl) (puR_other (by decide)) ?_
  refine wpAnyS_take (i := 2) (v := .pointer (some ⟨bq, 0, none⟩)) rfl (by simp) (by kernel_rfl) (by kernel_rfl) (by kernel_rfl) (fun _ _ _ h => h) rfl (fun W _ => by go_simp) (puR_other (by decide)) ?_
  go_simp
  refine wpAnyS_take (i := 3) (v := .slice A l.length c) rfl (by simp) (by kernel_rfl) (by kernel_rfl) (by kernel_rfl) (fun _ _ _ h => h) rfl (fun W (h : W.cell? ⟨bq, 0, none⟩ = some (.slice A l.length c)) => by go_simp) (HC.out) ?_
  refine wpAnyS_take (i := 4) (v := .iface 70 (.agg #[.int .i64 x.h, .int .u32 x.f.id, .bool x.f.ext, .bool x.f.rem, .int .i64 x.f.dlc, .string x.f.data, .int .i64 x.s])) rfl (by simp) (by kernel_rfl) (by kernel_rfl) (by kernel_rfl) (fun _ _ _ h => h) rfl (fun _ _ => rfl) (puR_other (by decide)) ?_
  refine wpAnyS_take (i := 5) (v := .agg #[.int .i64 x.h, .int .u32 x.f.id, .bool x.f.ext, .bool x.f.rem, .int .i64 x.f.dlc, .string x.f.data, .int .i64 x.s]) rfl (by simp) (by kernel_rfl) (by kernel_rfl) (by kernel_rfl) (fun _ _ _ h => h) rfl (fun W _ => by have := assert_box x W; go_simp) (puR_other (by decide)) ?_
  go_simp
  have hq0 := H.out.below ((Below.refl _ W).drew)
  generalize W.drew = W0 at *
  refine wpAnyS_one (i := 6) (by kernel_rfl) ?_
  refine wpOp_at rfl ?_
  go_simp
  have hq1 := hq0.below ((Below.refl _ W0).alloc (Nat.le_refl _) (.cells #[.int .i64 x.h, .int .u32 x.f.id, .bool x.f.ext, .bool x.f.rem, .int .i64 x.f.dlc, .string x.f.data, .int .i64 x.s] 70))
  have r6 := World.alloc_heap_new W0 (.cells #[.int .i64 x.h, .int .u32 x.f.id, .bool x.f.ext, .bool x.f.rem, .int .i64 x.f.dlc, .string x.f.data, .int .i64 x.s] 70)
  generalize W0.heap.size = x6 at *
  generalize W0.alloc (.cells #[.int .i64 x.h, .int .u32 x.f.id, .bool x.f.ext, .bool x.f.rem, .int .i64 x.f.dlc, .string x.f.data, .int .i64 x.s] 70) = W1 at *
  refine ⟨puKeeps (by decide) (.inr hq1.cell), ?_⟩
  go_simp
  refine wpAnyS_one (i := 7) (by kernel_rfl) ?_
  refine wpOp_at rfl ?_
  refine step_append_rows _ rfl _ _ 97 rfl slQueue B _ _ _ (l.map bxc) rfl hq1.own _ _ _ [bxc x] rfl (rd_heaps r6) (by simp [bxc]) (by simp [bxc, Value.oneCell']) E1.out E2.out hq1.size E3.out rfl ?_
  intro A2 c2 W2 own2 g2
  have box2 := heap_grown hq1.box (by decide) hq1.own g2
  have q2 := below_append hq1.q g2 hq1.own (Nat.le_refl _) hq1.size
  refine ⟨puKeeps (by decide) (.inl (by kernel_rfl)), ?_⟩
  go_simp
  refine wpAnyS_take (i := 8) (v := .pointer (some ⟨bq, 0, none⟩)) rfl (by simp) (by kernel_rfl) (by kernel_rfl) (by kernel_rfl) (fun _ _ _ h => h) rfl (fun W _ => by go_simp) (puR_other (by decide)) ?_
  go_simp
  refine wpAnyS_one (i := 9) (by kernel_rfl) ?_
  refine wpOp_at rfl ?_
  have c2' : W2.cell? ⟨bq, 0, none⟩ = some (.slice A l.length c) := Boxed.cell (t := 97) box2
  have z2 : W2.frozen? ⟨bq, 0, none⟩ = false := Boxed.frozen (t := 97) box2
  go_simp
  have HN : HQ B w bq A2 c2 (l ++ [x]) (W2.setCell ⟨bq, 0, none⟩ (.slice A2 (l.length + 1) c2)) :=
    ⟨by rw [List.length_append]; exact Boxed.set (t := 97) _ box2, by rw [List.map_append]; exact own_setT own2 box2 (by decide) _, q2.setCell (p := ⟨bq, 0, none⟩) hq0.hB _, hq0.hB⟩
  refine ⟨puKeeps (by decide) (.inl (by kernel_rfl)), ?_⟩
  refine wpAnyS_done (by kernel_rfl) ?_ _
  go_end0
  exact ⟨rfl, A2, c2, HN⟩
end Go.Proofs.Ytbdgifngldipcaa
