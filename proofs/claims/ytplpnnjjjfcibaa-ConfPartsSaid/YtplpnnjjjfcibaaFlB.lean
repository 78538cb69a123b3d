/- Walks of filter.Passes, Step. -/
import Derived.Test.YtplpnnjjjfcibaaFlA
namespace Go.Proofs.Ytplpnnjjjfcibaa
open Go.ChangeShapes Go.WideShapes Go.ChangeAt Go.RowKit
open CM

/-- 'a[i]' of a row of functions by value. -/
theorem run_index_kinds (W : World) (cs : Array Value) (k : Nat) (v : Value) (hk : k < 9) (h : cs[k]? = some v) : (Instr.index 183 (.agg cs) (.int .i64 k)).run Try.prog W = .ok v W := by
  have hi : (0 : Int) ≤ k ∧ (k : Int) < (9 : Nat) := by omega
  have e := Try.underlying183
  simp [Instr.index, run_underlying e, asIntOf, hi, go_sem, h]
  intro h9
  omega

set_option maxRecDepth 100000 in
set_option maxHeartbeats 4000000 in
theorem passes_ok (f : Flt) (v : Int) (w : World) (hr : fltB f = true) :
    Calls Try.prog 122 #[.agg #[.int .i64 f.kind, .int .i64 f.mask, .int .i64 f.x, .int .i64 f.mn, .int .i64 f.mx, .int .i64 f.every, .int .i64 f.frm, .int .i64 f.old, .int .i64 f.count], .int .i64 v] w fun e w' => e = .returned (.tuple #[.bool (fltP f v), .int .i64 0]) ∧ Below w.heap.size w w' := by
  have RT := hide (fun W => fltRight_any f W)
  rw [hr] at RT
  have KA := hide (fun b1 b2 b3 (W : World) h1 h2 h3 c1 c2 c3 => kindsV_at f v hr b1 b2 b3 W h1 h2 h3 c1 c2 c3)
  obtain ⟨k, hk⟩ : ∃ k : Nat, f.kind = k := ⟨f.kind.toNat, by have := fltB_iff.1 hr; omega⟩
  have hk9 : k < 9 := by have := fltB_iff.1 hr; omega
  have hkt : f.kind.toNat = k := by omega
  rw [hkt] at KA
  clear hr hkt
  generalize fltP f v = r at *
  obtain ⟨kind, mask, x, mn, mx, every, frm, old, count⟩ := f
  dsimp only at *
  subst hk
  have q0 : Below w.heap.size w (w.alloc (.cells #[.int .i64 k, .int .i64 mask, .int .i64 x, .int .i64 mn, .int .i64 mx, .int .i64 every, .int .i64 frm, .int .i64 old, .int .i64 count] 142)) := (Below.refl _ _).alloc (Nat.le_refl _) _
  have B0 := hide (World.alloc_heap_new w (.cells #[.int .i64 k, .int .i64 mask, .int .i64 x, .int .i64 mn, .int .i64 mx, .int .i64 every, .int .i64 frm, .int .i64 old, .int .i64 count] 142))
  have Q0 := hide q0
  clear q0
  generalize hw0 : w.alloc (.cells #[.int .i64 k, .int .i64 mask, .int .i64 x, .int .i64 mn, .int .i64 mx, .int .i64 every, .int .i64 frm, .int .i64 old, .int .i64 count] 142) = w0 at *
  obtain ⟨c0, c1, c2, c3, c4, c5, c6, c7, c8⟩ := fl_cells (f := ⟨k, mask, x, mn, mx, every, frm, old, count⟩) B0.out
  dsimp only at c0 c1 c2 c3 c4 c5 c6 c7 c8
  go_enter Try.func122, Try.ntmps122
  go_wp2_with fail
  (with_reducible refine (RT.out _).mono ?_)
  rintro e1 w1 ⟨rfl, q1⟩
  have Q1 := hide (below_next Q0.out Q0.out.size q1)
  have B1 := hide (heap_below B0.out q1)
  clear q1 c0 c1 c2 c3 c4 c5 c6 c7 c8 hw0 B0 Q0 RT
  go_wp2_with fail
  refine wp_region_L [1, 2, 4, 5] [(2, fun W => W.heap[w.heap.size]? = some (.cells #[.int .i64 k, .int .i64 mask, .int .i64 x, .int .i64 mn, .int .i64 mx, .int .i64 every, .int .i64 frm, .int .i64 old, .int .i64 count] 142 (0, 0))), (4, fun W => W.heap[w.heap.size]? = some (.cells #[.int .i64 k, .int .i64 mask, .int .i64 x, .int .i64 mn, .int .i64 mx, .int .i64 every, .int .i64 frm, .int .i64 old, .int .i64 count] 142 (0, 0)))] (by kernel_rfl) ?_
  replace B1 : Hid (w1.drew.heap[w.heap.size]? = _) := B1
  replace Q1 : Hid (Below w.heap.size w w1.drew) := hide Q1.out.drew
  generalize w1.drew = wx at *
  refine wpAnyL_pure (i := 1) (v := .pointer (some ⟨w.heap.size, 0, none⟩)) rfl rfl (by kernel_rfl) (by kernel_rfl) (by kernel_rfl) (by kernel_rfl) (by kernel_rfl) (fun _ _ _ h => h) rfl (fun W => by go_simp) ?_
  go_simp
  refine wpAnyL_load (i := 2) (v := .int .i64 k) rfl rfl (by kernel_rfl) (by kernel_rfl) (by kernel_rfl) (by kernel_rfl) (by kernel_rfl) (fun _ _ _ h => h) rfl (fun W h => by (obtain ⟨c0, _⟩ := fl_cells (f := ⟨k, mask, x, mn, mx, every, frm, old, count⟩) h; clear h; dsimp only at c0; go_simp)) (B1.out) ?_
  go_simp
  refine wpAnyL_load (i := 4) (v := .agg #[.int .i64 k, .int .i64 mask, .int .i64 x, .int .i64 mn, .int .i64 mx, .int .i64 every, .int .i64 frm, .int .i64 old, .int .i64 count]) rfl rfl (by kernel_rfl) (by kernel_rfl) (by kernel_rfl) (by kernel_rfl) (by kernel_rfl) (fun _ _ _ h => h) rfl (fun W h => by (obtain ⟨c0, c1, c2, c3, c4, c5, c6, c7, c8⟩ := fl_cells (f := ⟨k, mask, x, mn, mx, every, frm, old, count⟩) h; clear h; dsimp only at c0 c1 c2 c3 c4 c5 c6 c7 c8; go_simp)) (B1.out) ?_
  go_simp
  refine wpAnyL_pure (i := 5) (v := .int .i64 v) rfl rfl (by kernel_rfl) (by kernel_rfl) (by kernel_rfl) (by kernel_rfl) (by kernel_rfl) (fun _ _ _ h => h) rfl (fun W => by go_simp) ?_
  go_simp
  refine wpAnyL_one (i := 0) (by kernel_rfl) ?_
  refine wpOp_do rfl rfl ?_
  go_simp
  (with_reducible refine (kinds_any _).mono ?_)
  rintro e2 w2 ⟨b1, b2, b3, rfl, h1, h2, h3, d1, d2, d3, q2⟩
  have B2 := hide (heap_below B1.out q2)
  have Q2 := hide (below_next Q1.out Q1.out.size q2)
  obtain ⟨fid, lb, hat, hcf, hcall⟩ := KA.out b1 b2 b3 w2 h1 h2 h3 d1 d2 d3
  have CALL := hide hcall
  have HAT := hide hat
  clear q2 hcall hat KA h1 h2 h3 d1 d2 d3
  generalize hkv : kindsV b1 b2 b3 = kv at *
  have hkz : kv.size = 9 := by rw [← hkv]; rfl
  clear hkv
  go_simp
  refine ⟨keepsL_mk (by kernel_rfl) (.cons B2.out (.cons B2.out .nil)), ?_⟩
  go_simp
  have IX := fun W => run_index_kinds W kv k _ hk9 HAT.out
  refine wpAnyL_one (i := 3) (by kernel_rfl) ?_
  refine wpOp_do rfl rfl ?_
  go_simp
  refine ⟨keepsL_mk (by kernel_rfl) (.past (by kernel_rfl) (.cons B2.out .nil)), ?_⟩
  clear IX HAT
  go_simp
  have C := hide (CALL.out _ (Below.refl _ _))
  clear CALL
  refine wpAnyL_one (i := 6) (by kernel_rfl) ?_
  refine wpOp_do rfl rfl ?_
  go_simp
  (with_reducible refine (C.out).mono ?_)
  rintro e3 w3 ⟨rfl, q3⟩
  have B3 := hide (heap_below B2.out q3)
  have Q3 := hide (below_next Q2.out Q2.out.size q3)
  go_simp
  refine ⟨keepsL_mk (by kernel_rfl) (.past (by kernel_rfl) (.past (by kernel_rfl) .nil)), ?_⟩
  clear q3 C B2 Q2
  go_simp
  refine wpAnyL_one (i := 7) (by kernel_rfl) ?_
  refine wpOp_do rfl rfl ?_
  go_simp
  refine ⟨keepsL_all (by kernel_rfl) (by kernel_rfl), ?_⟩
  go_simp
  refine wpAnyL_one (i := 8) (by kernel_rfl) ?_
  refine wpOp_do rfl rfl ?_
  go_simp
  refine ⟨keepsL_all (by kernel_rfl) (by kernel_rfl), ?_⟩
  refine wpAnyL_done (by kernel_rfl) ?_ _
  go_wp2_with fail
  refine bodyPost_ret (v := .tuple #[.bool r, .int .i64 0]) (by simp [results, Try.results122, go_sem]) rfl ⟨rfl, Q3.out⟩

set_option maxRecDepth 100000 in
theorem passes_bad (f : Flt) (v : Int) (w : World) (hr : fltB f = false) :
    Calls Try.prog 122 #[.agg #[.int .i64 f.kind, .int .i64 f.mask, .int .i64 f.x, .int .i64 f.mn, .int .i64 f.mx, .int .i64 f.every, .int .i64 f.frm, .int .i64 f.old, .int .i64 f.count], .int .i64 v] w fun e w' => e = .returned (.tuple #[.bool false, .int .i64 1]) ∧ Below w.heap.size w w' := by
  have RT := hide (fun W => fltRight_any f W)
  rw [hr] at RT
  clear hr
  obtain ⟨kind, mask, x, mn, mx, every, frm, old, count⟩ := f
  dsimp only at *
  have q0 : Below w.heap.size w (w.alloc (.cells #[.int .i64 kind, .int .i64 mask, .int .i64 x, .int .i64 mn, .int .i64 mx, .int .i64 every, .int .i64 frm, .int .i64 old, .int .i64 count] 142)) := (Below.refl _ _).alloc (Nat.le_refl _) _
  go_enter Try.func122, Try.ntmps122
  go_wp2_with fail
  (with_reducible refine (RT.out _).mono ?_)
  rintro e1 w1 ⟨rfl, q1⟩
  have Q := hide (below_next q0 q0.size q1)
  clear q0 q1 RT
  go_wp2_with fail
  refine bodyPost_ret (v := .tuple #[.bool false, .int .i64 1]) (by simp [results, Try.results122, go_sem]) rfl ⟨rfl, Q.out⟩
end Go.Proofs.Ytplpnnjjjfcibaa
