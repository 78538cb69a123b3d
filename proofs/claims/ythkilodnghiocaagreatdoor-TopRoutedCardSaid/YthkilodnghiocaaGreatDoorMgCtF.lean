/- ctl.Sample of a recessive bit, of a controller that joins or is idle. -/
import Derived.Test.YthkilodnghiocaaGreatDoorMgCtC
import Derived.Test.YthkilodnghiocaaGreatDoorMgOff
namespace Go.Proofs.YthkilodnghiocaaGreatDoor
open Go.ChangeShapes Go.WideShapes Go.ChangeAt Go.RowKit
open FP (Fr)

/-- What a recessive bit makes of it. -/
def Cl.one (c : Cl) : Cl := if c.st = 0 then c.join1 else c
theorem Cl.Q.one {c : Cl} (h : c.Q) : c.one.Q := by
  unfold Cl.one
  by_cases e : c.st = 0
  · rw [if_pos e]
    rcases h.st with ⟨_, h1, h2⟩ | ⟨h3, _⟩
    · have hoff := h.offs
      rw [e] at hoff
      unfold Cl.join1
      by_cases e2 : c.n = 10
      · rw [if_pos e2]
        exact ⟨h.cnt, hoff, h.has, h.hasn, ⟨rfl, rfl, rfl, rfl, rfl, rfl, rfl, rfl, rfl⟩, .inr ⟨rfl, rfl⟩⟩
      · rw [if_neg e2]
        exact ⟨h.cnt, h.offs, h.has, h.hasn, h.out, .inl ⟨e, by show 0 ≤ c.n + 1; omega, by show c.n + 1 ≤ 10; omega⟩⟩
    · omega
  · rw [if_neg e]; exact h
theorem run_index_steps (W : World) (k : Nat) (v : Value) (hk : k < 9) (h : stepsV[k]? = some v) : (Instr.index 116 (.agg stepsV) (.int .i64 k)).run Tryz.prog W = .ok v W := by
  have hi : (0 : Int) ≤ k ∧ (k : Int) < (9 : Nat) := by omega
  have e := Tryz.underlying116
  simp [Instr.index, run_underlying e, asIntOf, hi, go_sem, h]
  intro h9
  omega
theorem mc_ctl {W : World} {b : Nat} {c : Cl} {ev : List Value} {t : TypeId} {fz : Nat × Nat} (h : W.heap[b]? = some (.cells (mcL c ev).toArray t fz)) : W.rangeAt b 0 c.cs := fun j v hj => by
  refine range_heap h j v ?_
  unfold mcL
  rw [List.getElem?_append_left (List.getElem?_eq_some_iff.1 hj).1]
  exact hj
theorem mc_ev {W : World} {b : Nat} {c : Cl} {ev : List Value} {t : TypeId} {fz : Nat × Nat} (h : W.heap[b]? = some (.cells (mcL c ev).toArray t fz)) : W.rangeAt b 23 ev := fun j v hj => by
  have hr := range_heap h (23 + j) v
  rw [Nat.zero_add] at hr
  refine hr ?_
  unfold mcL
  rw [List.getElem?_append_right (by show 23 ≤ 23 + j; omega)]
  rw [show 23 + j - c.cs.length = j by show 23 + j - 23 = j; omega]
  exact hj

set_option maxRecDepth 100000 in
set_option maxHeartbeats 16000000 in
theorem ctlSample_one (c : Cl) (w : World) (hq : c.Q) : Calls Tryz.prog 37 #[.agg c.cs.toArray, .int .u8 49] w fun e w' => e = .returned (.tuple #[.agg c.one.cs.toArray, .agg (evL 0 zFr 0).toArray, .int .i64 0]) ∧ Below w.heap.size w w' := by
  obtain ⟨w0, hw0⟩ : ∃ w0, w0 = ((w.alloc (.cells c.cs.toArray 73)).alloc (.cells zCl.cs.toArray 73)).alloc (.cells (evL 0 zFr 0).toArray 50) := ⟨_, rfl⟩
  have step : ∀ (W : World) (o : Obj), Below W.heap.size W (W.alloc o) := fun W o => (Below.refl _ _).alloc (Nat.le_refl _) _
  have B0 := hide (heap_below (heap_below (World.alloc_heap_new w (.cells c.cs.toArray 73)) (step _ (.cells zCl.cs.toArray 73))) (step _ (.cells (evL 0 zFr 0).toArray 50)))
  have X0 := hide (heap_below (World.alloc_heap_new (w.alloc (.cells c.cs.toArray 73)) (.cells zCl.cs.toArray 73)) (step _ (.cells (evL 0 zFr 0).toArray 50)))
  have Y0 := hide (World.alloc_heap_new ((w.alloc (.cells c.cs.toArray 73)).alloc (.cells zCl.cs.toArray 73)) (.cells (evL 0 zFr 0).toArray 50))
  have Q0 : Hid (Below w.heap.size w w0) := by rw [hw0]; exact hide (((step _ _).alloc (by simp) _).alloc (by simp; omega) _)
  rw [← hw0] at B0 X0 Y0
  simp only [World.size_alloc] at X0 Y0
  have RT := hide (ctlRight_q c w0 hq)
  have HS := hide hq.st
  clear step hq
  go_enter Tryz.func37, Tryz.ntmps37
  go_upto_region 1 with fail
  change Code.wp _ _ _ _ (((w.alloc (.cells c.cs.toArray 73)).alloc (.cells zCl.cs.toArray 73)).alloc (.cells (evL 0 zFr 0).toArray 50))
  rw [← hw0]
  clear hw0
  go_wp2_with (refine wpList_load_row rfl 73 (.tmp 2) (by rfl) w.heap.size (by rfl) 73 c.cs.toArray (0, 0) _ (by exact B0.out) Tryz.underlying73 (by rfl) (by kernel_rfl) ?_)
  (with_reducible refine (RT.out).mono ?_)
  rintro e1 w1 ⟨rfl, q1⟩
  have B1 := hide (heap_below B0.out q1)
  have X1 := hide (heap_below X0.out q1)
  have Y1 := hide (heap_below Y0.out q1)
  have Q1 := hide (below_next Q0.out Q0.out.size q1)
  have z1 : w.heap.size + 1 + 1 < w1.heap.size := heap_lt Y1.out
  clear q1 B0 X0 Y0 Q0 RT
  have B1' := hide (show w1.heap[w.heap.size]? = some (.cells #[.int .i64 c.tc, .int .i64 c.rc, .bool c.off, .int .i64 c.rs, .int .i64 c.st, .int .i64 c.n, .bool c.was, .bool c.hard, .bool c.has, .int .u32 c.f.id, .bool c.f.ext, .bool c.f.rem, .int .i64 c.f.dlc, .string c.f.data, .bool c.sends, .string c.out, .int .i64 c.at_, .int .u8 c.last, .int .i64 c.sn, .string c.got, .bool c.en, .int .i64 c.tail, .bool c.good] 73 (0, 0)) from B1.out)
  go_upto_region 4 with (refine wpList_load_row rfl 73 (.tmp 2) (by rfl) w.heap.size (by rfl) 73 #[.int .i64 c.tc, .int .i64 c.rc, .bool c.off, .int .i64 c.rs, .int .i64 c.st, .int .i64 c.n, .bool c.was, .bool c.hard, .bool c.has, .int .u32 c.f.id, .bool c.f.ext, .bool c.f.rem, .int .i64 c.f.dlc, .string c.f.data, .bool c.sends, .string c.out, .int .i64 c.at_, .int .u8 c.last, .int .i64 c.sn, .string c.got, .bool c.en, .int .i64 c.tail, .bool c.good] (0, 0) _ (by exact B1'.out) Tryz.underlying73 (by rfl) (by kernel_rfl) ?_)
  clear B1'
  change Code.wp _ _ _ _ (w1.alloc (.cells (mcL c (evL 0 zFr 0)).toArray 114))
  have q2 : Below w1.heap.size w1 (w1.alloc (.cells (mcL c (evL 0 zFr 0)).toArray 114)) := (Below.refl _ _).alloc (Nat.le_refl _) _
  have M2 := hide (World.alloc_heap_new w1 (.cells (mcL c (evL 0 zFr 0)).toArray 114))
  have B2 := hide (heap_below B1.out q2)
  have X2 := hide (heap_below X1.out q2)
  have Y2 := hide (heap_below Y1.out q2)
  have Q2 := hide (below_next Q1.out Q1.out.size q2)
  clear q2 B1 X1 Y1 Q1
  generalize w1.alloc (.cells (mcL c (evL 0 zFr 0)).toArray 114) = wa at *
  generalize w1.heap.size = mb at *
  rcases HS.out with ⟨hs, hn1, hn2⟩ | ⟨hs, hn⟩
  · have EO := hide (show c.one = c.join1 by unfold Cl.one; rw [if_pos hs])
    obtain ⟨_, ⟨c4, _⟩, _⟩ := cl_cells B2.out
    rw [hs] at c4
    have C4 := hide c4
    clear c4 HS
    have hix := fun W => show (Instr.index 116 (.agg stepsV) (.int .i64 0)).run Tryz.prog W = .ok (.func (.func 78) #[] #[]) W from run_index_steps W 0 _ (by decide) (by rfl)
    refine wp_region_L [1, 2, 4, 5] [(2, fun W => W.cell? ⟨w.heap.size, 4, none⟩ = some (.int .i64 0))] (by kernel_rfl) ?_
    replace M2 := hide (show wa.drew.heap[mb]? = _ from M2.out)
    replace B2 := hide (show wa.drew.heap[w.heap.size]? = _ from B2.out)
    replace X2 := hide (show wa.drew.heap[w.heap.size + 1]? = _ from X2.out)
    replace Y2 := hide (show wa.drew.heap[w.heap.size + 1 + 1]? = _ from Y2.out)
    replace C4 := hide (show wa.drew.cell? _ = _ from C4.out)
    replace Q2 := hide (show Below w.heap.size w wa.drew from Q2.out.drew)
    generalize wa.drew = wb at *
    refine wpAnyL_pure (i := 1) (v := .pointer (some ⟨w.heap.size, 4, none⟩)) rfl rfl (by kernel_rfl) (by kernel_rfl) (by kernel_rfl) (by kernel_rfl) (by kernel_rfl) (fun _ _ _ h => h) rfl (fun W => by go_simp) ?_
    go_simp
    refine wpAnyL_load (i := 2) (v := .int .i64 0) rfl rfl (by kernel_rfl) (by kernel_rfl) (by kernel_rfl) (by kernel_rfl) (by kernel_rfl) (fun _ _ _ h => h) rfl (fun W h => by (have hc0 := h; clear h; go_simp)) (C4.out) ?_
    go_simp
    refine wpAnyL_pure (i := 4) (v := .pointer (some ⟨mb, 0, none⟩)) rfl rfl (by kernel_rfl) (by kernel_rfl) (by kernel_rfl) (by kernel_rfl) (by kernel_rfl) (fun _ _ _ h => h) rfl (fun W => by go_simp) ?_
    go_simp
    refine wpAnyL_pure (i := 5) (v := .int .u8 49) rfl rfl (by kernel_rfl) (by kernel_rfl) (by kernel_rfl) (by kernel_rfl) (by kernel_rfl) (fun _ _ _ h => h) rfl (fun W => by go_simp) ?_
    go_simp
    have ST := hide (ctlSteps_any wb)
    refine wpAnyL_one (i := 0) (by kernel_rfl) ?_
    refine wpOp_do rfl rfl ?_
    go_simp
    (with_reducible refine (ST.out).mono ?_)
    rintro e2 w2 ⟨rfl, q2⟩
    have C5 := hide (cellBelow q2 (heap_lt B2.out) C4.out)
    replace M2 := hide (heap_below M2.out q2)
    replace B2 := hide (heap_below B2.out q2)
    replace X2 := hide (heap_below X2.out q2)
    replace Y2 := hide (heap_below Y2.out q2)
    replace Q2 := hide (below_next Q2.out Q2.out.size q2)
    clear q2 ST C4
    go_simp
    refine ⟨keepsL_mk (by kernel_rfl) (.cons C5.out .nil), ?_⟩
    go_simp
    refine wpAnyL_one (i := 3) (by kernel_rfl) ?_
    refine wpOp_do rfl rfl ?_
    go_simp
    refine ⟨keepsL_all (by kernel_rfl) (by kernel_rfl), ?_⟩
    go_simp
    have MC := hide (mcJoin_one c (evL 0 zFr 0) mb 114 w2 M2 hn1 hn2)
    refine wpAnyL_one (i := 6) (by kernel_rfl) ?_
    refine wpOp_do rfl rfl ?_
    go_simp
    (with_reducible refine (MC.out).mono ?_)
    rintro e3 w3 ⟨⟨v, rfl⟩, hM, q3⟩
    have M3 := hide hM
    have B3 := hide (heapB B2.out q3 (by omega))
    have X3 := hide (heapB X2.out q3 (by omega))
    have Y3 := hide (heapB Y2.out q3 (by omega))
    have Q3 := hide (Q2.out.trans (q3.mono (by omega)))
    clear hM q3 M2 B2 X2 Y2 Q2 hix MC
    generalize c.join1 = d at *
    have HD := EO
    clear EO C5
    go_simp
    refine ⟨keepsL_all (by kernel_rfl) (by kernel_rfl), ?_⟩
    go_simp
    refine wpAnyL_done (by kernel_rfl) ?_ _
    go_wp2_with fail
    refine wp_region_L [0, 1, 2, 3, 4, 5, 6, 7] [(3, fun W => W.heap[mb]? = some (.cells (mcL d (evL 0 zFr 0)).toArray 114 (0, 0))), (7, fun W => W.heap[mb]? = some (.cells (mcL d (evL 0 zFr 0)).toArray 114 (0, 0)))] (by kernel_rfl) ?_
    replace M3 := hide (show w3.drew.heap[mb]? = _ from M3.out)
    replace X3 := hide (show w3.drew.heap[w.heap.size + 1]? = _ from X3.out)
    replace Y3 := hide (show w3.drew.heap[w.heap.size + 1 + 1]? = _ from Y3.out)
    replace Q3 := hide (show Below w.heap.size w w3.drew from Q3.out.drew)
    clear B3
    generalize w3.drew = w4 at *
    refine wpAnyL_pure (i := 0) (v := .pointer (some ⟨mb, 0, none⟩)) rfl rfl (by kernel_rfl) (by kernel_rfl) (by kernel_rfl) (by kernel_rfl) (by kernel_rfl) (fun _ _ _ h => h) rfl (fun W => by go_simp) ?_
    go_simp
    refine wpAnyL_pure (i := 1) (v := .pointer (some ⟨mb, 0, none⟩)) rfl rfl (by kernel_rfl) (by kernel_rfl) (by kernel_rfl) (by kernel_rfl) (by kernel_rfl) (fun _ _ _ h => h) rfl (fun W => by go_simp) ?_
    go_simp
    refine wpAnyL_pure (i := 2) (v := .pointer (some ⟨mb, 0, none⟩)) rfl rfl (by kernel_rfl) (by kernel_rfl) (by kernel_rfl) (by kernel_rfl) (by kernel_rfl) (fun _ _ _ h => h) rfl (fun W => by go_simp) ?_
    go_simp
    refine wpAnyL_load (i := 3) (v := .agg d.cs.toArray) rfl rfl (by kernel_rfl) (by kernel_rfl) (by kernel_rfl) (by kernel_rfl) (by kernel_rfl) (fun _ _ _ h => h) rfl (fun W h => exec_load W mb 0 73 d.cs _ (mc_ctl h) Tryz.underlying73 rfl (by kernel_rfl) _ _ (.tmp 33) (by rfl) (by rfl)) (M3.out) ?_
    go_simp
    refine wpAnyL_pure (i := 4) (v := .pointer (some ⟨mb, 0, none⟩)) rfl rfl (by kernel_rfl) (by kernel_rfl) (by kernel_rfl) (by kernel_rfl) (by kernel_rfl) (fun _ _ _ h => h) rfl (fun W => by go_simp) ?_
    go_simp
    refine wpAnyL_pure (i := 5) (v := .pointer (some ⟨mb, 0, none⟩)) rfl rfl (by kernel_rfl) (by kernel_rfl) (by kernel_rfl) (by kernel_rfl) (by kernel_rfl) (fun _ _ _ h => h) rfl (fun W => by go_simp) ?_
    go_simp
    refine wpAnyL_pure (i := 6) (v := .pointer (some ⟨mb, 23, none⟩)) rfl rfl (by kernel_rfl) (by kernel_rfl) (by kernel_rfl) (by kernel_rfl) (by kernel_rfl) (fun _ _ _ h => h) rfl (fun W => by go_simp) ?_
    go_simp
    refine wpAnyL_load (i := 7) (v := .agg (evL 0 zFr 0).toArray) rfl rfl (by kernel_rfl) (by kernel_rfl) (by kernel_rfl) (by kernel_rfl) (by kernel_rfl) (fun _ _ _ h => h) rfl (fun W h => exec_load W mb 23 50 (evL 0 zFr 0) _ (mc_ev h) Tryz.underlying50 rfl (by kernel_rfl) _ _ (.tmp 37) (by rfl) (by rfl)) (M3.out) ?_
    go_simp
    have TX := hide (show w4.there (w.heap.size + 1) 0 23 from there_heap (cs := zCl.cs) X3.out)
    refine wpAnyL_one (i := 8) (by kernel_rfl) ?_
    refine wpOp_do rfl rfl ?_
    refine wp_store_as 73 (.tmp 4) (.tmp 34) rfl (w.heap.size + 1) 0 d.cs (by rfl) (by rfl) (by exact TX.out) (by kernel_rfl) (by simp [Value.oneCell', Cl.cs]) ?_
    intro w5 e5
    have X5 := hide (show w5.heap[w.heap.size + 1]? = some (.cells d.cs.toArray 73 (0, 0)) by rw [e5]; exact whole_heap d.cs (xs := zCl.cs) X3.out rfl)
    have M5 := hide (show w5.heap[mb]? = some (.cells (mcL d (evL 0 zFr 0)).toArray 114 (0, 0)) by rw [e5]; exact other_heap (by omega) _ _ _ M3.out)
    have Y5 := hide (show w5.heap[w.heap.size + 1 + 1]? = some (.cells (evL 0 zFr 0).toArray 50 (0, 0)) by rw [e5]; exact other_heap (by omega) _ _ _ Y3.out)
    have Q5 := hide (show Below w.heap.size w w5 by rw [e5]; exact Q3.out.trans (below_setCells _ _ _ (by omega)))
    clear e5 TX X3 M3 Y3 Q3
    refine ⟨keepsL_mk (by kernel_rfl) (.past (by kernel_rfl) (.cons M5.out .nil)), ?_⟩
    go_simp
    have TY := hide (show w5.there (w.heap.size + 1 + 1) 0 7 from there_heap (cs := evL 0 zFr 0) Y5.out)
    refine wpAnyL_one (i := 9) (by kernel_rfl) ?_
    refine wpOp_do rfl rfl ?_
    refine wp_store_as 50 (.tmp 5) (.tmp 38) rfl (w.heap.size + 1 + 1) 0 (evL 0 zFr 0) (by rfl) (by rfl) (by exact TY.out) (by kernel_rfl) (by simp [Value.oneCell', evL]) ?_
    intro w6 e6
    have X6 := hide (show w6.heap[w.heap.size + 1]? = some (.cells d.cs.toArray 73 (0, 0)) by rw [e6]; exact other_heap (by omega) _ _ _ X5.out)
    have Y6 := hide (show w6.heap[w.heap.size + 1 + 1]? = some (.cells (evL 0 zFr 0).toArray 50 (0, 0)) by rw [e6]; exact whole_heap (evL 0 zFr 0) (xs := evL 0 zFr 0) Y5.out rfl)
    have Q6 := hide (show Below w.heap.size w w6 by rw [e6]; exact Q5.out.trans (below_setCells _ _ _ (by omega)))
    clear e6 TY X5 M5 Y5 Q5
    refine ⟨keepsL_all (by kernel_rfl) (by kernel_rfl), ?_⟩
    go_simp
    refine wpAnyL_one (i := 10) (by kernel_rfl) ?_
    refine wpOp_do rfl rfl ?_
    go_simp
    refine ⟨keepsL_all (by kernel_rfl) (by kernel_rfl), ?_⟩
    go_simp
    refine wpAnyL_done (by kernel_rfl) ?_ _
    go_wp2_with fail
    refine bodyPost_ret (results_cell2_tmp (by rfl) _ w6 (w.heap.size + 1) (w.heap.size + 1 + 1) 73 50 d.cs.toArray (evL 0 zFr 0).toArray (0, 0) (0, 0) _ _ (.int .i64 0) (by rfl) (by rfl) (by rfl) X6.out Y6.out Tryz.underlying73 (by rfl) (by kernel_rfl) Tryz.underlying50 (by rfl) (by kernel_rfl)) rfl ⟨by rw [HD.out], Q6.out⟩
  · have EO := hide (show c.one = c by unfold Cl.one; rw [if_neg (by omega)])
    obtain ⟨_, ⟨c4, _⟩, _⟩ := cl_cells B2.out
    rw [hs] at c4
    have C4 := hide c4
    clear c4 HS
    have hix := fun W => show (Instr.index 116 (.agg stepsV) (.int .i64 1)).run Tryz.prog W = .ok (.func (.func 79) #[] #[]) W from run_index_steps W 1 _ (by decide) (by rfl)
    refine wp_region_L [1, 2, 4, 5] [(2, fun W => W.cell? ⟨w.heap.size, 4, none⟩ = some (.int .i64 1))] (by kernel_rfl) ?_
    replace M2 := hide (show wa.drew.heap[mb]? = _ from M2.out)
    replace B2 := hide (show wa.drew.heap[w.heap.size]? = _ from B2.out)
    replace X2 := hide (show wa.drew.heap[w.heap.size + 1]? = _ from X2.out)
    replace Y2 := hide (show wa.drew.heap[w.heap.size + 1 + 1]? = _ from Y2.out)
    replace C4 := hide (show wa.drew.cell? _ = _ from C4.out)
    replace Q2 := hide (show Below w.heap.size w wa.drew from Q2.out.drew)
    generalize wa.drew = wb at *
    refine wpAnyL_pure (i := 1) (v := .pointer (some ⟨w.heap.size, 4, none⟩)) rfl rfl (by kernel_rfl) (by kernel_rfl) (by kernel_rfl) (by kernel_rfl) (by kernel_rfl) (fun _ _ _ h => h) rfl (fun W => by go_simp) ?_
    go_simp
    refine wpAnyL_load (i := 2) (v := .int .i64 1) rfl rfl (by kernel_rfl) (by kernel_rfl) (by kernel_rfl) (by kernel_rfl) (by kernel_rfl) (fun _ _ _ h => h) rfl (fun W h => by (have hc0 := h; clear h; go_simp)) (C4.out) ?_
    go_simp
    refine wpAnyL_pure (i := 4) (v := .pointer (some ⟨mb, 0, none⟩)) rfl rfl (by kernel_rfl) (by kernel_rfl) (by kernel_rfl) (by kernel_rfl) (by kernel_rfl) (fun _ _ _ h => h) rfl (fun W => by go_simp) ?_
    go_simp
    refine wpAnyL_pure (i := 5) (v := .int .u8 49) rfl rfl (by kernel_rfl) (by kernel_rfl) (by kernel_rfl) (by kernel_rfl) (by kernel_rfl) (fun _ _ _ h => h) rfl (fun W => by go_simp) ?_
    go_simp
    have ST := hide (ctlSteps_any wb)
    refine wpAnyL_one (i := 0) (by kernel_rfl) ?_
    refine wpOp_do rfl rfl ?_
    go_simp
    (with_reducible refine (ST.out).mono ?_)
    rintro e2 w2 ⟨rfl, q2⟩
    have C5 := hide (cellBelow q2 (heap_lt B2.out) C4.out)
    replace M2 := hide (heap_below M2.out q2)
    replace B2 := hide (heap_below B2.out q2)
    replace X2 := hide (heap_below X2.out q2)
    replace Y2 := hide (heap_below Y2.out q2)
    replace Q2 := hide (below_next Q2.out Q2.out.size q2)
    clear q2 ST C4
    go_simp
    refine ⟨keepsL_mk (by kernel_rfl) (.cons C5.out .nil), ?_⟩
    go_simp
    refine wpAnyL_one (i := 3) (by kernel_rfl) ?_
    refine wpOp_do rfl rfl ?_
    go_simp
    refine ⟨keepsL_all (by kernel_rfl) (by kernel_rfl), ?_⟩
    go_simp
    have MC := hide (mcIdle_one mb w2)
    refine wpAnyL_one (i := 6) (by kernel_rfl) ?_
    refine wpOp_do rfl rfl ?_
    go_simp
    (with_reducible refine (MC.out).mono ?_)
    rintro e3 w3 ⟨⟨v, rfl⟩, rfl⟩
    have hM := M2.out
    have q3 := Below.refl mb w3
    have M3 := hide hM
    have B3 := hide (heapB B2.out q3 (by omega))
    have X3 := hide (heapB X2.out q3 (by omega))
    have Y3 := hide (heapB Y2.out q3 (by omega))
    have Q3 := hide (Q2.out.trans (q3.mono (by omega)))
    clear hM q3 M2 B2 X2 Y2 Q2 hix MC
    obtain ⟨d, hd⟩ : ∃ d, d = c := ⟨_, rfl⟩
    rw [← hd] at M3
    have HD := hide (show c.one = d by rw [EO.out, hd])
    clear hd EO C5
    go_simp
    refine ⟨keepsL_all (by kernel_rfl) (by kernel_rfl), ?_⟩
    go_simp
    refine wpAnyL_done (by kernel_rfl) ?_ _
    go_wp2_with fail
    refine wp_region_L [0, 1, 2, 3, 4, 5, 6, 7] [(3, fun W => W.heap[mb]? = some (.cells (mcL d (evL 0 zFr 0)).toArray 114 (0, 0))), (7, fun W => W.heap[mb]? = some (.cells (mcL d (evL 0 zFr 0)).toArray 114 (0, 0)))] (by kernel_rfl) ?_
    replace M3 := hide (show w3.drew.heap[mb]? = _ from M3.out)
    replace X3 := hide (show w3.drew.heap[w.heap.size + 1]? = _ from X3.out)
    replace Y3 := hide (show w3.drew.heap[w.heap.size + 1 + 1]? = _ from Y3.out)
    replace Q3 := hide (show Below w.heap.size w w3.drew from Q3.out.drew)
    clear B3
    generalize w3.drew = w4 at *
    refine wpAnyL_pure (i := 0) (v := .pointer (some ⟨mb, 0, none⟩)) rfl rfl (by kernel_rfl) (by kernel_rfl) (by kernel_rfl) (by kernel_rfl) (by kernel_rfl) (fun _ _ _ h => h) rfl (fun W => by go_simp) ?_
    go_simp
    refine wpAnyL_pure (i := 1) (v := .pointer (some ⟨mb, 0, none⟩)) rfl rfl (by kernel_rfl) (by kernel_rfl) (by kernel_rfl) (by kernel_rfl) (by kernel_rfl) (fun _ _ _ h => h) rfl (fun W => by go_simp) ?_
    go_simp
    refine wpAnyL_pure (i := 2) (v := .pointer (some ⟨mb, 0, none⟩)) rfl rfl (by kernel_rfl) (by kernel_rfl) (by kernel_rfl) (by kernel_rfl) (by kernel_rfl) (fun _ _ _ h => h) rfl (fun W => by go_simp) ?_
    go_simp
    refine wpAnyL_load (i := 3) (v := .agg d.cs.toArray) rfl rfl (by kernel_rfl) (by kernel_rfl) (by kernel_rfl) (by kernel_rfl) (by kernel_rfl) (fun _ _ _ h => h) rfl (fun W h => exec_load W mb 0 73 d.cs _ (mc_ctl h) Tryz.underlying73 rfl (by kernel_rfl) _ _ (.tmp 33) (by rfl) (by rfl)) (M3.out) ?_
    go_simp
    refine wpAnyL_pure (i := 4) (v := .pointer (some ⟨mb, 0, none⟩)) rfl rfl (by kernel_rfl) (by kernel_rfl) (by kernel_rfl) (by kernel_rfl) (by kernel_rfl) (fun _ _ _ h => h) rfl (fun W => by go_simp) ?_
    go_simp
    refine wpAnyL_pure (i := 5) (v := .pointer (some ⟨mb, 0, none⟩)) rfl rfl (by kernel_rfl) (by kernel_rfl) (by kernel_rfl) (by kernel_rfl) (by kernel_rfl) (fun _ _ _ h => h) rfl (fun W => by go_simp) ?_
    go_simp
    refine wpAnyL_pure (i := 6) (v := .pointer (some ⟨mb, 23, none⟩)) rfl rfl (by kernel_rfl) (by kernel_rfl) (by kernel_rfl) (by kernel_rfl) (by kernel_rfl) (fun _ _ _ h => h) rfl (fun W => by go_simp) ?_
    go_simp
    refine wpAnyL_load (i := 7) (v := .agg (evL 0 zFr 0).toArray) rfl rfl (by kernel_rfl) (by kernel_rfl) (by kernel_rfl) (by kernel_rfl) (by kernel_rfl) (fun _ _ _ h => h) rfl (fun W h => exec_load W mb 23 50 (evL 0 zFr 0) _ (mc_ev h) Tryz.underlying50 rfl (by kernel_rfl) _ _ (.tmp 37) (by rfl) (by rfl)) (M3.out) ?_
    go_simp
    have TX := hide (show w4.there (w.heap.size + 1) 0 23 from there_heap (cs := zCl.cs) X3.out)
    refine wpAnyL_one (i := 8) (by kernel_rfl) ?_
    refine wpOp_do rfl rfl ?_
    refine wp_store_as 73 (.tmp 4) (.tmp 34) rfl (w.heap.size + 1) 0 d.cs (by rfl) (by rfl) (by exact TX.out) (by kernel_rfl) (by simp [Value.oneCell', Cl.cs]) ?_
    intro w5 e5
    have X5 := hide (show w5.heap[w.heap.size + 1]? = some (.cells d.cs.toArray 73 (0, 0)) by rw [e5]; exact whole_heap d.cs (xs := zCl.cs) X3.out rfl)
    have M5 := hide (show w5.heap[mb]? = some (.cells (mcL d (evL 0 zFr 0)).toArray 114 (0, 0)) by rw [e5]; exact other_heap (by omega) _ _ _ M3.out)
    have Y5 := hide (show w5.heap[w.heap.size + 1 + 1]? = some (.cells (evL 0 zFr 0).toArray 50 (0, 0)) by rw [e5]; exact other_heap (by omega) _ _ _ Y3.out)
    have Q5 := hide (show Below w.heap.size w w5 by rw [e5]; exact Q3.out.trans (below_setCells _ _ _ (by omega)))
    clear e5 TX X3 M3 Y3 Q3
    refine ⟨keepsL_mk (by kernel_rfl) (.past (by kernel_rfl) (.cons M5.out .nil)), ?_⟩
    go_simp
    have TY := hide (show w5.there (w.heap.size + 1 + 1) 0 7 from there_heap (cs := evL 0 zFr 0) Y5.out)
    refine wpAnyL_one (i := 9) (by kernel_rfl) ?_
    refine wpOp_do rfl rfl ?_
    refine wp_store_as 50 (.tmp 5) (.tmp 38) rfl (w.heap.size + 1 + 1) 0 (evL 0 zFr 0) (by rfl) (by rfl) (by exact TY.out) (by kernel_rfl) (by simp [Value.oneCell', evL]) ?_
    intro w6 e6
    have X6 := hide (show w6.heap[w.heap.size + 1]? = some (.cells d.cs.toArray 73 (0, 0)) by rw [e6]; exact other_heap (by omega) _ _ _ X5.out)
    have Y6 := hide (show w6.heap[w.heap.size + 1 + 1]? = some (.cells (evL 0 zFr 0).toArray 50 (0, 0)) by rw [e6]; exact whole_heap (evL 0 zFr 0) (xs := evL 0 zFr 0) Y5.out rfl)
    have Q6 := hide (show Below w.heap.size w w6 by rw [e6]; exact Q5.out.trans (below_setCells _ _ _ (by omega)))
    clear e6 TY X5 M5 Y5 Q5
    refine ⟨keepsL_all (by kernel_rfl) (by kernel_rfl), ?_⟩
    go_simp
    refine wpAnyL_one (i := 10) (by kernel_rfl) ?_
    refine wpOp_do rfl rfl ?_
    go_simp
    refine ⟨keepsL_all (by kernel_rfl) (by kernel_rfl), ?_⟩
    go_simp
    refine wpAnyL_done (by kernel_rfl) ?_ _
    go_wp2_with fail
    refine bodyPost_ret (results_cell2_tmp (by rfl) _ w6 (w.heap.size + 1) (w.heap.size + 1 + 1) 73 50 d.cs.toArray (evL 0 zFr 0).toArray (0, 0) (0, 0) _ _ (.int .i64 0) (by rfl) (by rfl) (by rfl) X6.out Y6.out Tryz.underlying73 (by rfl) (by kernel_rfl) Tryz.underlying50 (by rfl) (by kernel_rfl)) rfl ⟨by rw [HD.out], Q6.out⟩
end Go.Proofs.YthkilodnghiocaaGreatDoor

/- campanilelaw07.feed of recessive bits. -/
namespace Go.Proofs.YthkilodnghiocaaGreatDoor
open Go.ChangeShapes Go.WideShapes Go.ChangeAt Go.RowKit
open FP (Fr)

/-- So many recessive bits. -/
def ones (c : Cl) : Nat → Cl
  | 0 => c
  | k + 1 => (ones c k).one
theorem ones_q {c : Cl} (h : c.Q) : ∀ k, (ones c k).Q
  | 0 => h
  | k + 1 => (ones_q h k).one

end Go.Proofs.YthkilodnghiocaaGreatDoor
