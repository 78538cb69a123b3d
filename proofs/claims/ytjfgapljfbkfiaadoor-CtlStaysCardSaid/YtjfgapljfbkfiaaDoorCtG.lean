/- campanilelaw07.feed of recessive bits. -/
import Derived.Test.YtjfgapljfbkfiaaDoorCtF
namespace Go.Proofs.YtjfgapljfbkfiaaDoor
open Go.ChangeShapes Go.WideShapes Go.ChangeAt Go.RowKit
open FP (Fr)

/-- So many recessive bits. -/
def ones (c : Cl) : Nat → Cl
  | 0 => c
  | k + 1 => (ones c k).one
theorem ones_q {c : Cl} (h : c.Q) : ∀ k, (ones c k).Q
  | 0 => h
  | k + 1 => (ones_q h k).one
section
variable {P : Program} {ops : Array Oper} {Q : Exit → Act → World → Prop} {md : Region.Mode} {L : List Nat} {l : List (Nat × (World → Prop))}
theorem wpAnyL_three {i k m : Nat} {fuel : Nat} {listed : Array Bool} {a : Act} {w : World} (hr : Region.ready md ops listed = [i, k, m])
    (h : wpOp P ops Q i (fun a' w' => keepsL md ops L l i w w' ∧ wpAnyL P md ops Q L l fuel (listed.setIfInBounds i true) a' w') a w)
    (h' : wpOp P ops Q k (fun a' w' => keepsL md ops L l k w w' ∧ wpAnyL P md ops Q L l fuel (listed.setIfInBounds k true) a' w') a w)
    (h'' : wpOp P ops Q m (fun a' w' => keepsL md ops L l m w w' ∧ wpAnyL P md ops Q L l fuel (listed.setIfInBounds m true) a' w') a w) : wpAnyL P md ops Q L l (fuel + 1) listed a w :=
  ⟨fun h0 => absurd (hr.symm.trans h0) (by simp), hr ▸ fun j hj => by
    simp only [List.mem_cons, List.not_mem_nil, or_false] at hj
    rcases hj with rfl | rfl | rfl
    · exact h
    · exact h'
    · exact h''⟩
end

set_option maxRecDepth 100000 in
set_option maxHeartbeats 32000000 in
theorem feed_ones (c : Cl) (s : ByteArray) (w : World) (hq : c.Q) (hs : s.size ≤ 1000) (h1 : ∀ k, ∀ h : k < s.size, ∀ W, (Instr.index 9 (.string s) (.int .i64 k)).run Tryd.prog W = .ok (.int .u8 49) W) :
    Calls Tryd.prog 15 #[.agg c.cs.toArray, .string s] w fun e w' => e = .returned (.tuple #[.agg (ones c s.size).cs.toArray, .bool true]) ∧ Below w.heap.size w w' := by
  obtain ⟨w0, hw0⟩ : ∃ w0, w0 = (w.alloc (.cells c.cs.toArray 34)).alloc (.cells zCl.cs.toArray 34) := ⟨_, rfl⟩
  have step : ∀ (W : World) (o : Obj), Below W.heap.size W (W.alloc o) := fun W o => (Below.refl _ _).alloc (Nat.le_refl _) _
  have B0 := hide (heap_below (World.alloc_heap_new w (.cells c.cs.toArray 34)) (step _ (.cells zCl.cs.toArray 34)))
  have R0 := hide (World.alloc_heap_new (w.alloc (.cells c.cs.toArray 34)) (.cells zCl.cs.toArray 34))
  have Q0 : Hid (Below w.heap.size w w0) := by rw [hw0]; exact hide ((step _ _).alloc (by simp) _)
  rw [← hw0] at B0 R0
  simp only [World.size_alloc] at R0
  have HQ := hide (ones_q hq)
  have H1 := hide h1
  clear step hq h1
  go_enter Tryd.func15, Tryd.ntmps15
  go_upto_region 1 with fail
  change Code.wp _ _ _ _ ((w.alloc (.cells c.cs.toArray 34)).alloc (.cells zCl.cs.toArray 34))
  rw [← hw0]
  clear hw0
  go_wp2_with fail
  go_loopw [12] (fun vi W => ∃ k : Nat, k ≤ s.size ∧ vi = .int .i64 k ∧ Hid (W.heap[w.heap.size]? = some (.cells (ones c k).cs.toArray 34 (0, 0))) ∧ Hid (W.heap[w.heap.size + 1]? = some (.cells zCl.cs.toArray 34 (0, 0))) ∧ Hid (Below w.heap.size w W)) (fun vi _ => s.size - (intOf vi).toNat)
  case atStart => exact ⟨0, Nat.zero_le _, rfl, B0, R0, Q0⟩
  case round =>
    obtain ⟨k, hk, rfl, B, R, Q⟩ := hrel
    clear B0 R0 Q0
    by_cases hlt : k < s.size
    · have hki : (k : Int) < (s.size : Int) := by omega
      have hix := H1.out k hlt
      have HD := hide (show ones c (k + 1) = (ones c k).one from rfl)
      have HQK := hide (HQ.out k)
      generalize ones c k = d at *
      have SA := hide (fun (W : World) (_ : Below w.heap.size w W) => ctlSample_one d W HQK.out)
      go_wp2_with fail
      refine wp_region_L [0, 1, 2, 3, 5, 6, 7, 8] [(0, fun W => W.heap[w.heap.size]? = some (.cells d.cs.toArray 34 (0, 0)))] (by kernel_rfl) ?_
      replace B := hide (show wr.drew.heap[w.heap.size]? = _ from B.out)
      replace R := hide (show wr.drew.heap[w.heap.size + 1]? = _ from R.out)
      replace Q := hide (show Below w.heap.size w wr.drew from Q.out.drew)
      generalize wr.drew = wd at *
      refine wpAnyL_load (i := 0) (v := .agg d.cs.toArray) rfl rfl (by kernel_rfl) (by kernel_rfl) (by kernel_rfl) (by kernel_rfl) (by kernel_rfl) (fun _ _ _ h => h) rfl (fun W h => exec_heap W w.heap.size 34 _ _ h Tryd.underlying34 rfl (by kernel_rfl) _ _ (.tmp 2) (by rfl) (by rfl)) (B.out) ?_
      go_simp
      refine wpAnyL_pure (i := 1) (v := .string s) rfl rfl (by kernel_rfl) (by kernel_rfl) (by kernel_rfl) (by kernel_rfl) (by kernel_rfl) (fun _ _ _ h => h) rfl (fun W => by go_simp) ?_
      go_simp
      refine wpAnyL_pure (i := 2) (v := .int .i64 k) rfl rfl (by kernel_rfl) (by kernel_rfl) (by kernel_rfl) (by kernel_rfl) (by kernel_rfl) (fun _ _ _ h => h) rfl (fun W => by go_simp) ?_
      go_simp
      refine wpAnyL_pure (i := 3) (v := .int .u8 49) rfl rfl (by kernel_rfl) (by kernel_rfl) (by kernel_rfl) (by kernel_rfl) (by kernel_rfl) (fun _ _ _ h => h) rfl (fun W => by go_simp) ?_
      go_simp
      refine wpAnyL_three (i := 4) (k := 9) (m := 10) (by kernel_rfl) ?_ ?_ ?_
      · refine wpOp_do rfl rfl ?_
        go_simp
        (with_reducible refine (SA.out _ Q.out).mono ?_)
        rintro e1 wda ⟨rfl, q⟩
        replace B := hide (heap_below B.out q)
        replace R := hide (heap_below R.out q)
        replace Q := hide (below_next Q.out Q.out.size q)
        clear q
        go_simp
        refine ⟨keepsL_all (by kernel_rfl) (by kernel_rfl), ?_⟩
        go_simp
        refine wpAnyL_pure (i := 5) (v := .tuple #[.agg d.one.cs.toArray, .agg (evL 0 zFr 0).toArray, .int .i64 0]) rfl rfl (by kernel_rfl) (by kernel_rfl) (by kernel_rfl) (by kernel_rfl) (by kernel_rfl) (fun _ _ _ h => h) rfl (fun W => by go_simp) ?_
        go_simp
        refine wpAnyL_pure (i := 6) (v := .agg d.one.cs.toArray) rfl rfl (by kernel_rfl) (by kernel_rfl) (by kernel_rfl) (by kernel_rfl) (by kernel_rfl) (fun _ _ _ h => h) rfl (fun W => by go_simp) ?_
        go_simp
        refine wpAnyL_pure (i := 7) (v := .agg (evL 0 zFr 0).toArray) rfl rfl (by kernel_rfl) (by kernel_rfl) (by kernel_rfl) (by kernel_rfl) (by kernel_rfl) (fun _ _ _ h => h) rfl (fun W => by go_simp) ?_
        go_simp
        refine wpAnyL_pure (i := 8) (v := .int .i64 0) rfl rfl (by kernel_rfl) (by kernel_rfl) (by kernel_rfl) (by kernel_rfl) (by kernel_rfl) (fun _ _ _ h => h) rfl (fun W => by go_simp) ?_
        go_simp
        refine wpAnyL_two (i := 9) (k := 10) (by kernel_rfl) ?_ ?_
        · refine wpOp_do rfl rfl ?_
          go_simp
          have q : Below wda.heap.size wda (wda.alloc (.cells zCl.cs.toArray 34)) := (Below.refl _ _).alloc (Nat.le_refl _) _
          have N7 := hide (World.alloc_heap_new wda (.cells zCl.cs.toArray 34))
          have z7 : w.heap.size + 1 < wda.heap.size := heap_lt R.out
          replace B := hide (heap_below B.out q)
          replace R := hide (heap_below R.out q)
          replace Q := hide (below_next Q.out Q.out.size q)
          clear q
          refine ⟨keepsL_mk (by kernel_rfl) (.cons B.out .nil), ?_⟩
          change wpAnyL _ _ _ _ _ _ _ _ _ (wda.alloc (.cells zCl.cs.toArray 34))
          generalize wda.alloc (.cells zCl.cs.toArray 34) = wdab at *
          generalize wda.heap.size = x7 at *
          go_simp
          refine wpAnyL_one (i := 10) (by kernel_rfl) ?_
          refine wpOp_do rfl rfl ?_
          go_simp
          have q : Below wdab.heap.size wdab (wdab.alloc (.cells (evL 0 zFr 0).toArray 45)) := (Below.refl _ _).alloc (Nat.le_refl _) _
          have N8 := hide (World.alloc_heap_new wdab (.cells (evL 0 zFr 0).toArray 45))
          have z8 : w.heap.size + 1 < wdab.heap.size := heap_lt R.out
          have z78 : x7 < wdab.heap.size := heap_lt N7.out
          replace B := hide (heap_below B.out q)
          replace R := hide (heap_below R.out q)
          replace N7 := hide (heap_below N7.out q)
          replace Q := hide (below_next Q.out Q.out.size q)
          clear q
          refine ⟨keepsL_mk (by kernel_rfl) (.cons B.out .nil), ?_⟩
          change wpAnyL _ _ _ _ _ _ _ _ _ (wdab.alloc (.cells (evL 0 zFr 0).toArray 45))
          generalize wdab.alloc (.cells (evL 0 zFr 0).toArray 45) = wdabc at *
          generalize wdab.heap.size = x8 at *
          go_simp
          have T7 := hide (show wdabc.there x7 0 23 from there_heap (cs := zCl.cs) N7.out)
          refine wpAnyL_one (i := 11) (by kernel_rfl) ?_
          refine wpOp_do rfl rfl ?_
          refine wp_store_as 34 (.tmp 7) (.tmp 21) rfl x7 0 d.one.cs (by rfl) (by rfl) (by exact T7.out) (by kernel_rfl) (by simp [Value.oneCell', Cl.cs]) ?_
          intro wa ea
          have N7a := hide (show wa.heap[x7]? = some (.cells d.one.cs.toArray 34 (0, 0)) by rw [ea]; exact whole_heap d.one.cs (xs := zCl.cs) N7.out rfl)
          have N8a := hide (show wa.heap[x8]? = some (.cells (evL 0 zFr 0).toArray 45 (0, 0)) by rw [ea]; exact other_heap (by omega) _ _ _ N8.out)
          have Ba := hide (show wa.heap[w.heap.size]? = some (.cells d.cs.toArray 34 (0, 0)) by rw [ea]; exact other_heap (by omega) _ _ _ B.out)
          have Ra := hide (show wa.heap[w.heap.size + 1]? = some (.cells zCl.cs.toArray 34 (0, 0)) by rw [ea]; exact other_heap (by omega) _ _ _ R.out)
          have Qa := hide (show Below w.heap.size w wa by rw [ea]; exact Q.out.trans (below_setCells _ _ _ (by omega)))
          clear ea T7 N7 N8 B R Q
          refine ⟨keepsL_all (by kernel_rfl) (by kernel_rfl), ?_⟩
          go_simp
          have T8 := hide (show wa.there x8 0 7 from there_heap (cs := evL 0 zFr 0) N8a.out)
          refine wpAnyL_one (i := 12) (by kernel_rfl) ?_
          refine wpOp_do rfl rfl ?_
          refine wp_store_as 45 (.tmp 8) (.tmp 22) rfl x8 0 (evL 0 zFr 0) (by rfl) (by rfl) (by exact T8.out) (by kernel_rfl) (by simp [Value.oneCell', evL]) ?_
          intro wb eb
          have N7b := hide (show wb.heap[x7]? = some (.cells d.one.cs.toArray 34 (0, 0)) by rw [eb]; exact other_heap (by omega) _ _ _ N7a.out)
          have Bb := hide (show wb.heap[w.heap.size]? = some (.cells d.cs.toArray 34 (0, 0)) by rw [eb]; exact other_heap (by omega) _ _ _ Ba.out)
          have Rb := hide (show wb.heap[w.heap.size + 1]? = some (.cells zCl.cs.toArray 34 (0, 0)) by rw [eb]; exact other_heap (by omega) _ _ _ Ra.out)
          have Qb := hide (show Below w.heap.size w wb by rw [eb]; exact Qa.out.trans (below_setCells _ _ _ (by omega)))
          clear eb T8 N7a N8a Ba Ra Qa
          refine ⟨keepsL_all (by kernel_rfl) (by kernel_rfl), ?_⟩
          go_simp
          refine wpAnyL_one (i := 13) (by kernel_rfl) ?_
          refine wpOp_do rfl rfl ?_
          go_simp
          refine ⟨keepsL_all (by kernel_rfl) (by kernel_rfl), ?_⟩
          go_simp
          refine wpAnyL_done (by kernel_rfl) ?_ _
          have TB := hide (show wb.there w.heap.size 0 23 from there_heap (cs := d.cs) Bb.out)
          go_wp2_with (first | (refine wpList_load_row rfl 34 (.tmp 7) (by rfl) x7 (by rfl) 34 d.one.cs.toArray (0, 0) _ (by exact N7b.out) Tryd.underlying34 (by rfl) (by kernel_rfl) ?_) | (refine wpList_store_hid (by rfl) 34 (.tmp 2) (.tmp 27) (by rfl) w.heap.size 0 d.one.cs (by rfl) (by rfl) (by exact TB.out) (by kernel_rfl) (by simp [Value.oneCell', Cl.cs]) ?_))
          intro wc ec
          have Bc := hide (show wc.heap[w.heap.size]? = some (.cells (ones c (k + 1)).cs.toArray 34 (0, 0)) by rw [ec.out, HD.out]; exact whole_heap d.one.cs (xs := d.cs) Bb.out rfl)
          have Rc := hide (show wc.heap[w.heap.size + 1]? = some (.cells zCl.cs.toArray 34 (0, 0)) by rw [ec.out]; exact other_heap (by omega) _ _ _ Rb.out)
          have Qc := hide (show Below w.heap.size w wc by rw [ec.out]; exact Qb.out.trans (below_setCells _ _ _ (Nat.le_refl _)))
          clear ec TB N7b Bb Rb Qb
          go_wp2_with fail
          go_roundw
          case rel => exact ⟨k + 1, by omega, by go_num, Bc, Rc, Qc⟩
          case measure => simp [intOf]; omega
        · refine wpOp_do rfl rfl ?_
          go_simp
          have q : Below wda.heap.size wda (wda.alloc (.cells (evL 0 zFr 0).toArray 45)) := (Below.refl _ _).alloc (Nat.le_refl _) _
          have N8 := hide (World.alloc_heap_new wda (.cells (evL 0 zFr 0).toArray 45))
          have z8 : w.heap.size + 1 < wda.heap.size := heap_lt R.out
          replace B := hide (heap_below B.out q)
          replace R := hide (heap_below R.out q)
          replace Q := hide (below_next Q.out Q.out.size q)
          clear q
          refine ⟨keepsL_mk (by kernel_rfl) (.cons B.out .nil), ?_⟩
          change wpAnyL _ _ _ _ _ _ _ _ _ (wda.alloc (.cells (evL 0 zFr 0).toArray 45))
          generalize wda.alloc (.cells (evL 0 zFr 0).toArray 45) = wdac at *
          generalize wda.heap.size = x8 at *
          go_simp
          refine wpAnyL_one (i := 9) (by kernel_rfl) ?_
          refine wpOp_do rfl rfl ?_
          go_simp
          have q : Below wdac.heap.size wdac (wdac.alloc (.cells zCl.cs.toArray 34)) := (Below.refl _ _).alloc (Nat.le_refl _) _
          have N7 := hide (World.alloc_heap_new wdac (.cells zCl.cs.toArray 34))
          have z7 : w.heap.size + 1 < wdac.heap.size := heap_lt R.out
          have z78 : x8 < wdac.heap.size := heap_lt N8.out
          replace B := hide (heap_below B.out q)
          replace R := hide (heap_below R.out q)
          replace N8 := hide (heap_below N8.out q)
          replace Q := hide (below_next Q.out Q.out.size q)
          clear q
          refine ⟨keepsL_mk (by kernel_rfl) (.cons B.out .nil), ?_⟩
          change wpAnyL _ _ _ _ _ _ _ _ _ (wdac.alloc (.cells zCl.cs.toArray 34))
          generalize wdac.alloc (.cells zCl.cs.toArray 34) = wdacb at *
          generalize wdac.heap.size = x7 at *
          go_simp
          have T7 := hide (show wdacb.there x7 0 23 from there_heap (cs := zCl.cs) N7.out)
          refine wpAnyL_one (i := 11) (by kernel_rfl) ?_
          refine wpOp_do rfl rfl ?_
          refine wp_store_as 34 (.tmp 7) (.tmp 21) rfl x7 0 d.one.cs (by rfl) (by rfl) (by exact T7.out) (by kernel_rfl) (by simp [Value.oneCell', Cl.cs]) ?_
          intro wa ea
          have N7a := hide (show wa.heap[x7]? = some (.cells d.one.cs.toArray 34 (0, 0)) by rw [ea]; exact whole_heap d.one.cs (xs := zCl.cs) N7.out rfl)
          have N8a := hide (show wa.heap[x8]? = some (.cells (evL 0 zFr 0).toArray 45 (0, 0)) by rw [ea]; exact other_heap (by omega) _ _ _ N8.out)
          have Ba := hide (show wa.heap[w.heap.size]? = some (.cells d.cs.toArray 34 (0, 0)) by rw [ea]; exact other_heap (by omega) _ _ _ B.out)
          have Ra := hide (show wa.heap[w.heap.size + 1]? = some (.cells zCl.cs.toArray 34 (0, 0)) by rw [ea]; exact other_heap (by omega) _ _ _ R.out)
          have Qa := hide (show Below w.heap.size w wa by rw [ea]; exact Q.out.trans (below_setCells _ _ _ (by omega)))
          clear ea T7 N7 N8 B R Q
          refine ⟨keepsL_all (by kernel_rfl) (by kernel_rfl), ?_⟩
          go_simp
          have T8 := hide (show wa.there x8 0 7 from there_heap (cs := evL 0 zFr 0) N8a.out)
          refine wpAnyL_one (i := 12) (by kernel_rfl) ?_
          refine wpOp_do rfl rfl ?_
          refine wp_store_as 45 (.tmp 8) (.tmp 22) rfl x8 0 (evL 0 zFr 0) (by rfl) (by rfl) (by exact T8.out) (by kernel_rfl) (by simp [Value.oneCell', evL]) ?_
          intro wb eb
          have N7b := hide (show wb.heap[x7]? = some (.cells d.one.cs.toArray 34 (0, 0)) by rw [eb]; exact other_heap (by omega) _ _ _ N7a.out)
          have Bb := hide (show wb.heap[w.heap.size]? = some (.cells d.cs.toArray 34 (0, 0)) by rw [eb]; exact other_heap (by omega) _ _ _ Ba.out)
          have Rb := hide (show wb.heap[w.heap.size + 1]? = some (.cells zCl.cs.toArray 34 (0, 0)) by rw [eb]; exact other_heap (by omega) _ _ _ Ra.out)
          have Qb := hide (show Below w.heap.size w wb by rw [eb]; exact Qa.out.trans (below_setCells _ _ _ (by omega)))
          clear eb T8 N7a N8a Ba Ra Qa
          refine ⟨keepsL_all (by kernel_rfl) (by kernel_rfl), ?_⟩
          go_simp
          refine wpAnyL_one (i := 13) (by kernel_rfl) ?_
          refine wpOp_do rfl rfl ?_
          go_simp
          refine ⟨keepsL_all (by kernel_rfl) (by kernel_rfl), ?_⟩
          go_simp
          refine wpAnyL_done (by kernel_rfl) ?_ _
          have TB := hide (show wb.there w.heap.size 0 23 from there_heap (cs := d.cs) Bb.out)
          go_wp2_with (first | (refine wpList_load_row rfl 34 (.tmp 7) (by rfl) x7 (by rfl) 34 d.one.cs.toArray (0, 0) _ (by exact N7b.out) Tryd.underlying34 (by rfl) (by kernel_rfl) ?_) | (refine wpList_store_hid (by rfl) 34 (.tmp 2) (.tmp 27) (by rfl) w.heap.size 0 d.one.cs (by rfl) (by rfl) (by exact TB.out) (by kernel_rfl) (by simp [Value.oneCell', Cl.cs]) ?_))
          intro wc ec
          have Bc := hide (show wc.heap[w.heap.size]? = some (.cells (ones c (k + 1)).cs.toArray 34 (0, 0)) by rw [ec.out, HD.out]; exact whole_heap d.one.cs (xs := d.cs) Bb.out rfl)
          have Rc := hide (show wc.heap[w.heap.size + 1]? = some (.cells zCl.cs.toArray 34 (0, 0)) by rw [ec.out]; exact other_heap (by omega) _ _ _ Rb.out)
          have Qc := hide (show Below w.heap.size w wc by rw [ec.out]; exact Qb.out.trans (below_setCells _ _ _ (Nat.le_refl _)))
          clear ec TB N7b Bb Rb Qb
          go_wp2_with fail
          go_roundw
          case rel => exact ⟨k + 1, by omega, by go_num, Bc, Rc, Qc⟩
          case measure => simp [intOf]; omega
      · refine wpOp_do rfl rfl ?_
        go_simp
        have q : Below wd.heap.size wd (wd.alloc (.cells zCl.cs.toArray 34)) := (Below.refl _ _).alloc (Nat.le_refl _) _
        have N7 := hide (World.alloc_heap_new wd (.cells zCl.cs.toArray 34))
        have z7 : w.heap.size + 1 < wd.heap.size := heap_lt R.out
        replace B := hide (heap_below B.out q)
        replace R := hide (heap_below R.out q)
        replace Q := hide (below_next Q.out Q.out.size q)
        clear q
        refine ⟨keepsL_mk (by kernel_rfl) (.cons B.out .nil), ?_⟩
        change wpAnyL _ _ _ _ _ _ _ _ _ (wd.alloc (.cells zCl.cs.toArray 34))
        generalize wd.alloc (.cells zCl.cs.toArray 34) = wdb at *
        generalize wd.heap.size = x7 at *
        go_simp
        refine wpAnyL_two (i := 4) (k := 10) (by kernel_rfl) ?_ ?_
        · refine wpOp_do rfl rfl ?_
          go_simp
          (with_reducible refine (SA.out _ Q.out).mono ?_)
          rintro e2 wdba ⟨rfl, q⟩
          replace B := hide (heap_below B.out q)
          replace R := hide (heap_below R.out q)
          replace N7 := hide (heap_below N7.out q)
          replace Q := hide (below_next Q.out Q.out.size q)
          clear q
          go_simp
          refine ⟨keepsL_all (by kernel_rfl) (by kernel_rfl), ?_⟩
          go_simp
          refine wpAnyL_pure (i := 5) (v := .tuple #[.agg d.one.cs.toArray, .agg (evL 0 zFr 0).toArray, .int .i64 0]) rfl rfl (by kernel_rfl) (by kernel_rfl) (by kernel_rfl) (by kernel_rfl) (by kernel_rfl) (fun _ _ _ h => h) rfl (fun W => by go_simp) ?_
          go_simp
          refine wpAnyL_pure (i := 6) (v := .agg d.one.cs.toArray) rfl rfl (by kernel_rfl) (by kernel_rfl) (by kernel_rfl) (by kernel_rfl) (by kernel_rfl) (fun _ _ _ h => h) rfl (fun W => by go_simp) ?_
          go_simp
          refine wpAnyL_pure (i := 7) (v := .agg (evL 0 zFr 0).toArray) rfl rfl (by kernel_rfl) (by kernel_rfl) (by kernel_rfl) (by kernel_rfl) (by kernel_rfl) (fun _ _ _ h => h) rfl (fun W => by go_simp) ?_
          go_simp
          refine wpAnyL_pure (i := 8) (v := .int .i64 0) rfl rfl (by kernel_rfl) (by kernel_rfl) (by kernel_rfl) (by kernel_rfl) (by kernel_rfl) (fun _ _ _ h => h) rfl (fun W => by go_simp) ?_
          go_simp
          refine wpAnyL_one (i := 10) (by kernel_rfl) ?_
          refine wpOp_do rfl rfl ?_
          go_simp
          have q : Below wdba.heap.size wdba (wdba.alloc (.cells (evL 0 zFr 0).toArray 45)) := (Below.refl _ _).alloc (Nat.le_refl _) _
          have N8 := hide (World.alloc_heap_new wdba (.cells (evL 0 zFr 0).toArray 45))
          have z8 : w.heap.size + 1 < wdba.heap.size := heap_lt R.out
          have z78 : x7 < wdba.heap.size := heap_lt N7.out
          replace B := hide (heap_below B.out q)
          replace R := hide (heap_below R.out q)
          replace N7 := hide (heap_below N7.out q)
          replace Q := hide (below_next Q.out Q.out.size q)
          clear q
          refine ⟨keepsL_mk (by kernel_rfl) (.cons B.out .nil), ?_⟩
          change wpAnyL _ _ _ _ _ _ _ _ _ (wdba.alloc (.cells (evL 0 zFr 0).toArray 45))
          generalize wdba.alloc (.cells (evL 0 zFr 0).toArray 45) = wdbac at *
          generalize wdba.heap.size = x8 at *
          go_simp
          have T7 := hide (show wdbac.there x7 0 23 from there_heap (cs := zCl.cs) N7.out)
          refine wpAnyL_one (i := 11) (by kernel_rfl) ?_
          refine wpOp_do rfl rfl ?_
          refine wp_store_as 34 (.tmp 7) (.tmp 21) rfl x7 0 d.one.cs (by rfl) (by rfl) (by exact T7.out) (by kernel_rfl) (by simp [Value.oneCell', Cl.cs]) ?_
          intro wa ea
          have N7a := hide (show wa.heap[x7]? = some (.cells d.one.cs.toArray 34 (0, 0)) by rw [ea]; exact whole_heap d.one.cs (xs := zCl.cs) N7.out rfl)
          have N8a := hide (show wa.heap[x8]? = some (.cells (evL 0 zFr 0).toArray 45 (0, 0)) by rw [ea]; exact other_heap (by omega) _ _ _ N8.out)
          have Ba := hide (show wa.heap[w.heap.size]? = some (.cells d.cs.toArray 34 (0, 0)) by rw [ea]; exact other_heap (by omega) _ _ _ B.out)
          have Ra := hide (show wa.heap[w.heap.size + 1]? = some (.cells zCl.cs.toArray 34 (0, 0)) by rw [ea]; exact other_heap (by omega) _ _ _ R.out)
          have Qa := hide (show Below w.heap.size w wa by rw [ea]; exact Q.out.trans (below_setCells _ _ _ (by omega)))
          clear ea T7 N7 N8 B R Q
          refine ⟨keepsL_all (by kernel_rfl) (by kernel_rfl), ?_⟩
          go_simp
          have T8 := hide (show wa.there x8 0 7 from there_heap (cs := evL 0 zFr 0) N8a.out)
          refine wpAnyL_one (i := 12) (by kernel_rfl) ?_
          refine wpOp_do rfl rfl ?_
          refine wp_store_as 45 (.tmp 8) (.tmp 22) rfl x8 0 (evL 0 zFr 0) (by rfl) (by rfl) (by exact T8.out) (by kernel_rfl) (by simp [Value.oneCell', evL]) ?_
          intro wb eb
          have N7b := hide (show wb.heap[x7]? = some (.cells d.one.cs.toArray 34 (0, 0)) by rw [eb]; exact other_heap (by omega) _ _ _ N7a.out)
          have Bb := hide (show wb.heap[w.heap.size]? = some (.cells d.cs.toArray 34 (0, 0)) by rw [eb]; exact other_heap (by omega) _ _ _ Ba.out)
          have Rb := hide (show wb.heap[w.heap.size + 1]? = some (.cells zCl.cs.toArray 34 (0, 0)) by rw [eb]; exact other_heap (by omega) _ _ _ Ra.out)
          have Qb := hide (show Below w.heap.size w wb by rw [eb]; exact Qa.out.trans (below_setCells _ _ _ (by omega)))
          clear eb T8 N7a N8a Ba Ra Qa
          refine ⟨keepsL_all (by kernel_rfl) (by kernel_rfl), ?_⟩
          go_simp
          refine wpAnyL_one (i := 13) (by kernel_rfl) ?_
          refine wpOp_do rfl rfl ?_
          go_simp
          refine ⟨keepsL_all (by kernel_rfl) (by kernel_rfl), ?_⟩
          go_simp
          refine wpAnyL_done (by kernel_rfl) ?_ _
          have TB := hide (show wb.there w.heap.size 0 23 from there_heap (cs := d.cs) Bb.out)
          go_wp2_with (first | (refine wpList_load_row rfl 34 (.tmp 7) (by rfl) x7 (by rfl) 34 d.one.cs.toArray (0, 0) _ (by exact N7b.out) Tryd.underlying34 (by rfl) (by kernel_rfl) ?_) | (refine wpList_store_hid (by rfl) 34 (.tmp 2) (.tmp 27) (by rfl) w.heap.size 0 d.one.cs (by rfl) (by rfl) (by exact TB.out) (by kernel_rfl) (by simp [Value.oneCell', Cl.cs]) ?_))
          intro wc ec
          have Bc := hide (show wc.heap[w.heap.size]? = some (.cells (ones c (k + 1)).cs.toArray 34 (0, 0)) by rw [ec.out, HD.out]; exact whole_heap d.one.cs (xs := d.cs) Bb.out rfl)
          have Rc := hide (show wc.heap[w.heap.size + 1]? = some (.cells zCl.cs.toArray 34 (0, 0)) by rw [ec.out]; exact other_heap (by omega) _ _ _ Rb.out)
          have Qc := hide (show Below w.heap.size w wc by rw [ec.out]; exact Qb.out.trans (below_setCells _ _ _ (Nat.le_refl _)))
          clear ec TB N7b Bb Rb Qb
          go_wp2_with fail
          go_roundw
          case rel => exact ⟨k + 1, by omega, by go_num, Bc, Rc, Qc⟩
          case measure => simp [intOf]; omega
        · refine wpOp_do rfl rfl ?_
          go_simp
          have q : Below wdb.heap.size wdb (wdb.alloc (.cells (evL 0 zFr 0).toArray 45)) := (Below.refl _ _).alloc (Nat.le_refl _) _
          have N8 := hide (World.alloc_heap_new wdb (.cells (evL 0 zFr 0).toArray 45))
          have z8 : w.heap.size + 1 < wdb.heap.size := heap_lt R.out
          have z78 : x7 < wdb.heap.size := heap_lt N7.out
          replace B := hide (heap_below B.out q)
          replace R := hide (heap_below R.out q)
          replace N7 := hide (heap_below N7.out q)
          replace Q := hide (below_next Q.out Q.out.size q)
          clear q
          refine ⟨keepsL_mk (by kernel_rfl) (.cons B.out .nil), ?_⟩
          change wpAnyL _ _ _ _ _ _ _ _ _ (wdb.alloc (.cells (evL 0 zFr 0).toArray 45))
          generalize wdb.alloc (.cells (evL 0 zFr 0).toArray 45) = wdbc at *
          generalize wdb.heap.size = x8 at *
          go_simp
          refine wpAnyL_one (i := 4) (by kernel_rfl) ?_
          refine wpOp_do rfl rfl ?_
          go_simp
          (with_reducible refine (SA.out _ Q.out).mono ?_)
          rintro e3 wdbca ⟨rfl, q⟩
          replace B := hide (heap_below B.out q)
          replace R := hide (heap_below R.out q)
          replace N7 := hide (heap_below N7.out q)
          replace N8 := hide (heap_below N8.out q)
          replace Q := hide (below_next Q.out Q.out.size q)
          clear q
          go_simp
          refine ⟨keepsL_all (by kernel_rfl) (by kernel_rfl), ?_⟩
          go_simp
          refine wpAnyL_pure (i := 5) (v := .tuple #[.agg d.one.cs.toArray, .agg (evL 0 zFr 0).toArray, .int .i64 0]) rfl rfl (by kernel_rfl) (by kernel_rfl) (by kernel_rfl) (by kernel_rfl) (by kernel_rfl) (fun _ _ _ h => h) rfl (fun W => by go_simp) ?_
          go_simp
          refine wpAnyL_pure (i := 6) (v := .agg d.one.cs.toArray) rfl rfl (by kernel_rfl) (by kernel_rfl) (by kernel_rfl) (by kernel_rfl) (by kernel_rfl) (fun _ _ _ h => h) rfl (fun W => by go_simp) ?_
          go_simp
          refine wpAnyL_pure (i := 7) (v := .agg (evL 0 zFr 0).toArray) rfl rfl (by kernel_rfl) (by kernel_rfl) (by kernel_rfl) (by kernel_rfl) (by kernel_rfl) (fun _ _ _ h => h) rfl (fun W => by go_simp) ?_
          go_simp
          refine wpAnyL_pure (i := 8) (v := .int .i64 0) rfl rfl (by kernel_rfl) (by kernel_rfl) (by kernel_rfl) (by kernel_rfl) (by kernel_rfl) (fun _ _ _ h => h) rfl (fun W => by go_simp) ?_
          go_simp
          have T7 := hide (show wdbca.there x7 0 23 from there_heap (cs := zCl.cs) N7.out)
          refine wpAnyL_one (i := 11) (by kernel_rfl) ?_
          refine wpOp_do rfl rfl ?_
          refine wp_store_as 34 (.tmp 7) (.tmp 21) rfl x7 0 d.one.cs (by rfl) (by rfl) (by exact T7.out) (by kernel_rfl) (by simp [Value.oneCell', Cl.cs]) ?_
          intro wa ea
          have N7a := hide (show wa.heap[x7]? = some (.cells d.one.cs.toArray 34 (0, 0)) by rw [ea]; exact whole_heap d.one.cs (xs := zCl.cs) N7.out rfl)
          have N8a := hide (show wa.heap[x8]? = some (.cells (evL 0 zFr 0).toArray 45 (0, 0)) by rw [ea]; exact other_heap (by omega) _ _ _ N8.out)
          have Ba := hide (show wa.heap[w.heap.size]? = some (.cells d.cs.toArray 34 (0, 0)) by rw [ea]; exact other_heap (by omega) _ _ _ B.out)
          have Ra := hide (show wa.heap[w.heap.size + 1]? = some (.cells zCl.cs.toArray 34 (0, 0)) by rw [ea]; exact other_heap (by omega) _ _ _ R.out)
          have Qa := hide (show Below w.heap.size w wa by rw [ea]; exact Q.out.trans (below_setCells _ _ _ (by omega)))
          clear ea T7 N7 N8 B R Q
          refine ⟨keepsL_all (by kernel_rfl) (by kernel_rfl), ?_⟩
          go_simp
          have T8 := hide (show wa.there x8 0 7 from there_heap (cs := evL 0 zFr 0) N8a.out)
          refine wpAnyL_one (i := 12) (by kernel_rfl) ?_
          refine wpOp_do rfl rfl ?_
          refine wp_store_as 45 (.tmp 8) (.tmp 22) rfl x8 0 (evL 0 zFr 0) (by rfl) (by rfl) (by exact T8.out) (by kernel_rfl) (by simp [Value.oneCell', evL]) ?_
          intro wb eb
          have N7b := hide (show wb.heap[x7]? = some (.cells d.one.cs.toArray 34 (0, 0)) by rw [eb]; exact other_heap (by omega) _ _ _ N7a.out)
          have Bb := hide (show wb.heap[w.heap.size]? = some (.cells d.cs.toArray 34 (0, 0)) by rw [eb]; exact other_heap (by omega) _ _ _ Ba.out)
          have Rb := hide (show wb.heap[w.heap.size + 1]? = some (.cells zCl.cs.toArray 34 (0, 0)) by rw [eb]; exact other_heap (by omega) _ _ _ Ra.out)
          have Qb := hide (show Below w.heap.size w wb by rw [eb]; exact Qa.out.trans (below_setCells _ _ _ (by omega)))
          clear eb T8 N7a N8a Ba Ra Qa
          refine ⟨keepsL_all (by kernel_rfl) (by kernel_rfl), ?_⟩
          go_simp
          refine wpAnyL_one (i := 13) (by kernel_rfl) ?_
          refine wpOp_do rfl rfl ?_
          go_simp
          refine ⟨keepsL_all (by kernel_rfl) (by kernel_rfl), ?_⟩
          go_simp
          refine wpAnyL_done (by kernel_rfl) ?_ _
          have TB := hide (show wb.there w.heap.size 0 23 from there_heap (cs := d.cs) Bb.out)
          go_wp2_with (first | (refine wpList_load_row rfl 34 (.tmp 7) (by rfl) x7 (by rfl) 34 d.one.cs.toArray (0, 0) _ (by exact N7b.out) Tryd.underlying34 (by rfl) (by kernel_rfl) ?_) | (refine wpList_store_hid (by rfl) 34 (.tmp 2) (.tmp 27) (by rfl) w.heap.size 0 d.one.cs (by rfl) (by rfl) (by exact TB.out) (by kernel_rfl) (by simp [Value.oneCell', Cl.cs]) ?_))
          intro wc ec
          have Bc := hide (show wc.heap[w.heap.size]? = some (.cells (ones c (k + 1)).cs.toArray 34 (0, 0)) by rw [ec.out, HD.out]; exact whole_heap d.one.cs (xs := d.cs) Bb.out rfl)
          have Rc := hide (show wc.heap[w.heap.size + 1]? = some (.cells zCl.cs.toArray 34 (0, 0)) by rw [ec.out]; exact other_heap (by omega) _ _ _ Rb.out)
          have Qc := hide (show Below w.heap.size w wc by rw [ec.out]; exact Qb.out.trans (below_setCells _ _ _ (Nat.le_refl _)))
          clear ec TB N7b Bb Rb Qb
          go_wp2_with fail
          go_roundw
          case rel => exact ⟨k + 1, by omega, by go_num, Bc, Rc, Qc⟩
          case measure => simp [intOf]; omega
      · refine wpOp_do rfl rfl ?_
        go_simp
        have q : Below wd.heap.size wd (wd.alloc (.cells (evL 0 zFr 0).toArray 45)) := (Below.refl _ _).alloc (Nat.le_refl _) _
        have N8 := hide (World.alloc_heap_new wd (.cells (evL 0 zFr 0).toArray 45))
        have z8 : w.heap.size + 1 < wd.heap.size := heap_lt R.out
        replace B := hide (heap_below B.out q)
        replace R := hide (heap_below R.out q)
        replace Q := hide (below_next Q.out Q.out.size q)
        clear q
        refine ⟨keepsL_mk (by kernel_rfl) (.cons B.out .nil), ?_⟩
        change wpAnyL _ _ _ _ _ _ _ _ _ (wd.alloc (.cells (evL 0 zFr 0).toArray 45))
        generalize wd.alloc (.cells (evL 0 zFr 0).toArray 45) = wdc at *
        generalize wd.heap.size = x8 at *
        go_simp
        refine wpAnyL_two (i := 4) (k := 9) (by kernel_rfl) ?_ ?_
        · refine wpOp_do rfl rfl ?_
          go_simp
          (with_reducible refine (SA.out _ Q.out).mono ?_)
          rintro e2 wdca ⟨rfl, q⟩
          replace B := hide (heap_below B.out q)
          replace R := hide (heap_below R.out q)
          replace N8 := hide (heap_below N8.out q)
          replace Q := hide (below_next Q.out Q.out.size q)
          clear q
          go_simp
          refine ⟨keepsL_all (by kernel_rfl) (by kernel_rfl), ?_⟩
          go_simp
          refine wpAnyL_pure (i := 5) (v := .tuple #[.agg d.one.cs.toArray, .agg (evL 0 zFr 0).toArray, .int .i64 0]) rfl rfl (by kernel_rfl) (by kernel_rfl) (by kernel_rfl) (by kernel_rfl) (by kernel_rfl) (fun _ _ _ h => h) rfl (fun W => by go_simp) ?_
          go_simp
          refine wpAnyL_pure (i := 6) (v := .agg d.one.cs.toArray) rfl rfl (by kernel_rfl) (by kernel_rfl) (by kernel_rfl) (by kernel_rfl) (by kernel_rfl) (fun _ _ _ h => h) rfl (fun W => by go_simp) ?_
          go_simp
          refine wpAnyL_pure (i := 7) (v := .agg (evL 0 zFr 0).toArray) rfl rfl (by kernel_rfl) (by kernel_rfl) (by kernel_rfl) (by kernel_rfl) (by kernel_rfl) (fun _ _ _ h => h) rfl (fun W => by go_simp) ?_
          go_simp
          refine wpAnyL_pure (i := 8) (v := .int .i64 0) rfl rfl (by kernel_rfl) (by kernel_rfl) (by kernel_rfl) (by kernel_rfl) (by kernel_rfl) (fun _ _ _ h => h) rfl (fun W => by go_simp) ?_
          go_simp
          refine wpAnyL_one (i := 9) (by kernel_rfl) ?_
          refine wpOp_do rfl rfl ?_
          go_simp
          have q : Below wdca.heap.size wdca (wdca.alloc (.cells zCl.cs.toArray 34)) := (Below.refl _ _).alloc (Nat.le_refl _) _
          have N7 := hide (World.alloc_heap_new wdca (.cells zCl.cs.toArray 34))
          have z7 : w.heap.size + 1 < wdca.heap.size := heap_lt R.out
          have z78 : x8 < wdca.heap.size := heap_lt N8.out
          replace B := hide (heap_below B.out q)
          replace R := hide (heap_below R.out q)
          replace N8 := hide (heap_below N8.out q)
          replace Q := hide (below_next Q.out Q.out.size q)
          clear q
          refine ⟨keepsL_mk (by kernel_rfl) (.cons B.out .nil), ?_⟩
          change wpAnyL _ _ _ _ _ _ _ _ _ (wdca.alloc (.cells zCl.cs.toArray 34))
          generalize wdca.alloc (.cells zCl.cs.toArray 34) = wdcab at *
          generalize wdca.heap.size = x7 at *
          go_simp
          have T7 := hide (show wdcab.there x7 0 23 from there_heap (cs := zCl.cs) N7.out)
          refine wpAnyL_one (i := 11) (by kernel_rfl) ?_
          refine wpOp_do rfl rfl ?_
          refine wp_store_as 34 (.tmp 7) (.tmp 21) rfl x7 0 d.one.cs (by rfl) (by rfl) (by exact T7.out) (by kernel_rfl) (by simp [Value.oneCell', Cl.cs]) ?_
          intro wa ea
          have N7a := hide (show wa.heap[x7]? = some (.cells d.one.cs.toArray 34 (0, 0)) by rw [ea]; exact whole_heap d.one.cs (xs := zCl.cs) N7.out rfl)
          have N8a := hide (show wa.heap[x8]? = some (.cells (evL 0 zFr 0).toArray 45 (0, 0)) by rw [ea]; exact other_heap (by omega) _ _ _ N8.out)
          have Ba := hide (show wa.heap[w.heap.size]? = some (.cells d.cs.toArray 34 (0, 0)) by rw [ea]; exact other_heap (by omega) _ _ _ B.out)
          have Ra := hide (show wa.heap[w.heap.size + 1]? = some (.cells zCl.cs.toArray 34 (0, 0)) by rw [ea]; exact other_heap (by omega) _ _ _ R.out)
          have Qa := hide (show Below w.heap.size w wa by rw [ea]; exact Q.out.trans (below_setCells _ _ _ (by omega)))
          clear ea T7 N7 N8 B R Q
          refine ⟨keepsL_all (by kernel_rfl) (by kernel_rfl), ?_⟩
          go_simp
          have T8 := hide (show wa.there x8 0 7 from there_heap (cs := evL 0 zFr 0) N8a.out)
          refine wpAnyL_one (i := 12) (by kernel_rfl) ?_
          refine wpOp_do rfl rfl ?_
          refine wp_store_as 45 (.tmp 8) (.tmp 22) rfl x8 0 (evL 0 zFr 0) (by rfl) (by rfl) (by exact T8.out) (by kernel_rfl) (by simp [Value.oneCell', evL]) ?_
          intro wb eb
          have N7b := hide (show wb.heap[x7]? = some (.cells d.one.cs.toArray 34 (0, 0)) by rw [eb]; exact other_heap (by omega) _ _ _ N7a.out)
          have Bb := hide (show wb.heap[w.heap.size]? = some (.cells d.cs.toArray 34 (0, 0)) by rw [eb]; exact other_heap (by omega) _ _ _ Ba.out)
          have Rb := hide (show wb.heap[w.heap.size + 1]? = some (.cells zCl.cs.toArray 34 (0, 0)) by rw [eb]; exact other_heap (by omega) _ _ _ Ra.out)
          have Qb := hide (show Below w.heap.size w wb by rw [eb]; exact Qa.out.trans (below_setCells _ _ _ (by omega)))
          clear eb T8 N7a N8a Ba Ra Qa
          refine ⟨keepsL_all (by kernel_rfl) (by kernel_rfl), ?_⟩
          go_simp
          refine wpAnyL_one (i := 13) (by kernel_rfl) ?_
          refine wpOp_do rfl rfl ?_
          go_simp
          refine ⟨keepsL_all (by kernel_rfl) (by kernel_rfl), ?_⟩
          go_simp
          refine wpAnyL_done (by kernel_rfl) ?_ _
          have TB := hide (show wb.there w.heap.size 0 23 from there_heap (cs := d.cs) Bb.out)
          go_wp2_with (first | (refine wpList_load_row rfl 34 (.tmp 7) (by rfl) x7 (by rfl) 34 d.one.cs.toArray (0, 0) _ (by exact N7b.out) Tryd.underlying34 (by rfl) (by kernel_rfl) ?_) | (refine wpList_store_hid (by rfl) 34 (.tmp 2) (.tmp 27) (by rfl) w.heap.size 0 d.one.cs (by rfl) (by rfl) (by exact TB.out) (by kernel_rfl) (by simp [Value.oneCell', Cl.cs]) ?_))
          intro wc ec
          have Bc := hide (show wc.heap[w.heap.size]? = some (.cells (ones c (k + 1)).cs.toArray 34 (0, 0)) by rw [ec.out, HD.out]; exact whole_heap d.one.cs (xs := d.cs) Bb.out rfl)
          have Rc := hide (show wc.heap[w.heap.size + 1]? = some (.cells zCl.cs.toArray 34 (0, 0)) by rw [ec.out]; exact other_heap (by omega) _ _ _ Rb.out)
          have Qc := hide (show Below w.heap.size w wc by rw [ec.out]; exact Qb.out.trans (below_setCells _ _ _ (Nat.le_refl _)))
          clear ec TB N7b Bb Rb Qb
          go_wp2_with fail
          go_roundw
          case rel => exact ⟨k + 1, by omega, by go_num, Bc, Rc, Qc⟩
          case measure => simp [intOf]; omega
        · refine wpOp_do rfl rfl ?_
          go_simp
          have q : Below wdc.heap.size wdc (wdc.alloc (.cells zCl.cs.toArray 34)) := (Below.refl _ _).alloc (Nat.le_refl _) _
          have N7 := hide (World.alloc_heap_new wdc (.cells zCl.cs.toArray 34))
          have z7 : w.heap.size + 1 < wdc.heap.size := heap_lt R.out
          have z78 : x8 < wdc.heap.size := heap_lt N8.out
          replace B := hide (heap_below B.out q)
          replace R := hide (heap_below R.out q)
          replace N8 := hide (heap_below N8.out q)
          replace Q := hide (below_next Q.out Q.out.size q)
          clear q
          refine ⟨keepsL_mk (by kernel_rfl) (.cons B.out .nil), ?_⟩
          change wpAnyL _ _ _ _ _ _ _ _ _ (wdc.alloc (.cells zCl.cs.toArray 34))
          generalize wdc.alloc (.cells zCl.cs.toArray 34) = wdcb at *
          generalize wdc.heap.size = x7 at *
          go_simp
          refine wpAnyL_one (i := 4) (by kernel_rfl) ?_
          refine wpOp_do rfl rfl ?_
          go_simp
          (with_reducible refine (SA.out _ Q.out).mono ?_)
          rintro e3 wdcba ⟨rfl, q⟩
          replace B := hide (heap_below B.out q)
          replace R := hide (heap_below R.out q)
          replace N7 := hide (heap_below N7.out q)
          replace N8 := hide (heap_below N8.out q)
          replace Q := hide (below_next Q.out Q.out.size q)
          clear q
          go_simp
          refine ⟨keepsL_all (by kernel_rfl) (by kernel_rfl), ?_⟩
          go_simp
          refine wpAnyL_pure (i := 5) (v := .tuple #[.agg d.one.cs.toArray, .agg (evL 0 zFr 0).toArray, .int .i64 0]) rfl rfl (by kernel_rfl) (by kernel_rfl) (by kernel_rfl) (by kernel_rfl) (by kernel_rfl) (fun _ _ _ h => h) rfl (fun W => by go_simp) ?_
          go_simp
          refine wpAnyL_pure (i := 6) (v := .agg d.one.cs.toArray) rfl rfl (by kernel_rfl) (by kernel_rfl) (by kernel_rfl) (by kernel_rfl) (by kernel_rfl) (fun _ _ _ h => h) rfl (fun W => by go_simp) ?_
          go_simp
          refine wpAnyL_pure (i := 7) (v := .agg (evL 0 zFr 0).toArray) rfl rfl (by kernel_rfl) (by kernel_rfl) (by kernel_rfl) (by kernel_rfl) (by kernel_rfl) (fun _ _ _ h => h) rfl (fun W => by go_simp) ?_
          go_simp
          refine wpAnyL_pure (i := 8) (v := .int .i64 0) rfl rfl (by kernel_rfl) (by kernel_rfl) (by kernel_rfl) (by kernel_rfl) (by kernel_rfl) (fun _ _ _ h => h) rfl (fun W => by go_simp) ?_
          go_simp
          have T7 := hide (show wdcba.there x7 0 23 from there_heap (cs := zCl.cs) N7.out)
          refine wpAnyL_one (i := 11) (by kernel_rfl) ?_
          refine wpOp_do rfl rfl ?_
          refine wp_store_as 34 (.tmp 7) (.tmp 21) rfl x7 0 d.one.cs (by rfl) (by rfl) (by exact T7.out) (by kernel_rfl) (by simp [Value.oneCell', Cl.cs]) ?_
          intro wa ea
          have N7a := hide (show wa.heap[x7]? = some (.cells d.one.cs.toArray 34 (0, 0)) by rw [ea]; exact whole_heap d.one.cs (xs := zCl.cs) N7.out rfl)
          have N8a := hide (show wa.heap[x8]? = some (.cells (evL 0 zFr 0).toArray 45 (0, 0)) by rw [ea]; exact other_heap (by omega) _ _ _ N8.out)
          have Ba := hide (show wa.heap[w.heap.size]? = some (.cells d.cs.toArray 34 (0, 0)) by rw [ea]; exact other_heap (by omega) _ _ _ B.out)
          have Ra := hide (show wa.heap[w.heap.size + 1]? = some (.cells zCl.cs.toArray 34 (0, 0)) by rw [ea]; exact other_heap (by omega) _ _ _ R.out)
          have Qa := hide (show Below w.heap.size w wa by rw [ea]; exact Q.out.trans (below_setCells _ _ _ (by omega)))
          clear ea T7 N7 N8 B R Q
          refine ⟨keepsL_all (by kernel_rfl) (by kernel_rfl), ?_⟩
          go_simp
          have T8 := hide (show wa.there x8 0 7 from there_heap (cs := evL 0 zFr 0) N8a.out)
          refine wpAnyL_one (i := 12) (by kernel_rfl) ?_
          refine wpOp_do rfl rfl ?_
          refine wp_store_as 45 (.tmp 8) (.tmp 22) rfl x8 0 (evL 0 zFr 0) (by rfl) (by rfl) (by exact T8.out) (by kernel_rfl) (by simp [Value.oneCell', evL]) ?_
          intro wb eb
          have N7b := hide (show wb.heap[x7]? = some (.cells d.one.cs.toArray 34 (0, 0)) by rw [eb]; exact other_heap (by omega) _ _ _ N7a.out)
          have Bb := hide (show wb.heap[w.heap.size]? = some (.cells d.cs.toArray 34 (0, 0)) by rw [eb]; exact other_heap (by omega) _ _ _ Ba.out)
          have Rb := hide (show wb.heap[w.heap.size + 1]? = some (.cells zCl.cs.toArray 34 (0, 0)) by rw [eb]; exact other_heap (by omega) _ _ _ Ra.out)
          have Qb := hide (show Below w.heap.size w wb by rw [eb]; exact Qa.out.trans (below_setCells _ _ _ (by omega)))
          clear eb T8 N7a N8a Ba Ra Qa
          refine ⟨keepsL_all (by kernel_rfl) (by kernel_rfl), ?_⟩
          go_simp
          refine wpAnyL_one (i := 13) (by kernel_rfl) ?_
          refine wpOp_do rfl rfl ?_
          go_simp
          refine ⟨keepsL_all (by kernel_rfl) (by kernel_rfl), ?_⟩
          go_simp
          refine wpAnyL_done (by kernel_rfl) ?_ _
          have TB := hide (show wb.there w.heap.size 0 23 from there_heap (cs := d.cs) Bb.out)
          go_wp2_with (first | (refine wpList_load_row rfl 34 (.tmp 7) (by rfl) x7 (by rfl) 34 d.one.cs.toArray (0, 0) _ (by exact N7b.out) Tryd.underlying34 (by rfl) (by kernel_rfl) ?_) | (refine wpList_store_hid (by rfl) 34 (.tmp 2) (.tmp 27) (by rfl) w.heap.size 0 d.one.cs (by rfl) (by rfl) (by exact TB.out) (by kernel_rfl) (by simp [Value.oneCell', Cl.cs]) ?_))
          intro wc ec
          have Bc := hide (show wc.heap[w.heap.size]? = some (.cells (ones c (k + 1)).cs.toArray 34 (0, 0)) by rw [ec.out, HD.out]; exact whole_heap d.one.cs (xs := d.cs) Bb.out rfl)
          have Rc := hide (show wc.heap[w.heap.size + 1]? = some (.cells zCl.cs.toArray 34 (0, 0)) by rw [ec.out]; exact other_heap (by omega) _ _ _ Rb.out)
          have Qc := hide (show Below w.heap.size w wc by rw [ec.out]; exact Qb.out.trans (below_setCells _ _ _ (Nat.le_refl _)))
          clear ec TB N7b Bb Rb Qb
          go_wp2_with fail
          go_roundw
          case rel => exact ⟨k + 1, by omega, by go_num, Bc, Rc, Qc⟩
          case measure => simp [intOf]; omega
    · obtain rfl : k = s.size := by omega
      obtain ⟨d, hd⟩ : ∃ d, d = ones c s.size := ⟨_, rfl⟩
      rw [← hd] at B
      have HD := hide hd
      clear hd
      have TR := hide (show wr.there (w.heap.size + 1) 0 23 from there_heap (cs := zCl.cs) R.out)
      go_wp2_with (first | (refine wpList_load_row rfl 34 (.tmp 2) (by rfl) w.heap.size (by rfl) 34 d.cs.toArray (0, 0) _ (by exact B.out) Tryd.underlying34 (by rfl) (by kernel_rfl) ?_) | (refine wpList_store_hid (by rfl) 34 (.tmp 4) (.tmp 29) (by rfl) (w.heap.size + 1) 0 d.cs (by rfl) (by rfl) (by exact TR.out) (by kernel_rfl) (by simp [Value.oneCell', Cl.cs]) ?_))
      intro wa ea
      have R6 := hide (show wa.heap[w.heap.size + 1]? = some (.cells d.cs.toArray 34 (0, 0)) by rw [ea.out]; exact whole_heap d.cs (xs := zCl.cs) R.out rfl)
      have Q6 := hide (show Below w.heap.size w wa by rw [ea.out]; exact Q.out.trans (below_setCells _ _ _ (by omega)))
      clear ea TR B R Q
      go_wp2_with fail
      refine bodyPost_ret (results_cell_tmp (by rfl) _ wa (w.heap.size + 1) 34 d.cs.toArray (0, 0) _ (.bool true) (by rfl) (by rfl) R6.out Tryd.underlying34 (by rfl) (by kernel_rfl)) rfl ⟨by rw [HD.out], Q6.out⟩
end Go.Proofs.YtjfgapljfbkfiaaDoor
