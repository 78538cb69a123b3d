/- The walk of bus.step with nothing turned. -/
import Derived.Test.YthkilodnghiocaaGreatDoorMgOff
import Derived.Test.YthkilodnghiocaaGreatDoorMgBuS
namespace Go.Proofs.YthkilodnghiocaaGreatDoor
open Go.ChangeShapes Go.WideShapes Go.ChangeAt Go.RowKit
open FP (Fr)

/-- A row lies behind N, if anywhere. -/
def evRows (l : List Mc) : List (List Value) := l.map evcs
theorem evRows_len (l : List Mc) : (evRows l).length = l.length := by simp [evRows]
theorem evRows_rows (l : List Mc) : ∀ r ∈ evRows l, r.length = 7 := fun r hr => by
  unfold evRows at hr
  obtain ⟨c, _, rfl⟩ := List.mem_map.1 hr
  rfl
def clRows (l : List Cl) : List (List Value) := l.map Cl.cs
theorem clRows_len (l : List Cl) : (clRows l).length = l.length := by simp [clRows]
theorem stp_take (l : List Cl) {k : Nat} (hk : k < l.length) : clRows ((stpB l).take (k + 1)) = clRows ((stpB l).take k) ++ [(l[k].samp (lvlB l)).c.cs] := by
  have h : k < (stpB l).length := by rw [stp_len]; exact hk
  rw [List.take_succ_eq_append_getElem h]
  unfold clRows stpB evB
  rw [List.map_append]
  simp
theorem ev_take (l : List Cl) {k : Nat} (hk : k < l.length) : evRows ((evB l).take (k + 1)) = evRows ((evB l).take k) ++ [evL (l[k].samp (lvlB l)).kind (l[k].samp (lvlB l)).ef (l[k].samp (lvlB l)).bad] := by
  have h : k < (evB l).length := by unfold evB; rw [List.length_map]; exact hk
  have e : (evB l)[k] = l[k].samp (lvlB l) := List.getElem_map ..
  rw [List.take_succ_eq_append_getElem h, e]
  unfold evRows
  rw [List.map_append]
  rfl

set_option maxRecDepth 100000 in
set_option maxHeartbeats 32000000 in
theorem busStep_in (l : List Cl) (A : Option Addr) (c : Nat) (now : Int) (w : World) (hr : ClR w w.heap.size A l) (h1 : 1 ≤ l.length) (h4 : l.length ≤ 4) (hn0 : 0 ≤ now) (hn1 : now < 1099511627776) (hok : AllOk l) :
    Calls Tryz.prog 22 #[.agg (busL A l.length c now).toArray, .slice none 0 0] w fun e w' => ∃ A' c' E ec, e = .returned (.tuple #[.agg (busL A' l.length c' (now + 1)).toArray, .slice E l.length ec]) ∧ Own w' w.heap.size 73 23 A' c' (clRows (stpB l)) ∧ Own w' w.heap.size 50 7 E ec (evRows (evB l)) ∧ Below w.heap.size w w' := by
  obtain ⟨w0, hw0⟩ : ∃ w0, w0 = (w.alloc (.cells (busL A l.length c now).toArray 37)).alloc (.cells (busL none 0 0 0).toArray 37) := ⟨_, rfl⟩
  have step : ∀ (W : World) (o : Obj), Below W.heap.size W (W.alloc o) := fun W o => (Below.refl _ _).alloc (Nat.le_refl _) _
  have B := hide (heap_below (World.alloc_heap_new w (.cells (busL A l.length c now).toArray 37)) (step _ (.cells (busL none 0 0 0).toArray 37)))
  have R := hide (World.alloc_heap_new (w.alloc (.cells (busL A l.length c now).toArray 37)) (.cells (busL none 0 0 0).toArray 37))
  have Q : Hid (Below w.heap.size w w0) := by rw [hw0]; exact hide ((step _ _).alloc (by simp) _)
  rw [← hw0] at B R
  simp only [World.size_alloc] at R
  have HR := hide hr
  have HOK := hide hok
  have LV := hide (fun W (q : Below w.heap.size w W) => busLevel_in l A c now W (hr.next q q.size) h1 h4 hok)
  have HLB := hide (lvl_bit l)
  have HTC := hide (fun k (hk : k < l.length) => stp_take l hk)
  have HTE := hide (fun k (hk : k < l.length) => ev_take l hk)
  have HFC := hide (show clRows ((stpB l).take l.length) = clRows (stpB l) by rw [List.take_of_length_le (by rw [stp_len]; exact Nat.le_refl _)])
  have HFE := hide (show evRows ((evB l).take l.length) = evRows (evB l) by rw [List.take_of_length_le (by unfold evB; rw [List.length_map]; exact Nat.le_refl _)])
  have HLC := hide (fun k (hk : k ≤ l.length) => show (clRows ((stpB l).take k)).length = k by rw [clRows_len, List.length_take, stp_len]; omega)
  have HLE := hide (fun k (hk : k ≤ l.length) => show (evRows ((evB l).take k)).length = k by rw [evRows_len, List.length_take]; unfold evB; rw [List.length_map]; omega)
  generalize lvlB l = bl at *
  clear hr hok step
  go_enter Tryz.func22, Tryz.ntmps22
  go_upto_region 1 with fail
  change Code.wp _ _ _ _ ((w.alloc (.cells (busL A l.length c now).toArray 37)).alloc (.cells (busL none 0 0 0).toArray 37))
  rw [← hw0]
  clear hw0
  have L1 := hide (LV.out w0 Q.out)
  clear LV
  go_wp2_with (refine wpList_load_row rfl 37 (.tmp 2) (by rfl) w.heap.size (by rfl) 37 (busL A l.length c now).toArray (0, 0) _ (by exact B.out) Tryz.underlying37 (by rfl) (by kernel_rfl) ?_)
  (with_reducible refine (L1.out).mono ?_)
  rintro ew1' w1' ⟨rfl, qw1'⟩
  replace B := hide (heap_below B.out qw1')
  replace R := hide (heap_below R.out qw1')
  replace Q := hide (below_next Q.out Q.out.size qw1')
  clear qw1'
  clear L1
  obtain ⟨b0, b1⟩ := bus_cells B.out
  go_wp2_with fail
  clear b0 b1
  go_loopw [20, 7, 8] (fun vi v7 v8 W => ∃ (k : Nat) (A7 : Option Addr) (c7 : Nat) (A8 : Option Addr) (c8 : Nat), k ≤ l.length ∧ vi = .int .i64 k ∧ v7 = .slice A7 k c7 ∧ v8 = .slice A8 k c8 ∧ Hid (Own W (w.heap.size + 2) 73 23 A7 c7 (clRows ((stpB l).take k))) ∧ Hid (Own W (w.heap.size + 2) 50 7 A8 c8 (evRows ((evB l).take k))) ∧ Hid (W.heap[w.heap.size]? = some (.cells (busL A l.length c now).toArray 37 (0, 0))) ∧ Hid (W.heap[w.heap.size + 1]? = some (.cells (busL none 0 0 0).toArray 37 (0, 0))) ∧ Hid (Below w.heap.size w W)) (fun vi _ _ _ => l.length - (intOf vi).toNat)
  case atStart => exact ⟨0, none, 0, none, 0, Nat.zero_le _, rfl, rfl, rfl, hide Own.nil, hide Own.nil, B, R, Q⟩
  case round =>
    clear B R Q
    obtain ⟨k, A7, c7, A8, c8, hk, rfl, rfl, rfl, O7, O8, B, R, Q⟩ := hrel
    by_cases hlt : k < l.length
    · have hki : (k : Int) < (l.length : Int) := by omega
      have hk0 : ¬ (k : Int) < 0 := by omega
      obtain ⟨g, off, hA, hg, hra⟩ := (HR.out.next Q.out Q.out.size).at_ hlt
      have PA := hide hra
      have SA := hide (fun W => ctlSample_ok l[k] bl HLB.out W (HOK.out _ (List.getElem_mem hlt)))
      have TC := hide (HTC.out k hlt)
      have TE := hide (HTE.out k hlt)
      have LC := hide (HLC.out k (by omega))
      have LE := hide (HLE.out k (by omega))
      generalize l[k] = d at *
      generalize d.samp bl = M at *
      obtain ⟨d2, kd, ef, bd⟩ := M
      dsimp only at SA
      generalize clRows ((stpB l).take k) = r7 at *
      generalize evRows ((evB l).take k) = r8 at *
      clear hra hg
      subst hA
      have X := World.alloc_heap_new wr (.cells zCl.cs.toArray 73)
      have zBx : w.heap.size < wr.heap.size := heap_lt B.out
      have zRx : w.heap.size + 1 < wr.heap.size := heap_lt R.out
      have zQx : w.heap.size ≤ wr.heap.size := Q.out.size
      obtain ⟨w3', hw3'⟩ : ∃ wx, wx = wr.alloc (.cells zCl.cs.toArray 73) := ⟨_, rfl⟩
      have q2' := hide (show Below wr.heap.size wr w3' by rw [hw3']; exact (Below.refl _ _).alloc (Nat.le_refl _) _)
      rw [← hw3'] at X
      replace X := hide X
      have Tw4' := hide (show (wr.alloc (.cells zCl.cs.toArray 73)).there wr.heap.size 0 23 by rw [← hw3']; exact there_heap (cs := zCl.cs) X.out)
      go_wp2_with (first | (refine wpList_load_mid rfl 73 (.tmp 23) (by rfl) g (off + k * 23) (by rfl) d.cs _ (by exact PA.out) Tryz.underlying73 (by rfl) (by kernel_rfl) ?_) | (refine wpList_store_hid (by rfl) 73 (.tmp 10) (.tmp 24) (by rfl) wr.heap.size 0 d.cs (by rfl) (by rfl) (by exact Tw4'.out) (by kernel_rfl) (by simp [Value.oneCell', Cl.cs]) ?_))
      intro w4' ew4'
      replace ew4' : Hid (w4' = w3'.setCells wr.heap.size 0 d.cs) := by rw [hw3']; exact ew4'
      replace X := hide (show w4'.heap[wr.heap.size]? = some (.cells d.cs.toArray 73 (0, 0)) by rw [ew4'.out]; exact whole_heap d.cs (xs := zCl.cs) X.out rfl)
      replace q2' := hide (show Below wr.heap.size wr w4' by rw [ew4'.out]; exact q2'.out.trans (below_setCells _ _ _ (by omega)))
      clear ew4' Tw4' hw3'
      replace B := hide (heap_below B.out q2'.out)
      replace R := hide (heap_below R.out q2'.out)
      replace O7 := hide (O7.out.grown q2'.out)
      replace O8 := hide (O8.out.grown q2'.out)
      replace Q := hide (below_next Q.out Q.out.size q2'.out)
      clear q2'
      generalize wr.heap.size = x at *
      go_wp2_with (refine wpList_load_row rfl 73 (.tmp 10) (by rfl) x (by rfl) 73 d.cs.toArray (0, 0) _ (by exact X.out) Tryz.underlying73 (by rfl) (by kernel_rfl) ?_)
      (with_reducible refine (SA.out _).mono ?_)
      rintro ew5' w5' ⟨rfl, qw5'⟩
      replace B := hide (heap_below B.out qw5')
      replace R := hide (heap_below R.out qw5')
      replace X := hide (heap_below X.out qw5')
      replace O7 := hide (O7.out.grown qw5')
      replace O8 := hide (O8.out.grown qw5')
      replace Q := hide (below_next Q.out Q.out.size qw5')
      clear qw5'
      clear SA
      have zY := hide (fun n => own_ne (n := n) O7.out (Nat.le_refl _))
      have Y := heap_below (World.alloc_heap_new w5' (.cells zCl.cs.toArray 73)) ((Below.refl _ _).alloc (Nat.le_refl _) (.cells ((evL 0 zFr 0)).toArray 50))
      have V := World.alloc_heap_new (w5'.alloc (.cells zCl.cs.toArray 73)) (.cells ((evL 0 zFr 0)).toArray 50)
      simp only [World.size_alloc] at V
      have zBy : w.heap.size < w5'.heap.size := heap_lt B.out
      have zRy : w.heap.size + 1 < w5'.heap.size := heap_lt R.out
      have zXy : x < w5'.heap.size := heap_lt X.out
      have zQy : w.heap.size ≤ w5'.heap.size := Q.out.size
      obtain ⟨w7', hw7'⟩ : ∃ wx, wx = (w5'.alloc (.cells zCl.cs.toArray 73)).alloc (.cells ((evL 0 zFr 0)).toArray 50) := ⟨_, rfl⟩
      have q6' := hide (show Below w5'.heap.size w5' w7' by rw [hw7']; exact ((Below.refl _ _).alloc (Nat.le_refl _) _).alloc (by simp) _)
      rw [← hw7'] at Y V
      replace Y := hide Y
      replace V := hide V
      have Tw8' := hide (show ((w5'.alloc (.cells zCl.cs.toArray 73)).alloc (.cells ((evL 0 zFr 0)).toArray 50)).there w5'.heap.size 0 23 by rw [← hw7']; exact there_heap (cs := zCl.cs) Y.out)
      go_wp2_with (refine wpList_store_hid (by rfl) 73 (.tmp 12) (.tmp 42) (by rfl) w5'.heap.size 0 d2.cs (by rfl) (by rfl) (by exact Tw8'.out) (by kernel_rfl) (by simp [Value.oneCell', Cl.cs]) ?_)
      intro w8' ew8'
      replace ew8' : Hid (w8' = w7'.setCells w5'.heap.size 0 d2.cs) := by rw [hw7']; exact ew8'
      replace V := hide (show w8'.heap[w5'.heap.size + 1]? = some (.cells ((evL 0 zFr 0)).toArray 50 (0, 0)) by rw [ew8'.out]; exact other_heap (by omega) _ _ _ V.out)
      replace Y := hide (show w8'.heap[w5'.heap.size]? = some (.cells d2.cs.toArray 73 (0, 0)) by rw [ew8'.out]; exact whole_heap d2.cs (xs := zCl.cs) Y.out rfl)
      replace q6' := hide (show Below w5'.heap.size w5' w8' by rw [ew8'.out]; exact q6'.out.trans (below_setCells _ _ _ (by omega)))
      clear ew8' Tw8' hw7'
      have Tw9' := hide (show w8'.there (w5'.heap.size + 1) 0 7 from there_heap (cs := (evL 0 zFr 0)) V.out)
      go_wp2_with (refine wpList_store_hid (by rfl) 50 (.tmp 13) (.tmp 43) (by rfl) (w5'.heap.size + 1) 0 (evL kd ef bd) (by rfl) (by rfl) (by exact Tw9'.out) (by kernel_rfl) (by simp [Value.oneCell', evL]) ?_)
      intro w9' ew9'
      replace Y := hide (show w9'.heap[w5'.heap.size]? = some (.cells d2.cs.toArray 73 (0, 0)) by rw [ew9'.out]; exact other_heap (by omega) _ _ _ Y.out)
      replace V := hide (show w9'.heap[w5'.heap.size + 1]? = some (.cells (evL kd ef bd).toArray 50 (0, 0)) by rw [ew9'.out]; exact whole_heap (evL kd ef bd) (xs := (evL 0 zFr 0)) V.out rfl)
      replace q6' := hide (show Below w5'.heap.size w5' w9' by rw [ew9'.out]; exact q6'.out.trans (below_setCells _ _ _ (by omega)))
      clear ew9' Tw9'
      replace B := hide (heap_below B.out q6'.out)
      replace R := hide (heap_below R.out q6'.out)
      replace X := hide (heap_below X.out q6'.out)
      replace O7 := hide (O7.out.grown q6'.out)
      replace O8 := hide (O8.out.grown q6'.out)
      replace Q := hide (below_next Q.out Q.out.size q6'.out)
      clear q6'
      generalize w5'.heap.size = y at *
      clear X PA
      go_upto_region 11 with fail
      refine wp_region_L [0, 1, 4, 5] [(1, fun W => W.heap[y]? = some (.cells d2.cs.toArray 73 (0, 0))), (5, fun W => W.heap[y + 1]? = some (.cells (evL kd ef bd).toArray 50 (0, 0)))] (by kernel_rfl) ?_
      replace B := hide (show w9'.drew.heap[w.heap.size]? = some (.cells (busL _ l.length c now).toArray 37 (0, 0)) from B.out)
      replace R := hide (show w9'.drew.heap[w.heap.size + 1]? = some (.cells (busL none 0 0 0).toArray 37 (0, 0)) from R.out)
      replace Y := hide (show w9'.drew.heap[y]? = some (.cells d2.cs.toArray 73 (0, 0)) from Y.out)
      replace V := hide (show w9'.drew.heap[y + 1]? = some (.cells (evL kd ef bd).toArray 50 (0, 0)) from V.out)
      replace O7 := hide (show Own w9'.drew (w.heap.size + 2) 73 23 A7 c7 r7 from O7.out)
      replace O8 := hide (show Own w9'.drew (w.heap.size + 2) 50 7 A8 c8 r8 from O8.out)
      replace Q := hide (show Below w.heap.size w w9'.drew from Q.out.drew)
      generalize w9'.drew = wd at *
      refine wpAnyL_pure (i := 0) (v := .slice A7 k c7) rfl rfl (by kernel_rfl) (by kernel_rfl) (by kernel_rfl) (by kernel_rfl) (by kernel_rfl) (fun _ _ _ h => h) rfl (fun W => by go_simp) ?_
      go_simp
      refine wpAnyL_load (i := 1) (v := .agg d2.cs.toArray) rfl rfl (by kernel_rfl) (by kernel_rfl) (by kernel_rfl) (by kernel_rfl) (by kernel_rfl) (fun _ _ _ h => h) rfl (fun W h => exec_heap W y 73 _ _ h Tryz.underlying73 rfl (by kernel_rfl) _ _ (.tmp 12) (by rfl) (by rfl)) (Y.out) ?_
      go_simp
      refine wpAnyL_pure (i := 4) (v := .slice A8 k c8) rfl rfl (by kernel_rfl) (by kernel_rfl) (by kernel_rfl) (by kernel_rfl) (by kernel_rfl) (fun _ _ _ h => h) rfl (fun W => by go_simp) ?_
      go_simp
      refine wpAnyL_load (i := 5) (v := .agg (evL kd ef bd).toArray) rfl rfl (by kernel_rfl) (by kernel_rfl) (by kernel_rfl) (by kernel_rfl) (by kernel_rfl) (fun _ _ _ h => h) rfl (fun W h => exec_heap W (y + 1) 50 _ _ h Tryz.underlying50 rfl (by kernel_rfl) _ _ (.tmp 13) (by rfl) (by rfl)) (V.out) ?_
      go_simp
      refine wpAnyL_two (i := 2) (k := 6) (by kernel_rfl) ?_ ?_
      · refine wpOp_do rfl rfl ?_
        go_simp
        have q : Below wd.heap.size wd (wd.alloc (.cells d2.cs.toArray 73)) := (Below.refl _ _).alloc (Nat.le_refl _) _
        have N2 := hide (World.alloc_heap_new wd (.cells d2.cs.toArray 73))
        replace B := hide (heap_below B.out q)
        replace R := hide (heap_below R.out q)
        replace Y := hide (heap_below Y.out q)
        replace V := hide (heap_below V.out q)
        replace O7 := hide (O7.out.grown q)
        replace O8 := hide (O8.out.grown q)
        replace Q := hide (below_next Q.out Q.out.size q)
        clear q
        rw [splat_any _ _ (by rfl)]
        refine ⟨keepsL_mk (by kernel_rfl) (.cons (by exact Y.out) (.cons (by exact V.out) .nil)), ?_⟩
        change wpAnyL _ _ _ _ _ _ _ _ _ (wd.alloc (.cells d2.cs.toArray 73))
        generalize wd.alloc (.cells d2.cs.toArray 73) = wt1 at *
        generalize wd.heap.size = x2 at *
        go_simp
        refine wpAnyL_two (i := 3) (k := 6) (by kernel_rfl) ?_ ?_
        · refine wpOp_do rfl rfl ?_
          have zr : w.heap.size + 1 < wt1.heap.size := heap_lt R.out
          refine wp_append_rows _ _ _ 35 rfl slCl (w.heap.size + 2) _ _ _ r7 (by rfl) O7.out _ 1 1 [d2.cs] (by rfl) (rd_row (cs := d2.cs) N2.out) (by simp [Cl.cs]) (by simp [Cl.cs, Value.oneCell']) (by rw [LC.out]; simp; omega) (by rw [LC.out]; unfold maxLen; simp; omega) (by omega) (by exact LC.out.symm) rfl ?_
          intro A7' c7' wt2 oN gN
          replace B := hide (heap_grownB B.out gN (own_not O7.out (by omega)))
          replace R := hide (heap_grownB R.out gN (own_not O7.out (by omega)))
          replace Y := hide (heap_grownB Y.out gN (zY.out _))
          replace V := hide (heap_grown V.out (by decide) O7.out gN)
          replace O8 := hide (own_apartT O8.out O7.out (by decide) gN)
          replace Q := hide (below_append Q.out gN O7.out (by omega) (by omega))
          replace O7 := hide oN
          clear oN gN N2 zr
          refine ⟨keepsL_mk (by kernel_rfl) (.cons Y.out (.cons V.out .nil)), ?_⟩
          go_simp
          refine wpAnyL_one (i := 6) (by kernel_rfl) ?_
          refine wpOp_do rfl rfl ?_
          go_simp
          have q : Below wt2.heap.size wt2 (wt2.alloc (.cells (evL kd ef bd).toArray 50)) := (Below.refl _ _).alloc (Nat.le_refl _) _
          have N6 := hide (World.alloc_heap_new wt2 (.cells (evL kd ef bd).toArray 50))
          replace B := hide (heap_below B.out q)
          replace R := hide (heap_below R.out q)
          replace Y := hide (heap_below Y.out q)
          replace V := hide (heap_below V.out q)
          replace O7 := hide (O7.out.grown q)
          replace O8 := hide (O8.out.grown q)
          replace Q := hide (below_next Q.out Q.out.size q)
          clear q
          rw [splat_any _ _ (by rfl)]
          refine ⟨keepsL_mk (by kernel_rfl) (.cons (by exact Y.out) (.cons (by exact V.out) .nil)), ?_⟩
          change wpAnyL _ _ _ _ _ _ _ _ _ (wt2.alloc (.cells (evL kd ef bd).toArray 50))
          generalize wt2.alloc (.cells (evL kd ef bd).toArray 50) = wt3 at *
          generalize wt2.heap.size = x6 at *
          go_simp
          refine wpAnyL_one (i := 7) (by kernel_rfl) ?_
          refine wpOp_do rfl rfl ?_
          have zr : w.heap.size + 1 < wt3.heap.size := heap_lt R.out
          refine wp_append_rows _ _ _ 77 rfl slEv (w.heap.size + 2) _ _ _ r8 (by rfl) O8.out _ 1 1 [(evL kd ef bd)] (by rfl) (rd_row (cs := (evL kd ef bd)) N6.out) (by simp [evL]) (by simp [evL, Value.oneCell']) (by rw [LE.out]; simp; omega) (by rw [LE.out]; unfold maxLen; simp; omega) (by omega) (by exact LE.out.symm) rfl ?_
          intro A8' c8' wt4 oN gN
          clear Y V
          replace B := hide (heap_grownB B.out gN (own_not O8.out (by omega)))
          replace R := hide (heap_grownB R.out gN (own_not O8.out (by omega)))
          replace O7 := hide (own_apartT O7.out O8.out (by decide) gN)
          replace Q := hide (below_append Q.out gN O8.out (by omega) (by omega))
          replace O8 := hide oN
          clear oN gN N6 zr
          refine ⟨keepsL_all (by kernel_rfl) (by kernel_rfl), ?_⟩
          go_simp
          refine wpAnyL_one (i := 8) (by kernel_rfl) ?_
          refine wpOp_do rfl rfl ?_
          go_simp
          refine ⟨keepsL_all (by kernel_rfl) (by kernel_rfl), ?_⟩
          go_simp
          refine wpAnyL_one (i := 9) (by kernel_rfl) ?_
          refine wpOp_do rfl rfl ?_
          go_simp
          refine ⟨keepsL_all (by kernel_rfl) (by kernel_rfl), ?_⟩
          go_simp
          refine wpAnyL_done (by kernel_rfl) ?_ _
          rw [← TC.out] at O7
          rw [← TE.out] at O8
          go_wp2_with fail
          go_roundw
          case rel => exact ⟨k + 1, _, _, _, _, by omega, by go_num, by first | rfl | (congr 1), by first | rfl | (congr 1), O7, O8, B, R, Q⟩
          case measure => simp [intOf]; omega
        · refine wpOp_do rfl rfl ?_
          go_simp
          have q : Below wt1.heap.size wt1 (wt1.alloc (.cells (evL kd ef bd).toArray 50)) := (Below.refl _ _).alloc (Nat.le_refl _) _
          have N6 := hide (World.alloc_heap_new wt1 (.cells (evL kd ef bd).toArray 50))
          replace B := hide (heap_below B.out q)
          replace R := hide (heap_below R.out q)
          replace Y := hide (heap_below Y.out q)
          replace V := hide (heap_below V.out q)
          replace N2 := hide (heap_below N2.out q)
          replace O7 := hide (O7.out.grown q)
          replace O8 := hide (O8.out.grown q)
          replace Q := hide (below_next Q.out Q.out.size q)
          clear q
          rw [splat_any _ _ (by rfl)]
          refine ⟨keepsL_mk (by kernel_rfl) (.cons (by exact Y.out) (.cons (by exact V.out) .nil)), ?_⟩
          change wpAnyL _ _ _ _ _ _ _ _ _ (wt1.alloc (.cells (evL kd ef bd).toArray 50))
          generalize wt1.alloc (.cells (evL kd ef bd).toArray 50) = wt5 at *
          generalize wt1.heap.size = x6 at *
          go_simp
          refine wpAnyL_one (i := 3) (by kernel_rfl) ?_
          refine wpOp_do rfl rfl ?_
          have zr : w.heap.size + 1 < wt5.heap.size := heap_lt R.out
          refine wp_append_rows _ _ _ 35 rfl slCl (w.heap.size + 2) _ _ _ r7 (by rfl) O7.out _ 1 1 [d2.cs] (by rfl) (rd_row (cs := d2.cs) N2.out) (by simp [Cl.cs]) (by simp [Cl.cs, Value.oneCell']) (by rw [LC.out]; simp; omega) (by rw [LC.out]; unfold maxLen; simp; omega) (by omega) (by exact LC.out.symm) rfl ?_
          intro A7' c7' wt6 oN gN
          replace B := hide (heap_grownB B.out gN (own_not O7.out (by omega)))
          replace R := hide (heap_grownB R.out gN (own_not O7.out (by omega)))
          replace Y := hide (heap_grownB Y.out gN (zY.out _))
          replace V := hide (heap_grown V.out (by decide) O7.out gN)
          replace N6 := hide (heap_grown N6.out (by decide) O7.out gN)
          replace O8 := hide (own_apartT O8.out O7.out (by decide) gN)
          replace Q := hide (below_append Q.out gN O7.out (by omega) (by omega))
          replace O7 := hide oN
          clear oN gN N2 zr
          refine ⟨keepsL_mk (by kernel_rfl) (.cons Y.out (.cons V.out .nil)), ?_⟩
          go_simp
          refine wpAnyL_one (i := 7) (by kernel_rfl) ?_
          refine wpOp_do rfl rfl ?_
          have zr : w.heap.size + 1 < wt6.heap.size := heap_lt R.out
          refine wp_append_rows _ _ _ 77 rfl slEv (w.heap.size + 2) _ _ _ r8 (by rfl) O8.out _ 1 1 [(evL kd ef bd)] (by rfl) (rd_row (cs := (evL kd ef bd)) N6.out) (by simp [evL]) (by simp [evL, Value.oneCell']) (by rw [LE.out]; simp; omega) (by rw [LE.out]; unfold maxLen; simp; omega) (by omega) (by exact LE.out.symm) rfl ?_
          intro A8' c8' wt7 oN gN
          clear Y V
          replace B := hide (heap_grownB B.out gN (own_not O8.out (by omega)))
          replace R := hide (heap_grownB R.out gN (own_not O8.out (by omega)))
          replace O7 := hide (own_apartT O7.out O8.out (by decide) gN)
          replace Q := hide (below_append Q.out gN O8.out (by omega) (by omega))
          replace O8 := hide oN
          clear oN gN N6 zr
          refine ⟨keepsL_all (by kernel_rfl) (by kernel_rfl), ?_⟩
          go_simp
          refine wpAnyL_one (i := 8) (by kernel_rfl) ?_
          refine wpOp_do rfl rfl ?_
          go_simp
          refine ⟨keepsL_all (by kernel_rfl) (by kernel_rfl), ?_⟩
          go_simp
          refine wpAnyL_one (i := 9) (by kernel_rfl) ?_
          refine wpOp_do rfl rfl ?_
          go_simp
          refine ⟨keepsL_all (by kernel_rfl) (by kernel_rfl), ?_⟩
          go_simp
          refine wpAnyL_done (by kernel_rfl) ?_ _
          rw [← TC.out] at O7
          rw [← TE.out] at O8
          go_wp2_with fail
          go_roundw
          case rel => exact ⟨k + 1, _, _, _, _, by omega, by go_num, by first | rfl | (congr 1), by first | rfl | (congr 1), O7, O8, B, R, Q⟩
          case measure => simp [intOf]; omega
      · refine wpOp_do rfl rfl ?_
        go_simp
        have q : Below wd.heap.size wd (wd.alloc (.cells (evL kd ef bd).toArray 50)) := (Below.refl _ _).alloc (Nat.le_refl _) _
        have N6 := hide (World.alloc_heap_new wd (.cells (evL kd ef bd).toArray 50))
        replace B := hide (heap_below B.out q)
        replace R := hide (heap_below R.out q)
        replace Y := hide (heap_below Y.out q)
        replace V := hide (heap_below V.out q)
        replace O7 := hide (O7.out.grown q)
        replace O8 := hide (O8.out.grown q)
        replace Q := hide (below_next Q.out Q.out.size q)
        clear q
        rw [splat_any _ _ (by rfl)]
        refine ⟨keepsL_mk (by kernel_rfl) (.cons (by exact Y.out) (.cons (by exact V.out) .nil)), ?_⟩
        change wpAnyL _ _ _ _ _ _ _ _ _ (wd.alloc (.cells (evL kd ef bd).toArray 50))
        generalize wd.alloc (.cells (evL kd ef bd).toArray 50) = wt8 at *
        generalize wd.heap.size = x6 at *
        go_simp
        refine wpAnyL_one (i := 2) (by kernel_rfl) ?_
        refine wpOp_do rfl rfl ?_
        go_simp
        have q : Below wt8.heap.size wt8 (wt8.alloc (.cells d2.cs.toArray 73)) := (Below.refl _ _).alloc (Nat.le_refl _) _
        have N2 := hide (World.alloc_heap_new wt8 (.cells d2.cs.toArray 73))
        replace B := hide (heap_below B.out q)
        replace R := hide (heap_below R.out q)
        replace Y := hide (heap_below Y.out q)
        replace V := hide (heap_below V.out q)
        replace N6 := hide (heap_below N6.out q)
        replace O7 := hide (O7.out.grown q)
        replace O8 := hide (O8.out.grown q)
        replace Q := hide (below_next Q.out Q.out.size q)
        clear q
        rw [splat_any _ _ (by rfl)]
        refine ⟨keepsL_mk (by kernel_rfl) (.cons (by exact Y.out) (.cons (by exact V.out) .nil)), ?_⟩
        change wpAnyL _ _ _ _ _ _ _ _ _ (wt8.alloc (.cells d2.cs.toArray 73))
        generalize wt8.alloc (.cells d2.cs.toArray 73) = wt9 at *
        generalize wt8.heap.size = x2 at *
        go_simp
        refine wpAnyL_one (i := 3) (by kernel_rfl) ?_
        refine wpOp_do rfl rfl ?_
        have zr : w.heap.size + 1 < wt9.heap.size := heap_lt R.out
        refine wp_append_rows _ _ _ 35 rfl slCl (w.heap.size + 2) _ _ _ r7 (by rfl) O7.out _ 1 1 [d2.cs] (by rfl) (rd_row (cs := d2.cs) N2.out) (by simp [Cl.cs]) (by simp [Cl.cs, Value.oneCell']) (by rw [LC.out]; simp; omega) (by rw [LC.out]; unfold maxLen; simp; omega) (by omega) (by exact LC.out.symm) rfl ?_
        intro A7' c7' wt10 oN gN
        replace B := hide (heap_grownB B.out gN (own_not O7.out (by omega)))
        replace R := hide (heap_grownB R.out gN (own_not O7.out (by omega)))
        replace Y := hide (heap_grownB Y.out gN (zY.out _))
        replace V := hide (heap_grown V.out (by decide) O7.out gN)
        replace N6 := hide (heap_grown N6.out (by decide) O7.out gN)
        replace O8 := hide (own_apartT O8.out O7.out (by decide) gN)
        replace Q := hide (below_append Q.out gN O7.out (by omega) (by omega))
        replace O7 := hide oN
        clear oN gN N2 zr
        refine ⟨keepsL_mk (by kernel_rfl) (.cons Y.out (.cons V.out .nil)), ?_⟩
        go_simp
        refine wpAnyL_one (i := 7) (by kernel_rfl) ?_
        refine wpOp_do rfl rfl ?_
        have zr : w.heap.size + 1 < wt10.heap.size := heap_lt R.out
        refine wp_append_rows _ _ _ 77 rfl slEv (w.heap.size + 2) _ _ _ r8 (by rfl) O8.out _ 1 1 [(evL kd ef bd)] (by rfl) (rd_row (cs := (evL kd ef bd)) N6.out) (by simp [evL]) (by simp [evL, Value.oneCell']) (by rw [LE.out]; simp; omega) (by rw [LE.out]; unfold maxLen; simp; omega) (by omega) (by exact LE.out.symm) rfl ?_
        intro A8' c8' wt11 oN gN
        clear Y V
        replace B := hide (heap_grownB B.out gN (own_not O8.out (by omega)))
        replace R := hide (heap_grownB R.out gN (own_not O8.out (by omega)))
        replace O7 := hide (own_apartT O7.out O8.out (by decide) gN)
        replace Q := hide (below_append Q.out gN O8.out (by omega) (by omega))
        replace O8 := hide oN
        clear oN gN N6 zr
        refine ⟨keepsL_all (by kernel_rfl) (by kernel_rfl), ?_⟩
        go_simp
        refine wpAnyL_one (i := 8) (by kernel_rfl) ?_
        refine wpOp_do rfl rfl ?_
        go_simp
        refine ⟨keepsL_all (by kernel_rfl) (by kernel_rfl), ?_⟩
        go_simp
        refine wpAnyL_one (i := 9) (by kernel_rfl) ?_
        refine wpOp_do rfl rfl ?_
        go_simp
        refine ⟨keepsL_all (by kernel_rfl) (by kernel_rfl), ?_⟩
        go_simp
        refine wpAnyL_done (by kernel_rfl) ?_ _
        rw [← TC.out] at O7
        rw [← TE.out] at O8
        go_wp2_with fail
        go_roundw
        case rel => exact ⟨k + 1, _, _, _, _, by omega, by go_num, by first | rfl | (congr 1), by first | rfl | (congr 1), O7, O8, B, R, Q⟩
        case measure => simp [intOf]; omega
    · obtain rfl : k = l.length := by omega
      rw [HFC.out] at O7
      rw [HFE.out] at O8
      obtain ⟨b0, b1⟩ := bus_cells B.out
      have TR := hide (show wr.there (w.heap.size + 1) 0 2 from there_heap (cs := busL none 0 0 0) R.out)
      go_wp2_with (refine wpList_store_hid (by rfl) 37 (.tmp 4) (.tmp 58) (by rfl) (w.heap.size + 1) 0 (busL A7 l.length c7 (now + 1)) (by rfl) (by rfl) (by exact TR.out) (by kernel_rfl) (by simp [Value.oneCell', busL]) ?_)
      intro w9 e9
      have R9 := hide (show w9.heap[w.heap.size + 1]? = some (.cells (busL A7 l.length c7 (now + 1)).toArray 37 (0, 0)) by rw [e9.out]; exact whole_heap (busL A7 l.length c7 (now + 1)) (xs := busL none 0 0 0) R.out rfl)
      have Q9 := hide (show Below w.heap.size w w9 by rw [e9.out]; exact Q.out.trans (below_setCells _ _ _ (by omega)))
      have K7 := hide (show Own w9 w.heap.size 73 23 A7 c7 (clRows (stpB l)) by rw [e9.out]; exact (own_setCells (by omega) _ _ _ O7.out).mono (by omega))
      have K8 := hide (show Own w9 w.heap.size 50 7 A8 c8 (evRows (evB l)) by rw [e9.out]; exact (own_setCells (by omega) _ _ _ O8.out).mono (by omega))
      clear e9 TR R B Q O7 O8 b0 b1
      go_wp2_with fail
      refine bodyPost_ret (results_cell_tmp (by rfl) _ w9 (w.heap.size + 1) 37 (busL A7 l.length c7 (now + 1)).toArray (0, 0) _ (.slice A8 l.length c8) (by rfl) (by rfl) R9.out Tryz.underlying37 (by rfl) (by kernel_rfl)) rfl ⟨A7, c7, A8, c8, rfl, K7.out, K8.out, Q9.out⟩
end Go.Proofs.YthkilodnghiocaaGreatDoor
