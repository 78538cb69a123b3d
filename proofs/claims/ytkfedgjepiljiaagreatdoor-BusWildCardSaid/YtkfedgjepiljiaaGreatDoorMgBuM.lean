/- The walk of bus.Submit. -/
import Derived.Test.YtkfedgjepiljiaaGreatDoorBuN
import Derived.Test.YtkfedgjepiljiaaGreatDoorOrdL
namespace Go.Proofs.YtkfedgjepiljiaaGreatDoor
open Go.ChangeShapes Go.WideShapes Go.ChangeAt Go.RowKit
open FP (Fr)

/-- The bus with one controller another. -/
def subL (l : List Cl) (k : Nat) (f : Fr) : List Cl := l.set k ((l.getD k zCl).subC f)
theorem subL_rows (l : List Cl) (k : Nat) (f : Fr) : clRows (subL l k f) = (clRows l).set k ((l.getD k zCl).subC f).cs := by
  unfold subL clRows
  rw [List.map_set]

/-- What Submit answers. -/
def SubV (N : Nat) (l : List Cl) (k : Nat) (f : Fr) (now : Int) (e : Ending) (w' : World) : Prop :=
  ((l.getD k zCl).subE f = 0 ∧ ∃ A c, e = .returned (.tuple #[.agg (busL A l.length c now).toArray, .int .i64 0]) ∧ ClR w' w'.heap.size A (subL l k f) ∧ Fresh N A) ∨
  ((l.getD k zCl).subE f ≠ 0 ∧ e = .returned (.tuple #[.agg (busL none 0 0 0).toArray, .int .i64 ((l.getD k zCl).subE f)]))

set_option maxRecDepth 100000 in
set_option maxHeartbeats 32000000 in
theorem busSubmit_in (l : List Cl) (A : Option Addr) (c : Nat) (now : Int) (k : Nat) (f : Fr) (w : World) (hr : ClR w w.heap.size A l) (hk : k < l.length) (h4 : l.length ≤ 4) (hn0 : 0 ≤ now) (hn1 : now ≤ 1099511627776) (hok : AllOk l) (hid : f.id < 4294967296) :
    Calls Tryz.prog 6 #[.agg (busL A l.length c now).toArray, .int .i64 k, .agg (frc f).toArray] w fun e w' => SubV w.heap.size l k f now e w' ∧ Below w.heap.size w w' := by
  obtain ⟨w0, hw0⟩ : ∃ w0, w0 = ((w.alloc (.cells (busL A l.length c now).toArray 24)).alloc (.cells (frc f).toArray 29)).alloc (.cells (busL none 0 0 0).toArray 24) := ⟨_, rfl⟩
  have step : ∀ (W : World) (o : Obj), Below W.heap.size W (W.alloc o) := fun W o => (Below.refl _ _).alloc (Nat.le_refl _) _
  have B := hide (heap_below (heap_below (World.alloc_heap_new w (.cells (busL A l.length c now).toArray 24)) (step _ (.cells (frc f).toArray 29))) (step _ (.cells (busL none 0 0 0).toArray 24)))
  have G := hide (heap_below (World.alloc_heap_new (w.alloc (.cells (busL A l.length c now).toArray 24)) (.cells (frc f).toArray 29)) (step _ (.cells (busL none 0 0 0).toArray 24)))
  have R := hide (World.alloc_heap_new ((w.alloc (.cells (busL A l.length c now).toArray 24)).alloc (.cells (frc f).toArray 29)) (.cells (busL none 0 0 0).toArray 24))
  have Q : Hid (Below w.heap.size w w0) := by rw [hw0]; exact hide (((step _ _).alloc (by simp) _).alloc (by simp; omega) _)
  rw [← hw0] at B G R
  simp only [World.size_alloc] at G R
  have RT := hide (busRight_ok l A c now w0 (hr.next Q.out Q.out.size) (by omega) h4 hn0 hn1 hok)
  obtain ⟨g, off, rfl, hg, hra⟩ := hr.at_ hk
  have hd : l.getD k zCl = l[k] := by rw [List.getD_eq_getElem?_getD, List.getElem?_eq_getElem hk]; rfl
  have PA := hide (fun (W : World) (q : Below w.heap.size w W) => show W.rangeAt g (off + k * 23) (l.getD k zCl).cs from fun j v hj => cellBelow q hg (hra j v (by rw [← hd]; exact hj)))
  have SU := hide (fun W => ctlSubmit_ok (l.getD k zCl) f W (by rw [hd]; exact hok _ (List.getElem_mem hk)) hid)
  have CL := hide (fun (W : World) (q : Below w.heap.size w W) => cloneC_any l (some ⟨g, off, none⟩) c W (hr.next q q.size) (by omega) (by omega))
  have HS := hide (show ∀ (w' : World) (e : Ending) (z : Cl) (E : Int), z = (l.getD k zCl).subC f → E = (l.getD k zCl).subE f → ((E = 0 ∧ ∃ A c, e = .returned (.tuple #[.agg (busL A l.length c now).toArray, .int .i64 0]) ∧ Rd w' w'.heap.size A 23 ((clRows l).set k z.cs) ∧ Fresh w.heap.size A) ∨ (E ≠ 0 ∧ e = .returned (.tuple #[.agg (busL none 0 0 0).toArray, .int .i64 E]))) → SubV w.heap.size l k f now e w' from fun w' e z E hz hE h => by
    subst hz hE
    rcases h with ⟨h1, A, c, h2, h3, h4⟩ | ⟨h1, h2⟩
    · refine .inl ⟨h1, A, c, h2, ?_, h4⟩
      rw [← subL_rows] at h3
      exact h3
    · exact .inr ⟨h1, h2⟩)
  generalize SubV w.heap.size l k f now = V at *
  obtain ⟨z, hz⟩ : ∃ z, z = (l.getD k zCl).subC f := ⟨_, rfl⟩
  obtain ⟨E, hE⟩ : ∃ E, E = (l.getD k zCl).subE f := ⟨_, rfl⟩
  rw [← hz, ← hE] at SU
  replace HS := hide (fun w' e => HS.out w' e z E hz hE)
  clear hz hE hd hra
  generalize l.getD k zCl = d at *
  have hk0 : ¬ (k : Int) < 0 := by omega
  have hkl : ¬ (l.length : Int) ≤ (k : Int) := by omega
  have hkl2 : (k : Int) < (l.length : Int) := by omega
  have HK := hide hk
  obtain ⟨b0, b1⟩ := bus_cells B.out
  clear hr hok step hid
  go_enter Tryz.func6, Tryz.ntmps6
  go_upto_region 1 with fail
  change Code.wp _ _ _ _ (((w.alloc (.cells (busL (some ⟨g, off, none⟩) l.length c now).toArray 24)).alloc (.cells (frc f).toArray 29)).alloc (.cells (busL none 0 0 0).toArray 24))
  rw [← hw0]
  clear hw0
  clear b0 b1
  go_wp2_with (refine wpList_load_row rfl 24 (.tmp 3) (by rfl) w.heap.size (by rfl) 24 (busL (some ⟨g, off, none⟩) l.length c now).toArray (0, 0) _ (by exact B.out) Tryz.underlying24 (by rfl) (by kernel_rfl) ?_)
  (with_reducible refine (RT.out).mono ?_)
  rintro e1 w1 ⟨rfl, q⟩
  replace B := hide (heap_below B.out q)
  replace G := hide (heap_below G.out q)
  replace R := hide (heap_below R.out q)
  replace Q := hide (below_next Q.out Q.out.size q)
  clear q RT
  obtain ⟨b0, b1⟩ := bus_cells B.out
  go_upto_region 3 with fail
  clear b0 b1
  go_cut [8, 9] (fun v8 v9 W => ∃ x, v8 = .pointer (some ⟨x, 0, none⟩) ∧ v9 = .int .i64 E ∧ Hid (W.heap[x]? = some (.cells z.cs.toArray 33 (0, 0))) ∧ Hid (W.heap[w.heap.size]? = some (.cells (busL (some ⟨g, off, none⟩) l.length c now).toArray 24 (0, 0))) ∧ Hid (W.heap[w.heap.size + 2]? = some (.cells (busL none 0 0 0).toArray 24 (0, 0))) ∧ Hid (Below w.heap.size w W) ∧ w.heap.size + 2 < x)
  case first =>
    refine wp_region_L [0, 1, 2, 3, 4, 5, 7, 8, 9] [(1, fun W => W.heap[w.heap.size]? = some (.cells (busL (some ⟨g, off, none⟩) l.length c now).toArray 24 (0, 0))), (4, fun W => W.rangeAt g (off + k * 23) d.cs), (5, fun W => W.heap[w.heap.size + 1]? = some (.cells (frc f).toArray 29 (0, 0)))] (by kernel_rfl) ?_
    replace B := hide (show w1.drew.heap[w.heap.size]? = some (.cells (busL (some ⟨g, off, none⟩) l.length c now).toArray 24 (0, 0)) from B.out)
    replace G := hide (show w1.drew.heap[w.heap.size + 1]? = some (.cells (frc f).toArray 29 (0, 0)) from G.out)
    replace R := hide (show w1.drew.heap[w.heap.size + 2]? = some (.cells (busL none 0 0 0).toArray 24 (0, 0)) from R.out)
    replace Q := hide (show Below w.heap.size w w1.drew from Q.out.drew)
    generalize w1.drew = wd at *
    refine wpAnyL_pure (i := 0) (v := .pointer (some ⟨w.heap.size, 0, none⟩)) rfl rfl (by kernel_rfl) (by kernel_rfl) (by kernel_rfl) (by kernel_rfl) (by kernel_rfl) (fun _ _ _ h => h) rfl (fun W => by go_simp) ?_
    go_simp
    refine wpAnyL_load (i := 1) (v := .slice (some ⟨g, off, none⟩) l.length c) rfl rfl (by kernel_rfl) (by kernel_rfl) (by kernel_rfl) (by kernel_rfl) (by kernel_rfl) (fun _ _ _ h => h) rfl (fun W h => by have h0 : W.cell? ⟨w.heap.size, 0, none⟩ = some (.slice (some ⟨g, off, none⟩) l.length c) := (by simp [World.cell?, h, busL]); clear h; go_simp) (B.out) ?_
    go_simp
    refine wpAnyL_pure (i := 2) (v := .int .i64 k) rfl rfl (by kernel_rfl) (by kernel_rfl) (by kernel_rfl) (by kernel_rfl) (by kernel_rfl) (fun _ _ _ h => h) rfl (fun W => by go_simp) ?_
    go_simp
    refine wpAnyL_pure (i := 3) (v := .pointer (some ⟨g, off + k * 23, none⟩)) rfl rfl (by kernel_rfl) (by kernel_rfl) (by kernel_rfl) (by kernel_rfl) (by kernel_rfl) (fun _ _ _ h => h) rfl (fun W => by go_simp) ?_
    go_simp
    refine wpAnyL_load (i := 4) (v := .agg d.cs.toArray) rfl rfl (by kernel_rfl) (by kernel_rfl) (by kernel_rfl) (by kernel_rfl) (by kernel_rfl) (fun _ _ _ h => h) rfl (fun W h => exec_load W g (off + k * 23) 33 d.cs _ h Tryz.underlying33 rfl (by kernel_rfl) _ _ (.tmp 29) (by rfl) (by rfl)) (PA.out _ Q.out) ?_
    go_simp
    refine wpAnyL_load (i := 5) (v := .agg (frc f).toArray) rfl rfl (by kernel_rfl) (by kernel_rfl) (by kernel_rfl) (by kernel_rfl) (by kernel_rfl) (fun _ _ _ h => h) rfl (fun W h => exec_heap W (w.heap.size + 1) 29 (frc f) _ h Tryz.underlying29 rfl (by kernel_rfl) _ _ (.tmp 5) (by rfl) (by rfl)) (G.out) ?_
    go_simp
    have zR : w.heap.size + 2 < wd.heap.size := heap_lt R.out
    refine wpAnyL_two (i := 6) (k := 10) (by kernel_rfl) ?_ ?_
    · refine wpOp_do rfl rfl ?_
      go_simp
      (with_reducible refine (SU.out wd).mono ?_)
      rintro ew2 w2 ⟨rfl, q⟩
      replace B := hide (heap_below B.out q)
      replace G := hide (heap_below G.out q)
      replace R := hide (heap_below R.out q)
      replace Q := hide (below_next Q.out Q.out.size q)
      clear q SU
      go_simp
      refine ⟨keepsL_all (by kernel_rfl) (by kernel_rfl), ?_⟩
      go_simp
      refine wpAnyL_pure (i := 7) (v := .tuple #[.agg z.cs.toArray, .int .i64 E]) rfl rfl (by kernel_rfl) (by kernel_rfl) (by kernel_rfl) (by kernel_rfl) (by kernel_rfl) (fun _ _ _ h => h) rfl (fun W => by go_simp) ?_
      go_simp
      refine wpAnyL_pure (i := 8) (v := .agg z.cs.toArray) rfl rfl (by kernel_rfl) (by kernel_rfl) (by kernel_rfl) (by kernel_rfl) (by kernel_rfl) (fun _ _ _ h => h) rfl (fun W => by go_simp) ?_
      go_simp
      refine wpAnyL_pure (i := 9) (v := .int .i64 E) rfl rfl (by kernel_rfl) (by kernel_rfl) (by kernel_rfl) (by kernel_rfl) (by kernel_rfl) (fun _ _ _ h => h) rfl (fun W => by go_simp) ?_
      go_simp
      refine wpAnyL_one (i := 10) (by kernel_rfl) ?_
      refine wpOp_do rfl rfl ?_
      go_simp
      have q : Below w2.heap.size w2 (w2.alloc (.cells zCl.cs.toArray 33)) := (Below.refl _ _).alloc (Nat.le_refl _) _
      have X := hide (World.alloc_heap_new w2 (.cells zCl.cs.toArray 33))
      have zX : w.heap.size + 2 < w2.heap.size := heap_lt R.out
      replace B := hide (heap_below B.out q)
      replace G := hide (heap_below G.out q)
      replace R := hide (heap_below R.out q)
      replace Q := hide (below_next Q.out Q.out.size q)
      clear q
      refine ⟨keepsL_mk (by kernel_rfl) (.cons B.out (.cons (PA.out _ Q.out) (.cons G.out .nil))), ?_⟩
      change wpAnyL _ _ _ _ _ _ _ _ _ (w2.alloc (.cells zCl.cs.toArray 33))
      generalize w2.alloc (.cells zCl.cs.toArray 33) = w3 at *
      generalize w2.heap.size = x at *
      go_simp
      have TX := hide (show w3.there x 0 23 from there_heap (cs := zCl.cs) X.out)
      refine wpAnyL_one (i := 11) (by kernel_rfl) ?_
      refine wpOp_do rfl rfl ?_
      refine wp_store_as 33 (.tmp 8) (.tmp 33) rfl x 0 z.cs (by rfl) (by rfl) (by exact TX.out) (by kernel_rfl) (by simp [Value.oneCell', Cl.cs]) ?_
      intro wa ea
      replace X := hide (show wa.heap[x]? = some (.cells z.cs.toArray 33 (0, 0)) by rw [ea]; exact whole_heap z.cs (xs := zCl.cs) X.out rfl)
      replace B := hide (show wa.heap[w.heap.size]? = some (.cells (busL (some ⟨g, off, none⟩) l.length c now).toArray 24 (0, 0)) by rw [ea]; exact other_heap (by omega) _ _ _ B.out)
      replace R := hide (show wa.heap[w.heap.size + 2]? = some (.cells (busL none 0 0 0).toArray 24 (0, 0)) by rw [ea]; exact other_heap (by omega) _ _ _ R.out)
      replace Q := hide (show Below w.heap.size w wa by rw [ea]; exact Q.out.trans (below_setCells _ _ _ (by omega)))
      clear ea TX
      refine ⟨keepsL_all (by kernel_rfl) (by kernel_rfl), ?_⟩
      go_simp
      refine wpAnyL_one (i := 12) (by kernel_rfl) ?_
      refine wpOp_do rfl rfl ?_
      go_simp
      refine ⟨keepsL_all (by kernel_rfl) (by kernel_rfl), ?_⟩
      go_simp
      refine wpAnyL_done (by kernel_rfl) ?_ _
      go_wp2_with fail
      go_meet
      exact ⟨x, rfl, rfl, X, B, R, Q, zX⟩
    · refine wpOp_do rfl rfl ?_
      go_simp
      have q : Below wd.heap.size wd (wd.alloc (.cells zCl.cs.toArray 33)) := (Below.refl _ _).alloc (Nat.le_refl _) _
      have X := hide (World.alloc_heap_new wd (.cells zCl.cs.toArray 33))
      have zX : w.heap.size + 2 < wd.heap.size := heap_lt R.out
      replace B := hide (heap_below B.out q)
      replace G := hide (heap_below G.out q)
      replace R := hide (heap_below R.out q)
      replace Q := hide (below_next Q.out Q.out.size q)
      clear q
      refine ⟨keepsL_mk (by kernel_rfl) (.cons B.out (.cons (PA.out _ Q.out) (.cons G.out .nil))), ?_⟩
      change wpAnyL _ _ _ _ _ _ _ _ _ (wd.alloc (.cells zCl.cs.toArray 33))
      generalize wd.alloc (.cells zCl.cs.toArray 33) = w2 at *
      generalize wd.heap.size = x at *
      go_simp
      refine wpAnyL_one (i := 6) (by kernel_rfl) ?_
      refine wpOp_do rfl rfl ?_
      go_simp
      (with_reducible refine (SU.out w2).mono ?_)
      rintro ew3 w3 ⟨rfl, q⟩
      replace B := hide (heap_below B.out q)
      replace R := hide (heap_below R.out q)
      replace X := hide (heap_below X.out q)
      replace Q := hide (below_next Q.out Q.out.size q)
      clear q SU
      go_simp
      refine ⟨keepsL_all (by kernel_rfl) (by kernel_rfl), ?_⟩
      go_simp
      refine wpAnyL_pure (i := 7) (v := .tuple #[.agg z.cs.toArray, .int .i64 E]) rfl rfl (by kernel_rfl) (by kernel_rfl) (by kernel_rfl) (by kernel_rfl) (by kernel_rfl) (fun _ _ _ h => h) rfl (fun W => by go_simp) ?_
      go_simp
      refine wpAnyL_pure (i := 8) (v := .agg z.cs.toArray) rfl rfl (by kernel_rfl) (by kernel_rfl) (by kernel_rfl) (by kernel_rfl) (by kernel_rfl) (fun _ _ _ h => h) rfl (fun W => by go_simp) ?_
      go_simp
      refine wpAnyL_pure (i := 9) (v := .int .i64 E) rfl rfl (by kernel_rfl) (by kernel_rfl) (by kernel_rfl) (by kernel_rfl) (by kernel_rfl) (fun _ _ _ h => h) rfl (fun W => by go_simp) ?_
      go_simp
      have TX := hide (show w3.there x 0 23 from there_heap (cs := zCl.cs) X.out)
      refine wpAnyL_one (i := 11) (by kernel_rfl) ?_
      refine wpOp_do rfl rfl ?_
      refine wp_store_as 33 (.tmp 8) (.tmp 33) rfl x 0 z.cs (by rfl) (by rfl) (by exact TX.out) (by kernel_rfl) (by simp [Value.oneCell', Cl.cs]) ?_
      intro wa ea
      replace X := hide (show wa.heap[x]? = some (.cells z.cs.toArray 33 (0, 0)) by rw [ea]; exact whole_heap z.cs (xs := zCl.cs) X.out rfl)
      replace B := hide (show wa.heap[w.heap.size]? = some (.cells (busL (some ⟨g, off, none⟩) l.length c now).toArray 24 (0, 0)) by rw [ea]; exact other_heap (by omega) _ _ _ B.out)
      replace R := hide (show wa.heap[w.heap.size + 2]? = some (.cells (busL none 0 0 0).toArray 24 (0, 0)) by rw [ea]; exact other_heap (by omega) _ _ _ R.out)
      replace Q := hide (show Below w.heap.size w wa by rw [ea]; exact Q.out.trans (below_setCells _ _ _ (by omega)))
      clear ea TX
      refine ⟨keepsL_all (by kernel_rfl) (by kernel_rfl), ?_⟩
      go_simp
      refine wpAnyL_one (i := 12) (by kernel_rfl) ?_
      refine wpOp_do rfl rfl ?_
      go_simp
      refine ⟨keepsL_all (by kernel_rfl) (by kernel_rfl), ?_⟩
      go_simp
      refine wpAnyL_done (by kernel_rfl) ?_ _
      go_wp2_with fail
      go_meet
      exact ⟨x, rfl, rfl, X, B, R, Q, zX⟩
  case rest =>
    clear B G R Q PA SU
    obtain ⟨x, rfl, rfl, X, B, R, Q, zx⟩ := hcut
    have hw3 : w.heap.size + 2 < wc.heap.size := heap_lt R.out
    have hwx : x < wc.heap.size := heap_lt X.out
    by_cases hE : E = 0
    · subst hE
      have C1 := hide (CL.out wc Q.out)
      obtain ⟨y0, y1, y2, y3⟩ := two_boxM (show wc.heap[w.heap.size]? = some (.cells #[.slice (some ⟨g, off, none⟩) l.length c, .int .i64 now] 24 (0, 0)) from B.out)
      go_wp2_with fail
      (with_reducible refine (C1.out).mono ?_)
      rintro e3 w3 ⟨⟨g2, c2, rfl, O⟩, q⟩
      replace B := hide (heap_below B.out q)
      replace R := hide (heap_below R.out q)
      replace X := hide (heap_below X.out q)
      replace Q := hide (below_next Q.out Q.out.size q)
      replace O := hide O
      clear q C1 y0 y1 y2 y3 CL
      obtain ⟨y0, y1, y2, y3⟩ := two_boxM (show w3.heap[w.heap.size]? = some (.cells #[.slice (some ⟨g, off, none⟩) l.length c, .int .i64 now] 24 (0, 0)) from B.out)
      go_upto_region 7 with fail
      clear y0 y1 y2 y3
      obtain ⟨w4, e4⟩ : ∃ w4, w4 = w3.setCell ⟨w.heap.size, 0, none⟩ (.slice (some ⟨g2, 0, none⟩) l.length c2) := ⟨_, rfl⟩
      rw [← e4]
      replace e4 : Hid (w4 = w3.setCells w.heap.size 0 [.slice (some ⟨g2, 0, none⟩) l.length c2]) := e4
      replace R := hide (show w4.heap[w.heap.size + 2]? = some (.cells (busL none 0 0 0).toArray 24 (0, 0)) by rw [e4.out]; exact other_heap (by omega) _ _ _ R.out)
      replace X := hide (show w4.heap[x]? = some (.cells z.cs.toArray 33 (0, 0)) by rw [e4.out]; exact other_heap (by omega) _ _ _ X.out)
      replace O := hide (show Own w4 wc.heap.size 33 23 (some ⟨g2, 0, none⟩) c2 (clRows l) by rw [e4.out]; exact own_setCells (by omega) _ _ _ O.out)
      replace B := hide (show w4.heap[w.heap.size]? = some (.cells (busL (some ⟨g2, 0, none⟩) l.length c2 now).toArray 24 (0, 0)) by rw [e4.out]; exact heap_setCell_same w3 w.heap.size 0 _ _ _ B.out)
      replace Q := hide (show Below w.heap.size w w4 by rw [e4.out]; exact Q.out.trans (below_setCells _ _ _ (by omega)))
      clear e4
      have hkr : k < (clRows l).length := by rw [clRows_len]; exact HK.out
      have TO := hide (O.out.there (cl_rows _) hkr)
      have hg2 := own_blk O.out g2 0 rfl
      obtain ⟨b0, b1⟩ := bus_cells B.out
      go_wp2_with (first | (refine wpList_load_row rfl 33 (.tmp 8) (by rfl) x (by rfl) 33 z.cs.toArray (0, 0) _ (by exact X.out) Tryz.underlying33 (by rfl) (by kernel_rfl) ?_) | (refine wpList_store_hid (by rfl) 33 (.tmp 47) (.tmp 46) (by rfl) g2 (k * 23) z.cs (by rfl) (by rfl) (by exact TO.out) (by kernel_rfl) (by simp [Value.oneCell', Cl.cs]) ?_))
      intro w5 e5
      replace R := hide (show w5.heap[w.heap.size + 2]? = some (.cells (busL none 0 0 0).toArray 24 (0, 0)) by rw [e5.out]; exact other_heap (by omega) _ _ _ R.out)
      replace B := hide (show w5.heap[w.heap.size]? = some (.cells (busL (some ⟨g2, 0, none⟩) l.length c2 now).toArray 24 (0, 0)) by rw [e5.out]; exact other_heap (by omega) _ _ _ B.out)
      replace O := hide (show Own w5 wc.heap.size 33 23 (some ⟨g2, 0, none⟩) c2 ((clRows l).set k z.cs) by rw [e5.out]; exact (O.out.setRow (cl_rows _) hkr rfl).1)
      replace Q := hide (show Below w.heap.size w w5 by rw [e5.out]; exact Q.out.trans (below_setCells _ _ _ (by omega)))
      clear e5 TO b0 b1 X
      have TR := hide (show w5.there (w.heap.size + 2) 0 2 from there_heap (cs := busL none 0 0 0) R.out)
      go_wp2_with (first | (refine wpList_load_row rfl 24 (.tmp 3) (by rfl) w.heap.size (by rfl) 24 (busL (some ⟨g2, 0, none⟩) l.length c2 now).toArray (0, 0) _ (by exact B.out) Tryz.underlying24 (by rfl) (by kernel_rfl) ?_) | (refine wpList_store_hid (by rfl) 24 (.tmp 6) (.tmp 48) (by rfl) (w.heap.size + 2) 0 (busL (some ⟨g2, 0, none⟩) l.length c2 now) (by rfl) (by rfl) (by exact TR.out) (by kernel_rfl) (by simp [Value.oneCell', busL]) ?_))
      intro w6 e6
      have R6 := hide (show w6.heap[w.heap.size + 2]? = some (.cells (busL (some ⟨g2, 0, none⟩) l.length c2 now).toArray 24 (0, 0)) by rw [e6.out]; exact whole_heap (busL (some ⟨g2, 0, none⟩) l.length c2 now) (xs := busL none 0 0 0) R.out rfl)
      have Q6 := hide (show Below w.heap.size w w6 by rw [e6.out]; exact Q.out.trans (below_setCells _ _ _ (by omega)))
      have O6 := hide (show Own w6 wc.heap.size 33 23 (some ⟨g2, 0, none⟩) c2 ((clRows l).set k z.cs) by rw [e6.out]; exact own_setCells (by omega) _ _ _ O.out)
      clear e6 TR R B Q O
      go_wp2_with fail
      have RD := O6.out.rd (fun r hr => by
        rcases List.mem_or_eq_of_mem_set hr with hr | rfl
        · exact cl_rows _ r hr
        · rfl)
      refine bodyPost_ret (results_cell_tmp (by rfl) _ w6 (w.heap.size + 2) 24 (busL (some ⟨g2, 0, none⟩) l.length c2 now).toArray (0, 0) _ (.int .i64 0) (by rfl) (by rfl) R6.out Tryz.underlying24 (by rfl) (by kernel_rfl)) rfl ⟨HS.out _ _ (.inl ⟨by first | rfl | trivial, _, _, rfl, RD, (fresh_own O6.out).mono (by omega)⟩), Q6.out⟩
    · have hE2 : (E != 0) = true := by simpa using hE
      have hE3 : (E == 0) = false := by simpa using hE
      have TR := hide (show wc.there (w.heap.size + 2) 0 2 from there_heap (cs := busL none 0 0 0) R.out)
      have HE := hide hE
      clear hE CL X B
      go_wp2_with (refine wpList_store_hid (by rfl) 24 (.tmp 6) (.tmp 37) (by rfl) (w.heap.size + 2) 0 (busL none 0 0 0) (by rfl) (by rfl) (by exact TR.out) (by kernel_rfl) (by simp [Value.oneCell', busL]) ?_)
      intro w6 e6
      have R6 := hide (show w6.heap[w.heap.size + 2]? = some (.cells (busL none 0 0 0).toArray 24 (0, 0)) by rw [e6.out]; exact whole_heap (busL none 0 0 0) (xs := busL none 0 0 0) R.out rfl)
      have Q6 := hide (show Below w.heap.size w w6 by rw [e6.out]; exact Q.out.trans (below_setCells _ _ _ (by omega)))
      clear e6 TR R Q
      go_wp2_with fail
      refine bodyPost_ret (results_cell_tmp (by rfl) _ w6 (w.heap.size + 2) 24 (busL none 0 0 0).toArray (0, 0) _ (.int .i64 E) (by rfl) (by rfl) R6.out Tryz.underlying24 (by rfl) (by kernel_rfl)) rfl ⟨HS.out _ _ (.inr ⟨HE.out, rfl⟩), Q6.out⟩
end Go.Proofs.YtkfedgjepiljiaaGreatDoor

/- Rows of a slice and stores into boxes beside them. Nothing of the program's text. -/
namespace Go.Proofs.YtkfedgjepiljiaaGreatDoor
open Go.ChangeShapes Go.WideShapes Go.ChangeAt Go.RowKit

/-- A row of n does not lie in block x. -/
def Off (A : Option Addr) (n x : Nat) : Prop := n = 0 ∨ ∀ g off, A = some ⟨g, off, none⟩ → g ≠ x
theorem off_set {w : World} {A : Option Addr} {sz : Nat} {R : List (List Value)} {x : Nat} (h : Rd w w.heap.size A sz R) (ho : Off A R.length x) (vs : List Value) (o : Nat) : Rd (w.setCells x o vs) (w.setCells x o vs).heap.size A sz R := by
  rcases ho with ho | ho
  · intro hn
    omega
  · exact rd_setCells ho _ _ _ h
theorem off_new {w : World} {B : Nat} {A : Option Addr} {sz : Nat} {R : List (List Value)} {x : Nat} (h : Rd w B A sz R) (hx : B ≤ x) : Off A R.length x := by
  by_cases hn : 0 < R.length
  · obtain ⟨g, off, e, hb, _⟩ := h hn
    refine .inr fun g2 off2 e2 => ?_
    rw [e] at e2
    cases e2
    omega
  · exact .inl (by omega)
theorem off_fresh {N n x : Nat} {A : Option Addr} (h : ∀ g off, A = some ⟨g, off, none⟩ → N ≤ g) (hx : x < N) : Off A n x := .inr fun g off e => by have := h g off e; omega
theorem off_len {A : Option Addr} {n m x : Nat} (h : Off A n x) (hm : n = 0 → m = 0) : Off A m x := h.elim (fun e => .inl (hm e)) .inr
end Go.Proofs.YtkfedgjepiljiaaGreatDoor
