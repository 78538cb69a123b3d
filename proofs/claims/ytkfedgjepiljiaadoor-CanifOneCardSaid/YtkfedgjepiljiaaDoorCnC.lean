/- The closures of canif.Go, Done, Send and Next. -/
import Derived.Test.YtkfedgjepiljiaaDoorCnB
import Derived.Test.YtkfedgjepiljiaaDoorMgCsD
namespace Go.Proofs.YtkfedgjepiljiaaDoor
open Go.ChangeShapes Go.WideShapes Go.ChangeAt Go.RowKit
open FP (Fr)
open HP (kB at' Hp)

theorem one_cell {W : World} {p : Nat} {v : Value} {t : TypeId} (h : W.heap[p]? = some (.cells #[v] t (0, 0))) : W.cell? ⟨p, 0, none⟩ = some v ∧ W.frozen? ⟨p, 0, none⟩ = false := by
  refine ⟨by simp [World.cell?, h], by simp [World.frozen?, h]⟩
theorem fi_ne {x : Fi} {W : World} {B p : Nat} {v : Value} {t t2 : TypeId} (hB : W.heap[B]? = some (.cells x.cs.toArray t (0, 0))) (hp : W.heap[p]? = some (.cells #[v] t2 (0, 0))) : B ≠ p := fun e => by
  subst e
  rw [hB] at hp
  injection hp with hp
  injection hp with hp _ _
  exact absurd (congrArg Array.size hp) (by simp [Fi.cs])
theorem there_le {W : World} {b o n m : Nat} (h : W.there b o n) (hm : m ≤ n) : W.there b o m := fun j hj => h j (by omega)
/-- The cells of boxes. -/
def bsc (A : Option Addr) (n c : Nat) (seq cap : Int) : List Value := [.slice A n c, .int .i64 seq, .int .i64 cap]
theorem fi_bs {W : World} {B : Nat} {x : Fi} {t : TypeId} {fz : Nat × Nat} (h : W.heap[B]? = some (.cells x.cs.toArray t fz)) : W.rangeAt B 0 (bsc x.A x.m.length x.c x.seq x.cap) := fun j v hj => by
  refine range_heap h j v ?_
  have hj3 : j < 3 := (List.getElem?_eq_some_iff.1 hj).1
  obtain rfl | rfl | rfl : j = 0 ∨ j = 1 ∨ j = 2 := by omega
  all_goals exact hj
theorem bx_fr {W : World} {B : Nat} {x : Bx} {t : TypeId} {fz : Nat × Nat} (h : W.heap[B]? = some (.cells (bxc x).toArray t fz)) : W.rangeAt B 1 (frc x.f) := fun j v hj => by
  have hr := range_heap h (1 + j) v
  rw [Nat.zero_add] at hr
  refine hr ?_
  have hj5 : j < 5 := (List.getElem?_eq_some_iff.1 hj).1
  obtain rfl | rfl | rfl | rfl | rfl : j = 0 ∨ j = 1 ∨ j = 2 ∨ j = 3 ∨ j = 4 := by omega
  all_goals exact hj

set_option maxRecDepth 100000 in
set_option maxHeartbeats 4000000 in
theorem cnGo1_on (x : Fi) (B p : Nat) (W : World) (hB : W.heap[B]? = some (.cells x.cs.toArray 31 (0, 0))) (hp : W.heap[p]? = some (.cells #[.bool true] 4 (0, 0))) :
    Calls Tryd.prog 21 #[.pointer (some ⟨B, 0, none⟩), .pointer (some ⟨p, 0, none⟩)] W fun e W' => e = .returned (.int .i64 0) ∧ W' = W.setCells B 4 [.bool true] := by
  obtain ⟨c0, c1, c2, c3, c4, c5, c6⟩ := fi_cells hB
  have f4 := fi_free hB 4
  obtain ⟨d0, d1⟩ := one_cell hp
  have hb := fi_ne hB hp
  clear hB hp
  go_enter Tryd.func21, Tryd.ntmps21
  go_wp2
  go_ret
  exact ⟨rfl, rfl⟩

set_option maxRecDepth 100000 in
set_option maxHeartbeats 4000000 in
theorem cnGo1_off (x : Fi) (B p : Nat) (W : World) (hB : W.heap[B]? = some (.cells x.cs.toArray 31 (0, 0))) (hp : W.heap[p]? = some (.cells #[.bool false] 4 (0, 0))) (hl : 0 ≤ x.lost ∧ x.lost ≤ 1099511627776) (hm : x.m.length ≤ 8) (hh : x.has = -1) :
    Calls Tryd.prog 21 #[.pointer (some ⟨B, 0, none⟩), .pointer (some ⟨p, 0, none⟩)] W fun e W' => e = .returned (.int .i64 0) ∧ W' = (((W.setCells B 4 [.bool false]).setCells B 3 [.int .i64 (-1)]).setCells B 0 [.slice none 0 0]).setCells B 6 [.int .i64 (min (x.lost + x.m.length) 1099511627776)] := by
  obtain ⟨c0, c1, c2, c3, c4, c5, c6⟩ := fi_cells hB
  have f4 := fi_free hB
  obtain ⟨d0, d1⟩ := one_cell hp
  have hb := fi_ne hB hp
  rw [hh] at c3
  obtain ⟨m, em, hm2⟩ := run_min (P := Tryd.prog) (x.lost + x.m.length) 1099511627776
  rw [← em]
  clear hB hp em
  go_enter Tryd.func21, Tryd.ntmps21
  go_wp2
  go_ret
  exact ⟨rfl, rfl⟩

set_option maxRecDepth 100000 in
set_option maxHeartbeats 4000000 in
theorem cnDone1_no (x : Fi) (B p : Nat) (W : World) (hB : W.heap[B]? = some (.cells x.cs.toArray 31 (0, 0))) (hh : x.has = -1) :
    Calls Tryd.prog 27 #[.pointer (some ⟨B, 0, none⟩), .pointer (some ⟨p, 0, none⟩)] W fun e W' => e = .returned (.int .i64 21) ∧ W' = W := by
  obtain ⟨c0, c1, c2, c3, c4, c5, c6⟩ := fi_cells hB
  rw [hh] at c3
  clear hB
  go_enter Tryd.func27, Tryd.ntmps27
  go_wp2
  go_ret
  exact ⟨rfl, rfl⟩

set_option maxRecDepth 100000 in
set_option maxHeartbeats 4000000 in
theorem cnDone1_ok (x : Fi) (B p : Nat) (W : World) (hB : W.heap[B]? = some (.cells x.cs.toArray 31 (0, 0))) (hp : W.heap[p]? = some (.cells #[.int .i64 0] 3 (0, 0))) (hh : x.has ≠ -1) (hs : 0 ≤ x.sent ∧ x.sent ≤ 1099511627776) :
    Calls Tryd.prog 27 #[.pointer (some ⟨B, 0, none⟩), .pointer (some ⟨p, 0, none⟩)] W fun e W' => e = .returned (.int .i64 0) ∧ W' = ((W.drew.setCells p 0 [.int .i64 x.has]).setCells B 3 [.int .i64 (-1)]).setCells B 5 [.int .i64 (min (x.sent + 1) 1099511627776)] := by
  obtain ⟨m, em, hm2⟩ := run_min (P := Tryd.prog) (x.sent + 1) 1099511627776
  rw [← em]
  have hb := fi_ne hB hp
  have hb' : p ≠ B := fun e => hb e.symm
  have hE : (x.has == -1) = false := by simpa using hh
  have hw : IntKind.i64.wrap (x.sent + 1) = x.sent + 1 := IntWalk.i64_in _ (by omega)
  obtain ⟨Wd, hWd⟩ : ∃ Wd, Wd = W.drew := ⟨_, rfl⟩
  rw [← hWd]
  have B2 : Wd.heap[B]? = some (.cells x.cs.toArray 31 (0, 0)) := by rw [hWd]; exact hB
  have p2 : Wd.heap[p]? = some (.cells #[.int .i64 0] 3 (0, 0)) := by rw [hWd]; exact hp
  obtain ⟨c0, c1, c2, c3, c4, c5, c6⟩ := fi_cells hB
  clear hB hp em
  go_enter Tryd.func27, Tryd.ntmps27
  go_upto_region 3 with fail
  refine wp_region_L [0, 1, 2, 3, 4, 5, 6, 7, 8, 9, 10, 11, 13, 14, 16, 17] [(5, fun W => W.cell? ⟨B, 3, none⟩ = some (.int .i64 x.has)), (9, fun W => W.cell? ⟨B, 5, none⟩ = some (.int .i64 x.sent))] (by kernel_rfl) ?_
  clear c0 c1 c2 c3 c4 c5 c6
  rw [← hWd]
  clear hWd
  obtain ⟨c0, c1, c2, c3, c4, c5, c6⟩ := fi_cells B2
  have f4 := fi_free B2
  obtain ⟨d0, d1⟩ := one_cell p2
  clear B2 p2
  refine wpAnyL_pure (i := 0) (v := .pointer (some ⟨B, 0, none⟩)) rfl rfl (by kernel_rfl) (by kernel_rfl) (by kernel_rfl) (by kernel_rfl) (by kernel_rfl) (fun _ _ _ h => h) rfl (fun W => by go_simp) ?_
  go_simp
  refine wpAnyL_pure (i := 1) (v := .pointer (some ⟨B, 0, none⟩)) rfl rfl (by kernel_rfl) (by kernel_rfl) (by kernel_rfl) (by kernel_rfl) (by kernel_rfl) (fun _ _ _ h => h) rfl (fun W => by go_simp) ?_
  go_simp
  refine wpAnyL_pure (i := 2) (v := .pointer (some ⟨B, 0, none⟩)) rfl rfl (by kernel_rfl) (by kernel_rfl) (by kernel_rfl) (by kernel_rfl) (by kernel_rfl) (fun _ _ _ h => h) rfl (fun W => by go_simp) ?_
  go_simp
  refine wpAnyL_pure (i := 3) (v := .pointer (some ⟨B, 0, none⟩)) rfl rfl (by kernel_rfl) (by kernel_rfl) (by kernel_rfl) (by kernel_rfl) (by kernel_rfl) (fun _ _ _ h => h) rfl (fun W => by go_simp) ?_
  go_simp
  refine wpAnyL_pure (i := 4) (v := .pointer (some ⟨B, 3, none⟩)) rfl rfl (by kernel_rfl) (by kernel_rfl) (by kernel_rfl) (by kernel_rfl) (by kernel_rfl) (fun _ _ _ h => h) rfl (fun W => by go_simp) ?_
  go_simp
  refine wpAnyL_load (i := 5) (v := .int .i64 x.has) rfl rfl (by kernel_rfl) (by kernel_rfl) (by kernel_rfl) (by kernel_rfl) (by kernel_rfl) (fun _ _ _ h => h) rfl (fun W h => by clear c3; go_simp) (c3) ?_
  go_simp
  refine wpAnyL_pure (i := 6) (v := .pointer (some ⟨B, 0, none⟩)) rfl rfl (by kernel_rfl) (by kernel_rfl) (by kernel_rfl) (by kernel_rfl) (by kernel_rfl) (fun _ _ _ h => h) rfl (fun W => by go_simp) ?_
  go_simp
  refine wpAnyL_pure (i := 7) (v := .pointer (some ⟨B, 0, none⟩)) rfl rfl (by kernel_rfl) (by kernel_rfl) (by kernel_rfl) (by kernel_rfl) (by kernel_rfl) (fun _ _ _ h => h) rfl (fun W => by go_simp) ?_
  go_simp
  refine wpAnyL_pure (i := 8) (v := .pointer (some ⟨B, 5, none⟩)) rfl rfl (by kernel_rfl) (by kernel_rfl) (by kernel_rfl) (by kernel_rfl) (by kernel_rfl) (fun _ _ _ h => h) rfl (fun W => by go_simp) ?_
  go_simp
  refine wpAnyL_load (i := 9) (v := .int .i64 x.sent) rfl rfl (by kernel_rfl) (by kernel_rfl) (by kernel_rfl) (by kernel_rfl) (by kernel_rfl) (fun _ _ _ h => h) rfl (fun W h => by clear c5; go_simp) (c5) ?_
  go_simp
  refine wpAnyL_pure (i := 10) (v := .int .i64 (x.sent + 1)) rfl rfl (by kernel_rfl) (by kernel_rfl) (by kernel_rfl) (by kernel_rfl) (by kernel_rfl) (fun _ _ _ h => h) rfl (fun W => by go_simp) ?_
  go_simp
  refine wpAnyL_pure (i := 11) (v := .int .i64 m) rfl rfl (by kernel_rfl) (by kernel_rfl) (by kernel_rfl) (by kernel_rfl) (by kernel_rfl) (fun _ _ _ h => h) rfl (fun W => by go_simp) ?_
  go_simp
  refine wpAnyL_one (i := 12) (by kernel_rfl) ?_
  refine wpOp_do rfl rfl ?_
  go_simp
  refine ⟨keepsL_all (by kernel_rfl) (by kernel_rfl), ?_⟩
  go_simp
  refine wpAnyL_pure (i := 13) (v := .pointer (some ⟨B, 0, none⟩)) rfl rfl (by kernel_rfl) (by kernel_rfl) (by kernel_rfl) (by kernel_rfl) (by kernel_rfl) (fun _ _ _ h => h) rfl (fun W => by go_simp) ?_
  go_simp
  refine wpAnyL_pure (i := 14) (v := .pointer (some ⟨B, 3, none⟩)) rfl rfl (by kernel_rfl) (by kernel_rfl) (by kernel_rfl) (by kernel_rfl) (by kernel_rfl) (fun _ _ _ h => h) rfl (fun W => by go_simp) ?_
  go_simp
  refine wpAnyL_one (i := 15) (by kernel_rfl) ?_
  refine wpOp_do rfl rfl ?_
  go_simp
  refine ⟨keepsL_all (by kernel_rfl) (by kernel_rfl), ?_⟩
  go_simp
  refine wpAnyL_pure (i := 16) (v := .pointer (some ⟨B, 0, none⟩)) rfl rfl (by kernel_rfl) (by kernel_rfl) (by kernel_rfl) (by kernel_rfl) (by kernel_rfl) (fun _ _ _ h => h) rfl (fun W => by go_simp) ?_
  go_simp
  refine wpAnyL_pure (i := 17) (v := .pointer (some ⟨B, 5, none⟩)) rfl rfl (by kernel_rfl) (by kernel_rfl) (by kernel_rfl) (by kernel_rfl) (by kernel_rfl) (fun _ _ _ h => h) rfl (fun W => by go_simp) ?_
  go_simp
  refine wpAnyL_one (i := 18) (by kernel_rfl) ?_
  refine wpOp_do rfl rfl ?_
  go_simp
  refine ⟨keepsL_all (by kernel_rfl) (by kernel_rfl), ?_⟩
  go_simp
  refine wpAnyL_done (by kernel_rfl) ?_ _
  go_wp2_with fail
  go_ret
  exact ⟨rfl, rfl⟩

/-- What Send makes of what stands between. -/
structure SendY (x : Fi) (hd : Int) (f : Fr) (y : Fi) : Prop where
  p : y.m.Perm (x.m ++ [⟨hd, f, x.seq⟩])
  h : Hp y.m 0 y.m.length
  c : y.m.length ≤ y.c
  seq : y.seq = x.seq + 1
  cap : y.cap = x.cap
  has : y.has = x.has
  on : y.on = x.on
  sent : y.sent = x.sent
  lost : y.lost = x.lost
set_option maxRecDepth 100000 in
set_option maxHeartbeats 16000000 in
theorem cnSend1_ok (x : Fi) (hd : Int) (f : Fr) (B p1 p2 : Nat) (W : World) (hB : W.heap[B]? = some (.cells x.cs.toArray 31 (0, 0))) (h1 : W.heap[p1]? = some (.cells #[.int .i64 hd] 3 (0, 0))) (h2 : W.heap[p2]? = some (.cells (frc f).toArray 24 (0, 0)))
    (ho : x.Ok W) (hon : x.on = true) (hh0 : 0 ≤ hd) (hh1 : hd ≤ 1000000) (hf : FP.rightB f = true) (hid : f.id < 4294967296) (hs : x.seq < 1099511627776) (hc : (x.m.length : Int) < x.cap) :
    Calls Tryd.prog 22 #[.pointer (some ⟨B, 0, none⟩), .pointer (some ⟨p1, 0, none⟩), .pointer (some ⟨p2, 0, none⟩)] W fun e W' => ∃ y, e = .returned (.int .i64 0) ∧ W'.heap[B]? = some (.cells y.cs.toArray 31 (0, 0)) ∧ (SendY x hd f y ∧ BxR W' W'.heap.size y.A y.m ∧ Fresh W.heap.size y.A) ∧ Kp (fun k => k = B) W W' := by
  have PU1 := hide (fun (V : World) (q : Below W.heap.size W V) => show Calls Tryd.prog 23 #[.agg (bsc x.A x.m.length x.c x.seq x.cap).toArray, .int .i64 hd, .agg (frc f).toArray] V fun e w' => ∃ A c m, e = .returned (.tuple #[.agg (bsc A m.length c (x.seq + 1) x.cap).toArray, .int .i64 0]) ∧ BxR w' w'.heap.size A m ∧ Fresh V.heap.size A ∧ Hid (m.Perm (x.m ++ [⟨hd, f, x.seq⟩]) ∧ Hp m 0 m.length ∧ m.length ≤ c) ∧ Below V.heap.size V w' from by
    refine (put_ok x.m x.A x.c x.seq x.cap hd f V (Rd.next ho.r q q.size) ho.cl ho.id hid ho.rt hh0 hh1 hf hs hc).mono ?_
    rintro e w' ⟨A, c, m, rfl, ow, hp, hh, q⟩
    exact ⟨A, c, m, rfl, ow.rd (bxc_rows _), fresh_own ow, ⟨hp, hh, by have := ow.le; rwa [List.length_map] at this⟩, q⟩)
  have B' := hide hB
  have P1 := hide h1
  have P2 := hide h2
  have Q := hide (Below.refl W.heap.size W)
  obtain ⟨c0, c1, c2, c3, c4, c5, c6⟩ := fi_cells hB
  rw [hon] at c4
  clear hB h1 h2 ho hon hh0 hh1 hf hid hs hc
  have B1 := B'
  clear B'
  go_enter Tryd.func22, Tryd.ntmps22
  go_upto_region 3 with fail
  clear c0 c1 c2 c3 c4 c5 c6
  refine wp_region_L [0, 1, 2, 3, 4, 5, 7, 8, 9] [(3, fun W => W.heap[B]? = some (.cells x.cs.toArray 31 (0, 0))), (4, fun W => W.heap[p1]? = some (.cells ([.int .i64 hd]).toArray 3 (0, 0))), (5, fun W => W.heap[p2]? = some (.cells (frc f).toArray 24 (0, 0)))] (by kernel_rfl) ?_
  replace B1 := hide (show W.drew.heap[B]? = some (.cells x.cs.toArray 31 (0, 0)) from B1.out)
  replace P1 := hide (show W.drew.heap[p1]? = some (.cells ([.int .i64 hd]).toArray 3 (0, 0)) from P1.out)
  replace P2 := hide (show W.drew.heap[p2]? = some (.cells (frc f).toArray 24 (0, 0)) from P2.out)
  replace Q := hide (show Below W.heap.size W W.drew from Q.out.drew)
  generalize W.drew = w1' at *
  refine wpAnyL_pure (i := 0) (v := .pointer (some ⟨B, 0, none⟩)) rfl rfl (by kernel_rfl) (by kernel_rfl) (by kernel_rfl) (by kernel_rfl) (by kernel_rfl) (fun _ _ _ h => h) rfl (fun W => by go_simp) ?_
  go_simp
  refine wpAnyL_pure (i := 1) (v := .pointer (some ⟨B, 0, none⟩)) rfl rfl (by kernel_rfl) (by kernel_rfl) (by kernel_rfl) (by kernel_rfl) (by kernel_rfl) (fun _ _ _ h => h) rfl (fun W => by go_simp) ?_
  go_simp
  refine wpAnyL_pure (i := 2) (v := .pointer (some ⟨B, 0, none⟩)) rfl rfl (by kernel_rfl) (by kernel_rfl) (by kernel_rfl) (by kernel_rfl) (by kernel_rfl) (fun _ _ _ h => h) rfl (fun W => by go_simp) ?_
  go_simp
  refine wpAnyL_load (i := 3) (v := .agg (bsc x.A x.m.length x.c x.seq x.cap).toArray) rfl rfl (by kernel_rfl) (by kernel_rfl) (by kernel_rfl) (by kernel_rfl) (by kernel_rfl) (fun _ _ _ h => h) rfl (fun W h => exec_load W B 0 29 (bsc x.A x.m.length x.c x.seq x.cap) _ (fi_bs h) Tryd.underlying29 rfl (by kernel_rfl) _ _ (.tmp 15) (by rfl) (by rfl)) (B1.out) ?_
  go_simp
  refine wpAnyL_load (i := 4) (v := .int .i64 hd) rfl rfl (by kernel_rfl) (by kernel_rfl) (by kernel_rfl) (by kernel_rfl) (by kernel_rfl) (fun _ _ _ h => h) rfl (fun W h => by have h0 : W.cell? ⟨p1, 0, none⟩ = some (.int .i64 hd) := (by simp [World.cell?, h]); clear h; go_simp) (P1.out) ?_
  go_simp
  refine wpAnyL_load (i := 5) (v := .agg (frc f).toArray) rfl rfl (by kernel_rfl) (by kernel_rfl) (by kernel_rfl) (by kernel_rfl) (by kernel_rfl) (fun _ _ _ h => h) rfl (fun W h => exec_heap W p2 24 (frc f) _ h Tryd.underlying24 rfl (by kernel_rfl) _ _ (.tmp 2) (by rfl) (by rfl)) (P2.out) ?_
  go_simp
  refine wpAnyL_two (i := 6) (k := 10) (by kernel_rfl) ?_ ?_
  · refine wpOp_do rfl rfl ?_
    go_simp
    have zq := Q.out.size
    have R1 := hide (PU1.out w1' Q.out)
    (with_reducible refine (R1.out).mono ?_)
    rintro ew2' w2' ⟨A2, c2, m2, rfl, RN, FRN, HP, qw2'⟩
    have O_RN_B1 := hide (show Off A2 (m2.map bxc).length B from off_fresh FRN (heap_lt B1.out))
    have O_RN_P1 := hide (show Off A2 (m2.map bxc).length p1 from off_fresh FRN (heap_lt P1.out))
    have O_RN_P2 := hide (show Off A2 (m2.map bxc).length p2 from off_fresh FRN (heap_lt P2.out))
    replace B1 := hide (heap_below B1.out qw2')
    replace P1 := hide (heap_below P1.out qw2')
    replace P2 := hide (heap_below P2.out qw2')
    replace Q := hide (below_next Q.out Q.out.size qw2')
    clear qw2'
    replace RN := hide (show Rd w2' w2'.heap.size A2 7 (m2.map bxc) from RN)
    replace FRN := hide FRN
    clear R1 PU1
    have FF := hide (show Fresh W.heap.size A2 from FRN.out.mono zq)
    clear FRN zq
    go_simp
    refine ⟨keepsL_mk (by kernel_rfl) (.cons B1.out (.cons P1.out (.cons P2.out .nil))), ?_⟩
    go_simp
    refine wpAnyL_pure (i := 7) (v := .tuple #[.agg (bsc A2 m2.length c2 (x.seq + 1) x.cap).toArray, .int .i64 0]) rfl rfl (by kernel_rfl) (by kernel_rfl) (by kernel_rfl) (by kernel_rfl) (by kernel_rfl) (fun _ _ _ h => h) rfl (fun W => by go_simp) ?_
    go_simp
    refine wpAnyL_pure (i := 8) (v := .agg (bsc A2 m2.length c2 (x.seq + 1) x.cap).toArray) rfl rfl (by kernel_rfl) (by kernel_rfl) (by kernel_rfl) (by kernel_rfl) (by kernel_rfl) (fun _ _ _ h => h) rfl (fun W => by go_simp) ?_
    go_simp
    refine wpAnyL_pure (i := 9) (v := .int .i64 0) rfl rfl (by kernel_rfl) (by kernel_rfl) (by kernel_rfl) (by kernel_rfl) (by kernel_rfl) (fun _ _ _ h => h) rfl (fun W => by go_simp) ?_
    go_simp
    refine wpAnyL_one (i := 10) (by kernel_rfl) ?_
    refine wpOp_do rfl rfl ?_
    go_simp
    have Z := hide (World.alloc_heap_new w2' (.cells (bsc none 0 0 0 0).toArray 29))
    have zB1z : B < w2'.heap.size := heap_lt B1.out
    have zP1z : p1 < w2'.heap.size := heap_lt P1.out
    have zP2z : p2 < w2'.heap.size := heap_lt P2.out
    have O_RN_Z := hide (off_new (x := w2'.heap.size) RN.out (by omega))
    have zQz : W.heap.size ≤ w2'.heap.size := Q.out.size
    have q4' : Below w2'.heap.size w2' (w2'.alloc (.cells (bsc none 0 0 0 0).toArray 29)) := (Below.refl _ _).alloc (Nat.le_refl _) _
    replace B1 := hide (heap_below B1.out q4')
    replace P1 := hide (heap_below P1.out q4')
    replace P2 := hide (heap_below P2.out q4')
    replace RN := hide (Rd.next RN.out q4' q4'.size)
    replace Q := hide (below_next Q.out Q.out.size q4')
    clear q4'
    refine ⟨keepsL_mk (by kernel_rfl) (.cons B1.out (.cons P1.out (.cons P2.out .nil))), ?_⟩
    change wpAnyL _ _ _ _ _ _ _ _ _ (w2'.alloc (.cells (bsc none 0 0 0 0).toArray 29))
    generalize w2'.alloc (.cells (bsc none 0 0 0 0).toArray 29) = w3' at *
    generalize w2'.heap.size = z at *
    go_simp
    refine wpAnyL_one (i := 11) (by kernel_rfl) ?_
    refine wpOp_do rfl rfl ?_
    have Tw5' := hide (show World.there _ z 0 3 from there_heap (cs := bsc none 0 0 0 0) Z.out)
    refine wp_store_as 29 (.tmp 5) (.tmp 20) rfl z 0 (bsc A2 m2.length c2 (x.seq + 1) x.cap) (by rfl) (by rfl) (by exact Tw5'.out) (by kernel_rfl) (by simp [Value.oneCell', bsc]) ?_
    intro w5' ew5'
    replace B1 := hide (show w5'.heap[B]? = some (.cells x.cs.toArray 31 (0, 0)) by rw [ew5']; exact other_heap (by omega) _ _ _ B1.out)
    replace P1 := hide (show w5'.heap[p1]? = some (.cells ([.int .i64 hd]).toArray 3 (0, 0)) by rw [ew5']; exact other_heap (by omega) _ _ _ P1.out)
    replace P2 := hide (show w5'.heap[p2]? = some (.cells (frc f).toArray 24 (0, 0)) by rw [ew5']; exact other_heap (by omega) _ _ _ P2.out)
    replace RN := hide (show Rd w5' w5'.heap.size A2 7 (m2.map bxc) by rw [ew5']; exact off_set RN.out O_RN_Z.out _ _)
    replace Q := hide (show Below W.heap.size W w5' by rw [ew5']; exact Q.out.trans (below_setCells _ _ _ (by have := Q.out.size; omega)))
    replace Z := hide (show w5'.heap[z]? = some (.cells (bsc A2 m2.length c2 (x.seq + 1) x.cap).toArray 29 (0, 0)) by rw [ew5']; exact whole_heap (bsc A2 m2.length c2 (x.seq + 1) x.cap) (xs := bsc none 0 0 0 0) Z.out rfl)
    clear ew5' Tw5'
    refine ⟨keepsL_mk (by kernel_rfl) (.cons B1.out (.cons P1.out (.cons P2.out .nil))), ?_⟩
    go_simp
    refine wpAnyL_one (i := 12) (by kernel_rfl) ?_
    refine wpOp_do rfl rfl ?_
    go_simp
    refine ⟨keepsL_mk (by kernel_rfl) (.cons B1.out (.cons P1.out (.cons P2.out .nil))), ?_⟩
    go_simp
    refine wpAnyL_done (by kernel_rfl) ?_ _
    have TB := hide (there_le (show World.there _ B 0 7 from there_heap (cs := x.cs) B1.out) (show 3 ≤ 7 by omega))
    go_wp2_with (first | (refine wpList_load_row rfl 29 (.tmp 5) (by rfl) z (by rfl) 29 (bsc A2 m2.length c2 (x.seq + 1) x.cap).toArray (0, 0) _ (by exact Z.out) Tryd.underlying29 (by rfl) (by kernel_rfl) ?_) | (refine wpList_store_hid (by rfl) 29 (.tmp 25) (.tmp 23) (by rfl) B 0 (bsc A2 m2.length c2 (x.seq + 1) x.cap) (by rfl) (by rfl) (by exact TB.out) (by kernel_rfl) (by simp [Value.oneCell', bsc]) ?_))
    intro w6 e6
    have B6 := hide (show w6.heap[B]? = some (.cells (Fi.cs ⟨A2, m2, c2, x.seq + 1, x.cap, x.has, x.on, x.sent, x.lost⟩).toArray 31 (0, 0)) by rw [e6.out]; exact set_heap (bsc A2 m2.length c2 (x.seq + 1) x.cap) x.cs 0 _ B1.out)
    have R6 := hide (show Rd w6 w6.heap.size A2 7 (m2.map bxc) by rw [e6.out]; exact off_set RN.out O_RN_B1.out _ _)
    have K6 := hide (show Kp (fun k => k = B) W w6 by rw [e6.out]; exact (Kp.of Q.out).trans (Kp.set _ _ _ _ rfl))
    clear e6 TB B1 P1 P2 Q RN Z
    go_wp2_with fail
    go_ret
    obtain ⟨i1, i2, i3⟩ := HP.out
    exact ⟨⟨A2, m2, c2, x.seq + 1, x.cap, x.has, x.on, x.sent, x.lost⟩, rfl, B6.out, ⟨⟨i1, i2, i3, rfl, rfl, rfl, rfl, rfl, rfl⟩, R6.out, FF.out⟩, K6.out⟩
  · refine wpOp_do rfl rfl ?_
    go_simp
    have Z := hide (World.alloc_heap_new w1' (.cells (bsc none 0 0 0 0).toArray 29))
    have zB1z : B < w1'.heap.size := heap_lt B1.out
    have zP1z : p1 < w1'.heap.size := heap_lt P1.out
    have zP2z : p2 < w1'.heap.size := heap_lt P2.out
    have zQz : W.heap.size ≤ w1'.heap.size := Q.out.size
    have q7' : Below w1'.heap.size w1' (w1'.alloc (.cells (bsc none 0 0 0 0).toArray 29)) := (Below.refl _ _).alloc (Nat.le_refl _) _
    replace B1 := hide (heap_below B1.out q7')
    replace P1 := hide (heap_below P1.out q7')
    replace P2 := hide (heap_below P2.out q7')
    replace Q := hide (below_next Q.out Q.out.size q7')
    clear q7'
    refine ⟨keepsL_mk (by kernel_rfl) (.cons B1.out (.cons P1.out (.cons P2.out .nil))), ?_⟩
    change wpAnyL _ _ _ _ _ _ _ _ _ (w1'.alloc (.cells (bsc none 0 0 0 0).toArray 29))
    generalize w1'.alloc (.cells (bsc none 0 0 0 0).toArray 29) = w6' at *
    generalize w1'.heap.size = z at *
    go_simp
    refine wpAnyL_one (i := 6) (by kernel_rfl) ?_
    refine wpOp_do rfl rfl ?_
    go_simp
    have zq := Q.out.size
    have R1 := hide (PU1.out w6' Q.out)
    (with_reducible refine (R1.out).mono ?_)
    rintro ew8' w8' ⟨A2, c2, m2, rfl, RN, FRN, HP, qw8'⟩
    have O_RN_B1 := hide (show Off A2 (m2.map bxc).length B from off_fresh FRN (heap_lt B1.out))
    have O_RN_P1 := hide (show Off A2 (m2.map bxc).length p1 from off_fresh FRN (heap_lt P1.out))
    have O_RN_P2 := hide (show Off A2 (m2.map bxc).length p2 from off_fresh FRN (heap_lt P2.out))
    have O_RN_Z := hide (show Off A2 (m2.map bxc).length z from off_fresh FRN (heap_lt Z.out))
    replace B1 := hide (heap_below B1.out qw8')
    replace P1 := hide (heap_below P1.out qw8')
    replace P2 := hide (heap_below P2.out qw8')
    replace Z := hide (heap_below Z.out qw8')
    replace Q := hide (below_next Q.out Q.out.size qw8')
    clear qw8'
    replace RN := hide (show Rd w8' w8'.heap.size A2 7 (m2.map bxc) from RN)
    replace FRN := hide FRN
    clear R1 PU1
    have FF := hide (show Fresh W.heap.size A2 from FRN.out.mono zq)
    clear FRN zq
    go_simp
    refine ⟨keepsL_mk (by kernel_rfl) (.cons B1.out (.cons P1.out (.cons P2.out .nil))), ?_⟩
    go_simp
    refine wpAnyL_pure (i := 7) (v := .tuple #[.agg (bsc A2 m2.length c2 (x.seq + 1) x.cap).toArray, .int .i64 0]) rfl rfl (by kernel_rfl) (by kernel_rfl) (by kernel_rfl) (by kernel_rfl) (by kernel_rfl) (fun _ _ _ h => h) rfl (fun W => by go_simp) ?_
    go_simp
    refine wpAnyL_pure (i := 8) (v := .agg (bsc A2 m2.length c2 (x.seq + 1) x.cap).toArray) rfl rfl (by kernel_rfl) (by kernel_rfl) (by kernel_rfl) (by kernel_rfl) (by kernel_rfl) (fun _ _ _ h => h) rfl (fun W => by go_simp) ?_
    go_simp
    refine wpAnyL_pure (i := 9) (v := .int .i64 0) rfl rfl (by kernel_rfl) (by kernel_rfl) (by kernel_rfl) (by kernel_rfl) (by kernel_rfl) (fun _ _ _ h => h) rfl (fun W => by go_simp) ?_
    go_simp
    refine wpAnyL_one (i := 11) (by kernel_rfl) ?_
    refine wpOp_do rfl rfl ?_
    have Tw9' := hide (show World.there _ z 0 3 from there_heap (cs := bsc none 0 0 0 0) Z.out)
    refine wp_store_as 29 (.tmp 5) (.tmp 20) rfl z 0 (bsc A2 m2.length c2 (x.seq + 1) x.cap) (by rfl) (by rfl) (by exact Tw9'.out) (by kernel_rfl) (by simp [Value.oneCell', bsc]) ?_
    intro w9' ew9'
    replace B1 := hide (show w9'.heap[B]? = some (.cells x.cs.toArray 31 (0, 0)) by rw [ew9']; exact other_heap (by omega) _ _ _ B1.out)
    replace P1 := hide (show w9'.heap[p1]? = some (.cells ([.int .i64 hd]).toArray 3 (0, 0)) by rw [ew9']; exact other_heap (by omega) _ _ _ P1.out)
    replace P2 := hide (show w9'.heap[p2]? = some (.cells (frc f).toArray 24 (0, 0)) by rw [ew9']; exact other_heap (by omega) _ _ _ P2.out)
    replace RN := hide (show Rd w9' w9'.heap.size A2 7 (m2.map bxc) by rw [ew9']; exact off_set RN.out O_RN_Z.out _ _)
    replace Q := hide (show Below W.heap.size W w9' by rw [ew9']; exact Q.out.trans (below_setCells _ _ _ (by have := Q.out.size; omega)))
    replace Z := hide (show w9'.heap[z]? = some (.cells (bsc A2 m2.length c2 (x.seq + 1) x.cap).toArray 29 (0, 0)) by rw [ew9']; exact whole_heap (bsc A2 m2.length c2 (x.seq + 1) x.cap) (xs := bsc none 0 0 0 0) Z.out rfl)
    clear ew9' Tw9'
    refine ⟨keepsL_mk (by kernel_rfl) (.cons B1.out (.cons P1.out (.cons P2.out .nil))), ?_⟩
    go_simp
    refine wpAnyL_one (i := 12) (by kernel_rfl) ?_
    refine wpOp_do rfl rfl ?_
    go_simp
    refine ⟨keepsL_mk (by kernel_rfl) (.cons B1.out (.cons P1.out (.cons P2.out .nil))), ?_⟩
    go_simp
    refine wpAnyL_done (by kernel_rfl) ?_ _
    have TB := hide (there_le (show World.there _ B 0 7 from there_heap (cs := x.cs) B1.out) (show 3 ≤ 7 by omega))
    go_wp2_with (first | (refine wpList_load_row rfl 29 (.tmp 5) (by rfl) z (by rfl) 29 (bsc A2 m2.length c2 (x.seq + 1) x.cap).toArray (0, 0) _ (by exact Z.out) Tryd.underlying29 (by rfl) (by kernel_rfl) ?_) | (refine wpList_store_hid (by rfl) 29 (.tmp 25) (.tmp 23) (by rfl) B 0 (bsc A2 m2.length c2 (x.seq + 1) x.cap) (by rfl) (by rfl) (by exact TB.out) (by kernel_rfl) (by simp [Value.oneCell', bsc]) ?_))
    intro w6 e6
    have B6 := hide (show w6.heap[B]? = some (.cells (Fi.cs ⟨A2, m2, c2, x.seq + 1, x.cap, x.has, x.on, x.sent, x.lost⟩).toArray 31 (0, 0)) by rw [e6.out]; exact set_heap (bsc A2 m2.length c2 (x.seq + 1) x.cap) x.cs 0 _ B1.out)
    have R6 := hide (show Rd w6 w6.heap.size A2 7 (m2.map bxc) by rw [e6.out]; exact off_set RN.out O_RN_B1.out _ _)
    have K6 := hide (show Kp (fun k => k = B) W w6 by rw [e6.out]; exact (Kp.of Q.out).trans (Kp.set _ _ _ _ rfl))
    clear e6 TB B1 P1 P2 Q RN Z
    go_wp2_with fail
    go_ret
    obtain ⟨i1, i2, i3⟩ := HP.out
    exact ⟨⟨A2, m2, c2, x.seq + 1, x.cap, x.has, x.on, x.sent, x.lost⟩, rfl, B6.out, ⟨⟨i1, i2, i3, rfl, rfl, rfl, rfl, rfl, rfl⟩, R6.out, FF.out⟩, K6.out⟩

/-- What Next makes of what stands between, when it gives something. -/
structure NextY (x : Fi) (y : Fi) : Prop where
  p : (y.m ++ [at' x.m 0]).Perm x.m
  h : Hp y.m 0 y.m.length
  c : y.m.length ≤ y.c
  seq : y.seq = x.seq
  cap : y.cap = x.cap
  has : y.has = (at' x.m 0).h
  on : y.on = x.on
  sent : y.sent = x.sent
  lost : y.lost = x.lost
theorem at_mem {l : List Bx} (h : 0 < l.length) : at' l 0 ∈ l := by
  unfold at'
  rw [List.getElem?_eq_getElem h]
  exact List.getElem_mem h
set_option maxRecDepth 100000 in
set_option maxHeartbeats 16000000 in
theorem cnNext1_same (x : Fi) (c : Cl) (B p : Nat) (W : World) (hB : W.heap[B]? = some (.cells x.cs.toArray 31 (0, 0))) (hC : W.heap[p]? = some (.cells c.cs.toArray 40 (0, 0))) (hc : c.Ok)
    (h : x.on = false ∨ c.has = true ∨ x.has ≠ -1 ∨ x.m = []) :
    Calls Tryd.prog 17 #[.pointer (some ⟨B, 0, none⟩), .pointer (some ⟨p, 0, none⟩)] W fun e W' => e = .returned (.int .i64 0) ∧ Below W.heap.size W W' := by
  have RC := hide (fun V => ctlRight_ok c V hc)
  have B1 := hide hB
  have C1 := hide hC
  have Q := hide (Below.refl W.heap.size W)
  have h' : x.on = false ∨ x.on = true ∧ (c.has = true ∨ c.has = false ∧ (x.has ≠ -1 ∨ x.has = -1 ∧ x.m.length = 0)) := by
    cases e1 : x.on
    · exact .inl rfl
    · refine .inr ⟨rfl, ?_⟩
      cases e2 : c.has
      · refine .inr ⟨rfl, ?_⟩
        by_cases e3 : x.has = -1
        · refine .inr ⟨e3, ?_⟩
          rcases h with h | h | h | h
          · rw [e1] at h; cases h
          · rw [e2] at h; cases h
          · exact absurd e3 h
          · rw [h]; rfl
        · exact .inl e3
      · exact .inl rfl
  clear h hB hC hc
  go_enter Tryd.func17, Tryd.ntmps17
  go_wp2_with (refine wpList_load_row rfl 40 (.tmp 1) (by rfl) p (by rfl) 40 c.cs.toArray (0, 0) _ (by exact C1.out) Tryd.underlying40 (by rfl) (by kernel_rfl) ?_)
  (with_reducible refine (RC.out _).mono ?_)
  rintro ew1' w1' ⟨rfl, qw1'⟩
  replace B1 := hide (heap_below B1.out qw1')
  replace C1 := hide (heap_below C1.out qw1')
  replace Q := hide (below_next Q.out Q.out.size qw1')
  clear qw1'
  clear RC
  obtain ⟨c0, c1, c2, c3, c4, c5, c6⟩ := fi_cells B1.out
  obtain ⟨-, ⟨-, -, -, -, k8⟩, -⟩ := cl_cells C1.out
  rcases h' with h1 | ⟨h1, h2 | ⟨h2, h3 | ⟨h3, h4⟩⟩⟩
  ·
    rw [h1] at c4
    go_wp2_with fail
    go_ret
    exact ⟨rfl, Q.out⟩
  ·
    rw [h1] at c4
    rw [h2] at k8
    go_wp2_with fail
    go_ret
    exact ⟨rfl, Q.out⟩
  ·
    rw [h1] at c4
    rw [h2] at k8
    have hE : (x.has == -1) = false := by simpa using h3
    have hE2 : (x.has != -1) = true := by simpa using h3
    go_wp2_with fail
    go_ret
    exact ⟨rfl, Q.out⟩
  ·
    rw [h1] at c4
    rw [h2] at k8
    rw [h3] at c3
    rw [h4] at c0
    go_wp2_with fail
    go_ret
    exact ⟨rfl, Q.out⟩

set_option maxRecDepth 100000 in
set_option maxHeartbeats 16000000 in
theorem cnNext1_take (x : Fi) (c : Cl) (B p : Nat) (W : World) (hB : W.heap[B]? = some (.cells x.cs.toArray 31 (0, 0))) (hC : W.heap[p]? = some (.cells c.cs.toArray 40 (0, 0))) (hBp : B ≠ p) (ho : x.Ok W) (hc : c.Ok)
    (hon : x.on = true) (hch : c.has = false) (hxh : x.has = -1) (hm : 0 < x.m.length) :
    Calls Tryd.prog 17 #[.pointer (some ⟨B, 0, none⟩), .pointer (some ⟨p, 0, none⟩)] W fun e W' => ∃ y, e = .returned (.int .i64 0) ∧ W'.heap[B]? = some (.cells y.cs.toArray 31 (0, 0)) ∧ (NextY x y ∧ BxR W' W'.heap.size y.A y.m ∧ Fresh W.heap.size y.A ∧ W'.heap[p]? = some (.cells (c.give (at' x.m 0).f).cs.toArray 40 (0, 0))) ∧ Kp (fun k => k = B ∨ k = p) W W' := by
  have hRR := right_iff.1 ho.rt
  have hfr : FP.rightB (at' x.m 0).f = true := (hRR.2.2.2.2.2.1 _ (at_mem hm)).1
  have hfid : (at' x.m 0).f.id < 4294967296 := ho.id _ (at_mem hm)
  have RC := hide (fun V => ctlRight_ok c V hc)
  have SU := hide (fun V => show Calls Tryd.prog 20 #[.agg c.cs.toArray, .agg (frc (at' x.m 0).f).toArray] V fun e w' => e = .returned (.tuple #[.agg (c.give (at' x.m 0).f).cs.toArray, .int .i64 0]) ∧ Below V.heap.size V w' from by
    have h := ctlSubmit_ok c (at' x.m 0).f V hc hfid
    have e1 : c.subC (at' x.m 0).f = c.give (at' x.m 0).f := by unfold Cl.subC; rw [if_neg (by rw [hfr]; decide), if_neg (by rw [hch]; decide)]
    have e2 : c.subE (at' x.m 0).f = 0 := by unfold Cl.subE; rw [if_neg (by rw [hfr]; decide), if_neg (by rw [hch]; decide)]
    rwa [e1, e2] at h)
  have TK := hide (fun (V : World) (q : Below W.heap.size W V) => show Calls Tryd.prog 19 #[.agg (bsc x.A x.m.length x.c x.seq x.cap).toArray] V fun e w' => ∃ A c m, e = .returned (.tuple #[.agg (bsc A m.length c x.seq x.cap).toArray, .agg (bxc (at' x.m 0)).toArray, .int .i64 0]) ∧ BxR w' w'.heap.size A m ∧ Fresh V.heap.size A ∧ Hid ((m ++ [at' x.m 0]).Perm x.m ∧ Hp m 0 m.length ∧ m.length ≤ c) ∧ Below V.heap.size V w' from by
    refine (take_ok x.m x.A x.c x.seq x.cap V (Rd.next ho.r q q.size) ho.cl ho.id ho.rt hm).mono ?_
    rintro e w' ⟨A, c, m, rfl, ow, hp, hh, q⟩
    exact ⟨A, c, m, rfl, ow.rd (bxc_rows _), fresh_own ow, ⟨hp, hh, by have := ow.le; rwa [List.length_map] at this⟩, q⟩)
  have B1 := hide hB
  have C1 := hide hC
  have Q := hide (Below.refl W.heap.size W)
  have hm0 : ¬ (x.m.length : Int) = 0 := by omega
  clear hB hC hc ho hm hRR hfr hfid
  obtain ⟨b, hb⟩ : ∃ b, b = at' x.m 0 := ⟨_, rfl⟩
  have HBb := hide hb
  rw [← hb] at SU TK ⊢
  clear hb
  go_enter Tryd.func17, Tryd.ntmps17
  go_wp2_with (refine wpList_load_row rfl 40 (.tmp 1) (by rfl) p (by rfl) 40 c.cs.toArray (0, 0) _ (by exact C1.out) Tryd.underlying40 (by rfl) (by kernel_rfl) ?_)
  (with_reducible refine (RC.out _).mono ?_)
  rintro ew1' w1' ⟨rfl, qw1'⟩
  replace B1 := hide (heap_below B1.out qw1')
  replace C1 := hide (heap_below C1.out qw1')
  replace Q := hide (below_next Q.out Q.out.size qw1')
  clear qw1'
  clear RC
  obtain ⟨c0, c1, c2, c3, c4, c5, c6⟩ := fi_cells B1.out
  obtain ⟨-, ⟨-, -, -, -, k8⟩, -⟩ := cl_cells C1.out
  rw [hon] at c4
  rw [hxh] at c3
  rw [hch] at k8
  go_upto_region 5 with fail
  clear c0 c1 c2 c3 c4 c5 c6 k8 hm0
  have zq := Q.out.size
  have R1 := hide (TK.out w1' Q.out)
  go_wp2_with (refine wpList_load_mid rfl 29 (.tmp 38) (by rfl) B 0 (by rfl) (bsc x.A x.m.length x.c x.seq x.cap) _ (by exact fi_bs B1.out) Tryd.underlying29 (by rfl) (by kernel_rfl) ?_)
  (with_reducible refine (R1.out).mono ?_)
  rintro ew2' w2' ⟨A2, c2, m2, rfl, RN, FRN, HP, qw2'⟩
  have O_RN_B1 := hide (show Off A2 (m2.map bxc).length B from off_fresh FRN (heap_lt B1.out))
  have O_RN_C1 := hide (show Off A2 (m2.map bxc).length p from off_fresh FRN (heap_lt C1.out))
  replace B1 := hide (heap_below B1.out qw2')
  replace C1 := hide (heap_below C1.out qw2')
  replace Q := hide (below_next Q.out Q.out.size qw2')
  clear qw2'
  replace RN := hide (show Rd w2' w2'.heap.size A2 7 (m2.map bxc) from RN)
  replace FRN := hide FRN
  clear R1 TK
  have FF := hide (show Fresh W.heap.size A2 from FRN.out.mono zq)
  clear FRN zq
  have Z := heap_below (World.alloc_heap_new w2' (.cells (bsc none 0 0 0 0).toArray 29)) ((Below.refl _ _).alloc (Nat.le_refl _) (.cells (bxc zBx).toArray 60))
  have Y := World.alloc_heap_new (w2'.alloc (.cells (bsc none 0 0 0 0).toArray 29)) (.cells (bxc zBx).toArray 60)
  simp only [World.size_alloc] at Y
  have zB1z : B < w2'.heap.size := heap_lt B1.out
  have zC1z : p < w2'.heap.size := heap_lt C1.out
  have O_RN_Z := hide (off_new (x := w2'.heap.size) RN.out (by omega))
  have O_RN_Y := hide (off_new (x := w2'.heap.size + 1) RN.out (by omega))
  have zQz : W.heap.size ≤ w2'.heap.size := Q.out.size
  obtain ⟨w4', hw4'⟩ : ∃ wx, wx = (w2'.alloc (.cells (bsc none 0 0 0 0).toArray 29)).alloc (.cells (bxc zBx).toArray 60) := ⟨_, rfl⟩
  have q3' := hide (show Below w2'.heap.size w2' w4' by rw [hw4']; exact ((Below.refl _ _).alloc (Nat.le_refl _) _).alloc (by simp) _)
  rw [← hw4'] at Z Y
  replace Z := hide Z
  replace Y := hide Y
  have Tw5' := hide (show ((w2'.alloc (.cells (bsc none 0 0 0 0).toArray 29)).alloc (.cells (bxc zBx).toArray 60)).there w2'.heap.size 0 3 by rw [← hw4']; exact there_heap (cs := bsc none 0 0 0 0) Z.out)
  go_wp2_with (refine wpList_store_hid (by rfl) 29 (.tmp 4) (.tmp 41) (by rfl) w2'.heap.size 0 (bsc A2 m2.length c2 x.seq x.cap) (by rfl) (by rfl) (by exact Tw5'.out) (by kernel_rfl) (by simp [Value.oneCell', bsc]) ?_)
  intro w5' ew5'
  replace ew5' : Hid (w5' = w4'.setCells w2'.heap.size 0 (bsc A2 m2.length c2 x.seq x.cap)) := by rw [hw4']; exact ew5'
  replace Y := hide (show w5'.heap[w2'.heap.size + 1]? = some (.cells (bxc zBx).toArray 60 (0, 0)) by rw [ew5'.out]; exact other_heap (by omega) _ _ _ Y.out)
  replace Z := hide (show w5'.heap[w2'.heap.size]? = some (.cells (bsc A2 m2.length c2 x.seq x.cap).toArray 29 (0, 0)) by rw [ew5'.out]; exact whole_heap (bsc A2 m2.length c2 x.seq x.cap) (xs := bsc none 0 0 0 0) Z.out rfl)
  replace q3' := hide (show Below w2'.heap.size w2' w5' by rw [ew5'.out]; exact q3'.out.trans (below_setCells _ _ _ (by omega)))
  clear ew5' Tw5' hw4'
  have Tw6' := hide (show w5'.there (w2'.heap.size + 1) 0 7 from there_heap (cs := bxc zBx) Y.out)
  go_wp2_with (refine wpList_store_hid (by rfl) 60 (.tmp 5) (.tmp 42) (by rfl) (w2'.heap.size + 1) 0 (bxc b) (by rfl) (by rfl) (by exact Tw6'.out) (by kernel_rfl) (by simp [Value.oneCell', bxc]) ?_)
  intro w6' ew6'
  replace Z := hide (show w6'.heap[w2'.heap.size]? = some (.cells (bsc A2 m2.length c2 x.seq x.cap).toArray 29 (0, 0)) by rw [ew6'.out]; exact other_heap (by omega) _ _ _ Z.out)
  replace Y := hide (show w6'.heap[w2'.heap.size + 1]? = some (.cells (bxc b).toArray 60 (0, 0)) by rw [ew6'.out]; exact whole_heap (bxc b) (xs := bxc zBx) Y.out rfl)
  replace q3' := hide (show Below w2'.heap.size w2' w6' by rw [ew6'.out]; exact q3'.out.trans (below_setCells _ _ _ (by omega)))
  clear ew6' Tw6'
  replace B1 := hide (heap_below B1.out q3'.out)
  replace C1 := hide (heap_below C1.out q3'.out)
  replace RN := hide (Rd.next RN.out q3'.out q3'.out.size)
  replace Q := hide (below_next Q.out Q.out.size q3'.out)
  clear q3'
  generalize w2'.heap.size = z at *
  go_upto_region 8 with fail
  refine wp_region_L [0, 1, 2, 3, 4, 5, 6, 8, 9] [(2, fun W => W.heap[z]? = some (.cells (bsc A2 m2.length c2 x.seq x.cap).toArray 29 (0, 0))), (4, fun W => W.heap[z + 1]? = some (.cells (bxc b).toArray 60 (0, 0)))] (by kernel_rfl) ?_
  replace B1 := hide (show w6'.drew.heap[B]? = some (.cells x.cs.toArray 31 (0, 0)) from B1.out)
  replace C1 := hide (show w6'.drew.heap[p]? = some (.cells c.cs.toArray 40 (0, 0)) from C1.out)
  replace Z := hide (show w6'.drew.heap[z]? = some (.cells (bsc A2 m2.length c2 x.seq x.cap).toArray 29 (0, 0)) from Z.out)
  replace Y := hide (show w6'.drew.heap[z + 1]? = some (.cells (bxc b).toArray 60 (0, 0)) from Y.out)
  replace RN := hide (show Rd (w6'.drew) (w6'.drew).heap.size A2 7 (m2.map bxc) from RN.out)
  replace Q := hide (show Below W.heap.size W w6'.drew from Q.out.drew)
  generalize w6'.drew = w7' at *
  refine wpAnyL_pure (i := 0) (v := .pointer (some ⟨B, 0, none⟩)) rfl rfl (by kernel_rfl) (by kernel_rfl) (by kernel_rfl) (by kernel_rfl) (by kernel_rfl) (fun _ _ _ h => h) rfl (fun W => by go_simp) ?_
  go_simp
  refine wpAnyL_pure (i := 1) (v := .pointer (some ⟨B, 0, none⟩)) rfl rfl (by kernel_rfl) (by kernel_rfl) (by kernel_rfl) (by kernel_rfl) (by kernel_rfl) (fun _ _ _ h => h) rfl (fun W => by go_simp) ?_
  go_simp
  refine wpAnyL_load (i := 2) (v := .agg (bsc A2 m2.length c2 x.seq x.cap).toArray) rfl rfl (by kernel_rfl) (by kernel_rfl) (by kernel_rfl) (by kernel_rfl) (by kernel_rfl) (fun _ _ _ h => h) rfl (fun W h => exec_heap W z 29 (bsc A2 m2.length c2 x.seq x.cap) _ h Tryd.underlying29 rfl (by kernel_rfl) _ _ (.tmp 4) (by rfl) (by rfl)) (Z.out) ?_
  go_simp
  refine wpAnyL_pure (i := 3) (v := .pointer (some ⟨z + 1, 0, none⟩)) rfl rfl (by kernel_rfl) (by kernel_rfl) (by kernel_rfl) (by kernel_rfl) (by kernel_rfl) (fun _ _ _ h => h) rfl (fun W => by go_simp) ?_
  go_simp
  refine wpAnyL_load (i := 4) (v := .int .i64 b.h) rfl rfl (by kernel_rfl) (by kernel_rfl) (by kernel_rfl) (by kernel_rfl) (by kernel_rfl) (fun _ _ _ h => h) rfl (fun W h => by have h0 : W.cell? ⟨z + 1, 0, none⟩ = some (.int .i64 b.h) := (by simp [World.cell?, h, bxc]); clear h; go_simp) (Y.out) ?_
  go_simp
  refine wpAnyL_pure (i := 5) (v := .pointer (some ⟨B, 0, none⟩)) rfl rfl (by kernel_rfl) (by kernel_rfl) (by kernel_rfl) (by kernel_rfl) (by kernel_rfl) (fun _ _ _ h => h) rfl (fun W => by go_simp) ?_
  go_simp
  refine wpAnyL_pure (i := 6) (v := .pointer (some ⟨B, 0, none⟩)) rfl rfl (by kernel_rfl) (by kernel_rfl) (by kernel_rfl) (by kernel_rfl) (by kernel_rfl) (fun _ _ _ h => h) rfl (fun W => by go_simp) ?_
  go_simp
  have TB := hide (there_le (show World.there _ B 0 7 from there_heap (cs := x.cs) B1.out) (show 3 ≤ 7 by omega))
  refine wpAnyL_one (i := 7) (by kernel_rfl) ?_
  refine wpOp_do rfl rfl ?_
  refine wp_store_as 29 (.tmp 53) (.tmp 49) rfl B 0 (bsc A2 m2.length c2 x.seq x.cap) (by rfl) (by rfl) (by exact TB.out) (by kernel_rfl) (by simp [Value.oneCell', bsc]) ?_
  intro wa ea
  replace C1 := hide (show wa.heap[p]? = some (.cells c.cs.toArray 40 (0, 0)) by rw [ea]; exact other_heap (by omega) _ _ _ C1.out)
  replace Z := hide (show wa.heap[z]? = some (.cells (bsc A2 m2.length c2 x.seq x.cap).toArray 29 (0, 0)) by rw [ea]; exact other_heap (by omega) _ _ _ Z.out)
  replace Y := hide (show wa.heap[z + 1]? = some (.cells (bxc b).toArray 60 (0, 0)) by rw [ea]; exact other_heap (by omega) _ _ _ Y.out)
  replace RN := hide (show Rd wa wa.heap.size A2 7 (m2.map bxc) by rw [ea]; exact off_set RN.out O_RN_B1.out _ _)
  have B2 := hide (show wa.heap[B]? = some (.cells (Fi.cs ⟨A2, m2, c2, x.seq, x.cap, x.has, x.on, x.sent, x.lost⟩).toArray 31 (0, 0)) by rw [ea]; exact set_heap (bsc A2 m2.length c2 x.seq x.cap) x.cs 0 _ B1.out)
  have K := hide (show Kp (fun k => k = B ∨ k = p) W wa by rw [ea]; exact (Kp.of Q.out).trans (Kp.set _ _ _ _ (.inl rfl)))
  clear ea TB B1 Q
  refine ⟨keepsL_mk (by kernel_rfl) (.cons Z.out (.cons Y.out .nil)), ?_⟩
  go_simp
  refine wpAnyL_pure (i := 8) (v := .pointer (some ⟨B, 0, none⟩)) rfl rfl (by kernel_rfl) (by kernel_rfl) (by kernel_rfl) (by kernel_rfl) (by kernel_rfl) (fun _ _ _ h => h) rfl (fun W => by go_simp) ?_
  go_simp
  refine wpAnyL_pure (i := 9) (v := .pointer (some ⟨B, 3, none⟩)) rfl rfl (by kernel_rfl) (by kernel_rfl) (by kernel_rfl) (by kernel_rfl) (by kernel_rfl) (fun _ _ _ h => h) rfl (fun W => by go_simp) ?_
  go_simp
  obtain ⟨-, -, -, c3, -, -, -⟩ := fi_cells B2.out
  have f3 := fi_free B2.out 3
  refine wpAnyL_one (i := 10) (by kernel_rfl) ?_
  refine wpOp_do rfl rfl ?_
  go_simp
  clear c3 f3
  obtain ⟨wb, eb⟩ : ∃ wx, wx = wa.setCell ⟨B, 3, none⟩ (.int .i64 b.h) := ⟨_, rfl⟩
  rw [← eb]
  replace eb : Hid (wb = wa.setCells B 3 [.int .i64 b.h]) := eb
  replace C1 := hide (show wb.heap[p]? = some (.cells c.cs.toArray 40 (0, 0)) by rw [eb.out]; exact other_heap (by omega) _ _ _ C1.out)
  replace Z := hide (show wb.heap[z]? = some (.cells (bsc A2 m2.length c2 x.seq x.cap).toArray 29 (0, 0)) by rw [eb.out]; exact other_heap (by omega) _ _ _ Z.out)
  replace Y := hide (show wb.heap[z + 1]? = some (.cells (bxc b).toArray 60 (0, 0)) by rw [eb.out]; exact other_heap (by omega) _ _ _ Y.out)
  replace RN := hide (show Rd wb wb.heap.size A2 7 (m2.map bxc) by rw [eb.out]; exact off_set RN.out O_RN_B1.out _ _)
  replace B2 := hide (show wb.heap[B]? = some (.cells (Fi.cs ⟨A2, m2, c2, x.seq, x.cap, b.h, x.on, x.sent, x.lost⟩).toArray 31 (0, 0)) by rw [eb.out]; exact set_heap [.int .i64 b.h] (Fi.cs ⟨A2, m2, c2, x.seq, x.cap, x.has, x.on, x.sent, x.lost⟩) 3 _ B2.out)
  replace K := hide (show Kp (fun k => k = B ∨ k = p) W wb by rw [eb.out]; exact K.out.trans (Kp.set _ _ _ _ (.inl rfl)))
  clear eb
  refine ⟨keepsL_all (by kernel_rfl) (by kernel_rfl), ?_⟩
  go_simp
  refine wpAnyL_done (by kernel_rfl) ?_ _
  go_wp2_with (first | (refine wpList_load_row rfl 40 (.tmp 1) (by rfl) p (by rfl) 40 c.cs.toArray (0, 0) _ (by exact C1.out) Tryd.underlying40 (by rfl) (by kernel_rfl) ?_) | (refine wpList_load_mid rfl 24 (.tmp 58) (by rfl) (z + 1) 1 (by rfl) (frc b.f) _ (by exact bx_fr Y.out) Tryd.underlying24 (by rfl) (by kernel_rfl) ?_))
  (with_reducible refine (SU.out _).mono ?_)
  rintro ec wc ⟨rfl, qc⟩
  replace C1 := hide (heap_below C1.out qc)
  replace B2 := hide (heap_below B2.out qc)
  replace RN := hide (Rd.next RN.out qc qc.size)
  replace K := hide (K.out.trans (Kp.of qc))
  clear qc SU Y Z
  have TC := hide (show wc.there p 0 23 from there_heap (cs := c.cs) C1.out)
  go_wp2_with (refine wpList_store_hid (by rfl) 40 (.tmp 1) (.tmp 61) (by rfl) p 0 (c.give b.f).cs (by rfl) (by rfl) (by exact TC.out) (by kernel_rfl) (by simp [Value.oneCell', Cl.cs]) ?_)
  intro w6 e6
  have C6 := hide (show w6.heap[p]? = some (.cells (c.give b.f).cs.toArray 40 (0, 0)) by rw [e6.out]; exact whole_heap (c.give b.f).cs (xs := c.cs) C1.out rfl)
  have B6 := hide (show w6.heap[B]? = some (.cells (Fi.cs ⟨A2, m2, c2, x.seq, x.cap, b.h, x.on, x.sent, x.lost⟩).toArray 31 (0, 0)) by rw [e6.out]; exact other_heap hBp _ _ _ B2.out)
  have R6 := hide (show Rd w6 w6.heap.size A2 7 (m2.map bxc) by rw [e6.out]; exact off_set RN.out O_RN_C1.out _ _)
  have K6 := hide (show Kp (fun k => k = B ∨ k = p) W w6 by rw [e6.out]; exact K.out.trans (Kp.set _ _ _ _ (.inr rfl)))
  clear e6 TC C1 B2 RN K
  go_wp2_with fail
  go_ret
  obtain ⟨i1, i2, i3⟩ := HP.out
  exact ⟨⟨A2, m2, c2, x.seq, x.cap, b.h, x.on, x.sent, x.lost⟩, rfl, B6.out, ⟨⟨by rw [← HBb.out]; exact i1, i2, i3, rfl, rfl, by rw [← HBb.out], rfl, rfl, rfl⟩, R6.out, FF.out, C6.out⟩, K6.out⟩
end Go.Proofs.YtkfedgjepiljiaaDoor
