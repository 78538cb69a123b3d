/- Walks of campanilelaw08.few, ready, alive. -/
import Derived.Test.YtkfedgjepiljiaaGreatDoorBuX
import Derived.Test.YtkfedgjepiljiaaGreatDoorMgBuM
import Derived.Test.YtkfedgjepiljiaaGreatDoorMgFrR
namespace Go.Proofs.YtkfedgjepiljiaaGreatDoor
open Go.ChangeShapes Go.WideShapes Go.ChangeAt Go.RowKit
open FP (Fr)

def cut8 (f : Fr) : Fr := { f with data := f.data.extract 0 (min f.data.size 12) }
set_option maxRecDepth 100000 in
set_option maxHeartbeats 1000000 in
theorem few08_any (f : Fr) (w : World) (hs : f.data.size ≤ maxLen) :
    Calls Tryz.prog 4 #[.agg (frc f).toArray] w fun e w' => e = .returned (.agg (frc (cut8 f)).toArray) ∧ Below w.heap.size w w' := by
  obtain ⟨id, ext, rem, dlc, data⟩ := f
  unfold frc cut8
  dsimp only at *
  unfold maxLen at hs
  obtain ⟨m, em, hm⟩ := run_min (P := Tryz.prog) (data.size : Int) 12
  obtain ⟨k, hk⟩ : ∃ k : Nat, k = min data.size 12 := ⟨_, rfl⟩
  have hmk : m = k := by omega
  subst hmk
  have hkl : k ≤ data.size := by omega
  rw [← hk]
  clear hk em
  go_enter Tryz.func4, Tryz.ntmps4
  go_wp2
  refine bodyPost_ret (v := .agg #[.int .u32 id, .bool ext, .bool rem, .int .i64 dlc, .string (data.extract 0 k)]) (by simp [results, Tryz.results4, go_sem]) rfl ⟨rfl, ?_⟩
  exact ((Below.refl _ _).alloc (Nat.le_refl _) _).alloc (by simp) _

/-- How many controllers a bus that is ready has. -/
def manyN (n : Int) : Nat := (min (max n 2) 4).toNat
theorem many_le (n : Int) : 2 ≤ manyN n ∧ manyN n ≤ 4 := by unfold manyN; omega
theorem ready_it {m : Nat} (h2 : 2 ≤ m) (h4 : m ≤ 4) : itB (List.replicate m zCl) 11 = List.replicate m idleC ∧ snB (List.replicate m zCl) 0 11 = [] := by
  obtain rfl | rfl | rfl : m = 2 ∨ m = 3 ∨ m = 4 := by omega
  all_goals exact ⟨by rfl, by rfl⟩
def fr5 : Fr := ⟨5, false, false, 0, ⟨#[]⟩⟩
def chk5 : List Sn → Bool
  | [a, b] => decide (a.kind = 2) && decide (a.who = 1) && decide (b.kind = 1)
  | _ => false
theorem alive_chk : chk5 (snB [idleC.give fr5, idleC] 11 60) = true := by kernel_rfl
theorem alive_sn : ∃ a b, snB [idleC.give fr5, idleC] 11 60 = [a, b] ∧ a.kind = 2 ∧ a.who = 1 ∧ b.kind = 1 := by
  have h := alive_chk
  generalize snB [idleC.give fr5, idleC] 11 60 = s at *
  match s with
  | [] => cases h
  | [_] => cases h
  | [a, b] =>
    simp only [chk5, Bool.and_eq_true, decide_eq_true_eq] at h
    exact ⟨a, b, rfl, h.1.1, h.1.2, h.2⟩
  | _ :: _ :: _ :: _ => cases h
theorem rep_ok {m : Nat} {c : Cl} (h : c.Ok) : AllOk (List.replicate m c) := fun d hd => by rw [(List.mem_replicate.1 hd).2]; exact h

set_option maxRecDepth 100000 in
set_option maxHeartbeats 32000000 in
theorem ready08_any (n : Int) (w : World) :
    Calls Tryz.prog 21 #[.int .i64 n] w fun e w' => ∃ A c, e = .returned (.tuple #[.agg (busL A (manyN n) c 11).toArray, .bool true]) ∧ ClR w' w'.heap.size A (List.replicate (manyN n) idleC) ∧ Fresh w.heap.size A ∧ Below w.heap.size w w' := by
  obtain ⟨a, ea, ha⟩ := run_max (P := Tryz.prog) n 2
  obtain ⟨b, eb, hb⟩ := run_min (P := Tryz.prog) a 4
  have hm := many_le n
  obtain ⟨M, hM⟩ : ∃ M, M = manyN n := ⟨_, rfl⟩
  rw [← hM] at hm ⊢
  have hbM : b = M := by rw [hM]; unfold manyN; omega
  subst hbM
  obtain ⟨r1, r2⟩ := ready_it hm.1 hm.2
  have HI := hide r1
  have HS := hide r2
  have hM2 : (2 : Int) ≤ (M : Int) := by omega
  have hM4 : (M : Int) ≤ 4 := by omega
  have HM := hide hm
  clear ea eb hM hm r1 r2
  have R := hide (World.alloc_heap_new w (.cells (busL none 0 0 0).toArray 24))
  have Q := hide ((Below.refl _ w).alloc (Nat.le_refl _) (.cells (busL none 0 0 0).toArray 24))
  have NW := hide (fun W => busNew_ok M (by omega) (by omega) W)
  have RU := hide (fun A c W (hr : ClR W W.heap.size A (List.replicate M zCl)) => show Calls Tryz.prog 9 #[.agg (busL A M c 0).toArray, .int .i64 11] W fun e w' => ∃ A' c' E ec, e = .returned (.tuple #[.agg (busL A' M c' 11).toArray, .slice E 0 ec, .int .i64 0]) ∧ ClR w' w'.heap.size A' (List.replicate M idleC) ∧ Fresh W.heap.size A' ∧ Below W.heap.size W w' from by
    have h := busRun_ok (List.replicate M zCl) A c 0 11 W hr (by rw [List.length_replicate]; omega) (by rw [List.length_replicate]; omega) (by omega) (by omega) (by omega) (rep_ok zCl_ok)
    rw [HI.out, HS.out, List.length_replicate] at h
    refine h.mono ?_
    rintro e w' ⟨A', c', E, ec, rfl, h1, _, h3, h5⟩
    exact ⟨A', c', E, ec, rfl, h1, h3.elim (fun o => fresh_own o) fun h => absurd h.1 (by omega), h5⟩)
  go_enter Tryz.func21, Tryz.ntmps21
  go_wp2_with fail
  (with_reducible refine (NW.out _).mono ?_)
  rintro ew1' w1' ⟨A1, c1, rfl, CR, FCR, qw1'⟩
  have O_CR_R := hide (show Off A1 (clRows (List.replicate M zCl)).length w.heap.size from off_fresh FCR (heap_lt R.out))
  replace R := hide (heap_below R.out qw1')
  replace Q := hide (below_next Q.out Q.out.size qw1')
  clear qw1'
  replace CR := hide (show Rd w1' w1'.heap.size A1 23 (clRows (List.replicate M zCl)) from CR)
  replace FCR := hide FCR
  clear ha hb NW
  have B := World.alloc_heap_new w1' (.cells (busL none 0 0 0).toArray 24)
  have zRy : w.heap.size < w1'.heap.size := heap_lt R.out
  have O_CR_B := hide (off_new (x := w1'.heap.size) CR.out (by omega))
  have zQy : w.heap.size ≤ w1'.heap.size := Q.out.size
  obtain ⟨w3', hw3'⟩ : ∃ wx, wx = w1'.alloc (.cells (busL none 0 0 0).toArray 24) := ⟨_, rfl⟩
  have q2' := hide (show Below w1'.heap.size w1' w3' by rw [hw3']; exact (Below.refl _ _).alloc (Nat.le_refl _) _)
  rw [← hw3'] at B
  replace B := hide B
  have Tw4' := hide (show (w1'.alloc (.cells (busL none 0 0 0).toArray 24)).there w1'.heap.size 0 2 by rw [← hw3']; exact there_heap (cs := busL none 0 0 0) B.out)
  go_wp2_with (refine wpList_store_hid (by rfl) 24 (.tmp 4) (.tmp 13) (by rfl) w1'.heap.size 0 (busL A1 M c1 0) (by rfl) (by rfl) (by exact Tw4'.out) (by kernel_rfl) (by simp [Value.oneCell', busL]) ?_)
  intro w4' ew4'
  replace ew4' : Hid (w4' = w3'.setCells w1'.heap.size 0 (busL A1 M c1 0)) := by rw [hw3']; exact ew4'
  replace B := hide (show w4'.heap[w1'.heap.size]? = some (.cells (busL A1 M c1 0).toArray 24 (0, 0)) by rw [ew4'.out]; exact whole_heap (busL A1 M c1 0) (xs := busL none 0 0 0) B.out rfl)
  replace q2' := hide (show Below w1'.heap.size w1' w4' by rw [ew4'.out]; exact q2'.out.trans (below_setCells _ _ _ (by omega)))
  clear ew4' Tw4' hw3'
  replace R := hide (heap_below R.out q2'.out)
  replace CR := hide (Rd.next CR.out q2'.out q2'.out.size)
  replace Q := hide (below_next Q.out Q.out.size q2'.out)
  clear q2'
  generalize w1'.heap.size = y at *
  have R1 := hide (RU.out A1 c1 w4' CR.out)
  clear RU
  have zW0 := heap_lt R.out
  go_wp2_with (refine wpList_load_row rfl 24 (.tmp 4) (by rfl) y (by rfl) 24 (busL A1 M c1 0).toArray (0, 0) _ (by exact B.out) Tryz.underlying24 (by rfl) (by kernel_rfl) ?_)
  clear CR O_CR_R O_CR_B
  (with_reducible refine (R1.out).mono ?_)
  rintro ew5' w5' ⟨A2, c2, E, ec, rfl, C2, FC2, qw5'⟩
  have O_C2_R := hide (show Off A2 (clRows (List.replicate M idleC)).length w.heap.size from off_fresh FC2 (heap_lt R.out))
  have O_C2_B := hide (show Off A2 (clRows (List.replicate M idleC)).length y from off_fresh FC2 (heap_lt B.out))
  replace R := hide (heap_below R.out qw5')
  replace B := hide (heap_below B.out qw5')
  replace Q := hide (below_next Q.out Q.out.size qw5')
  clear qw5'
  replace C2 := hide (show Rd w5' w5'.heap.size A2 23 (clRows (List.replicate M idleC)) from C2)
  replace FC2 := hide FC2
  clear R1
  have Tw6' := hide (show World.there _ y 0 2 from there_heap (cs := busL A1 M c1 0) B.out)
  go_wp2_with (refine wpList_store_hid (by rfl) 24 (.tmp 4) (.tmp 18) (by rfl) y 0 (busL A2 M c2 11) (by rfl) (by rfl) (by exact Tw6'.out) (by kernel_rfl) (by simp [Value.oneCell', busL]) ?_)
  intro w6' ew6'
  replace R := hide (show w6'.heap[w.heap.size]? = some (.cells (busL none 0 0 0).toArray 24 (0, 0)) by rw [ew6'.out]; exact other_heap (by omega) _ _ _ R.out)
  replace C2 := hide (show Rd w6' w6'.heap.size A2 23 (clRows (List.replicate M idleC)) by rw [ew6'.out]; exact off_set C2.out O_C2_B.out _ _)
  replace Q := hide (show Below w.heap.size w w6' by rw [ew6'.out]; exact Q.out.trans (below_setCells _ _ _ (by have := Q.out.size; omega)))
  replace B := hide (show w6'.heap[y]? = some (.cells (busL A2 M c2 11).toArray 24 (0, 0)) by rw [ew6'.out]; exact whole_heap (busL A2 M c2 11) (xs := busL A1 M c1 0) B.out rfl)
  clear ew6' Tw6'
  have FF := hide (show Fresh w.heap.size A2 from FC2.out.mono (by omega))
  clear FC2 FCR
  go_upto_region 3 with fail
  refine wp_region_L [0, 1, 2, 3, 4, 5, 6, 7, 8, 9, 10, 11, 12, 13, 14, 15, 16, 17, 18, 19, 20, 21, 22, 23] [(0, fun W => W.heap[y]? = some (.cells (busL A2 M c2 11).toArray 24 (0, 0))), (14, fun W => W.heap[y]? = some (.cells (busL A2 M c2 11).toArray 24 (0, 0))), (20, fun W => W.heap[y]? = some (.cells (busL A2 M c2 11).toArray 24 (0, 0)))] (by kernel_rfl) ?_
  replace R := hide (show w6'.drew.heap[w.heap.size]? = some (.cells (busL none 0 0 0).toArray 24 (0, 0)) from R.out)
  replace B := hide (show w6'.drew.heap[y]? = some (.cells (busL A2 M c2 11).toArray 24 (0, 0)) from B.out)
  replace C2 := hide (show Rd (w6'.drew) (w6'.drew).heap.size A2 23 (clRows (List.replicate M idleC)) from C2.out)
  replace Q := hide (show Below w.heap.size w w6'.drew from Q.out.drew)
  generalize w6'.drew = wd at *
  refine wpAnyL_load (i := 0) (v := .agg (busL A2 M c2 11).toArray) rfl rfl (by kernel_rfl) (by kernel_rfl) (by kernel_rfl) (by kernel_rfl) (by kernel_rfl) (fun _ _ _ h => h) rfl (fun W h => exec_heap W y 24 _ _ h Tryz.underlying24 rfl (by kernel_rfl) _ _ (.tmp 4) (by rfl) (by rfl)) (B.out) ?_
  go_simp
  refine wpAnyL_pure (i := 1) (v := .int .i64 0) rfl rfl (by kernel_rfl) (by kernel_rfl) (by kernel_rfl) (by kernel_rfl) (by kernel_rfl) (fun _ _ _ h => h) rfl (fun W => by go_simp) ?_
  go_simp
  refine wpAnyL_pure (i := 2) (v := .bool true) rfl rfl (by kernel_rfl) (by kernel_rfl) (by kernel_rfl) (by kernel_rfl) (by kernel_rfl) (fun _ _ _ h => h) rfl (fun W => by go_simp) ?_
  go_simp
  refine wpAnyL_pure (i := 3) (v := .bool true) rfl rfl (by kernel_rfl) (by kernel_rfl) (by kernel_rfl) (by kernel_rfl) (by kernel_rfl) (fun _ _ _ h => h) rfl (fun W => by go_simp) ?_
  go_simp
  refine wpAnyL_pureG (i := 4) (v := .int .i64 0) rfl rfl (by kernel_rfl) (by kernel_rfl) (by kernel_rfl) (by kernel_rfl) (by kernel_rfl) (fun _ _ _ h => h) (by kernel_rfl) (fun W => by go_simp) ?_
  go_simp
  refine wpAnyL_pureG (i := 5) (v := .bool true) rfl rfl (by kernel_rfl) (by kernel_rfl) (by kernel_rfl) (by kernel_rfl) (by kernel_rfl) (fun _ _ _ h => h) (by kernel_rfl) (fun W => by go_simp) ?_
  go_simp
  refine wpAnyL_pure (i := 6) (v := .bool true) rfl rfl (by kernel_rfl) (by kernel_rfl) (by kernel_rfl) (by kernel_rfl) (by kernel_rfl) (fun _ _ _ h => h) rfl (fun W => by go_simp) ?_
  go_simp
  refine wpAnyL_pure (i := 7) (v := .bool true) rfl rfl (by kernel_rfl) (by kernel_rfl) (by kernel_rfl) (by kernel_rfl) (by kernel_rfl) (fun _ _ _ h => h) rfl (fun W => by go_simp) ?_
  go_simp
  refine wpAnyL_pureG (i := 8) (v := .slice E 0 ec) rfl rfl (by kernel_rfl) (by kernel_rfl) (by kernel_rfl) (by kernel_rfl) (by kernel_rfl) (fun _ _ _ h => h) (by kernel_rfl) (fun W => by go_simp) ?_
  go_simp
  refine wpAnyL_pureG (i := 9) (v := .int .i64 0) rfl rfl (by kernel_rfl) (by kernel_rfl) (by kernel_rfl) (by kernel_rfl) (by kernel_rfl) (fun _ _ _ h => h) (by kernel_rfl) (fun W => by go_simp) ?_
  go_simp
  refine wpAnyL_pureG (i := 10) (v := .bool true) rfl rfl (by kernel_rfl) (by kernel_rfl) (by kernel_rfl) (by kernel_rfl) (by kernel_rfl) (fun _ _ _ h => h) (by kernel_rfl) (fun W => by go_simp) ?_
  go_simp
  refine wpAnyL_pure (i := 11) (v := .bool true) rfl rfl (by kernel_rfl) (by kernel_rfl) (by kernel_rfl) (by kernel_rfl) (by kernel_rfl) (fun _ _ _ h => h) rfl (fun W => by go_simp) ?_
  go_simp
  refine wpAnyL_pure (i := 12) (v := .bool true) rfl rfl (by kernel_rfl) (by kernel_rfl) (by kernel_rfl) (by kernel_rfl) (by kernel_rfl) (fun _ _ _ h => h) rfl (fun W => by go_simp) ?_
  go_simp
  refine wpAnyL_pureG (i := 13) (v := .pointer (some ⟨y, 0, none⟩)) rfl rfl (by kernel_rfl) (by kernel_rfl) (by kernel_rfl) (by kernel_rfl) (by kernel_rfl) (fun _ _ _ h => h) (by kernel_rfl) (fun W => by go_simp) ?_
  go_simp
  refine wpAnyL_loadG (i := 14) (v := .slice A2 M c2) rfl rfl (by kernel_rfl) (by kernel_rfl) (by kernel_rfl) (by kernel_rfl) (by kernel_rfl) (fun _ _ _ h => h) (by kernel_rfl) (fun W h => by have h0 : W.cell? ⟨y, 0, none⟩ = some (.slice A2 M c2) := (by simp [World.cell?, h, busL]); clear h; go_simp) (B.out) ?_
  go_simp
  refine wpAnyL_pureG (i := 15) (v := .int .i64 M) rfl rfl (by kernel_rfl) (by kernel_rfl) (by kernel_rfl) (by kernel_rfl) (by kernel_rfl) (fun _ _ _ h => h) (by kernel_rfl) (fun W => by go_simp) ?_
  go_simp
  refine wpAnyL_pureG (i := 16) (v := .bool true) rfl rfl (by kernel_rfl) (by kernel_rfl) (by kernel_rfl) (by kernel_rfl) (by kernel_rfl) (fun _ _ _ h => h) (by kernel_rfl) (fun W => by go_simp) ?_
  go_simp
  refine wpAnyL_pure (i := 17) (v := .bool true) rfl rfl (by kernel_rfl) (by kernel_rfl) (by kernel_rfl) (by kernel_rfl) (by kernel_rfl) (fun _ _ _ h => h) rfl (fun W => by go_simp) ?_
  go_simp
  refine wpAnyL_pure (i := 18) (v := .bool true) rfl rfl (by kernel_rfl) (by kernel_rfl) (by kernel_rfl) (by kernel_rfl) (by kernel_rfl) (fun _ _ _ h => h) rfl (fun W => by go_simp) ?_
  go_simp
  refine wpAnyL_pureG (i := 19) (v := .pointer (some ⟨y, 0, none⟩)) rfl rfl (by kernel_rfl) (by kernel_rfl) (by kernel_rfl) (by kernel_rfl) (by kernel_rfl) (fun _ _ _ h => h) (by kernel_rfl) (fun W => by go_simp) ?_
  go_simp
  refine wpAnyL_loadG (i := 20) (v := .slice A2 M c2) rfl rfl (by kernel_rfl) (by kernel_rfl) (by kernel_rfl) (by kernel_rfl) (by kernel_rfl) (fun _ _ _ h => h) (by kernel_rfl) (fun W h => by have h0 : W.cell? ⟨y, 0, none⟩ = some (.slice A2 M c2) := (by simp [World.cell?, h, busL]); clear h; go_simp) (B.out) ?_
  go_simp
  refine wpAnyL_pureG (i := 21) (v := .int .i64 M) rfl rfl (by kernel_rfl) (by kernel_rfl) (by kernel_rfl) (by kernel_rfl) (by kernel_rfl) (fun _ _ _ h => h) (by kernel_rfl) (fun W => by go_simp) ?_
  go_simp
  refine wpAnyL_pureG (i := 22) (v := .bool true) rfl rfl (by kernel_rfl) (by kernel_rfl) (by kernel_rfl) (by kernel_rfl) (by kernel_rfl) (fun _ _ _ h => h) (by kernel_rfl) (fun W => by go_simp) ?_
  go_simp
  refine wpAnyL_pure (i := 23) (v := .bool true) rfl rfl (by kernel_rfl) (by kernel_rfl) (by kernel_rfl) (by kernel_rfl) (by kernel_rfl) (fun _ _ _ h => h) rfl (fun W => by go_simp) ?_
  go_simp
  have TR := hide (show wd.there w.heap.size 0 2 from there_heap (cs := busL none 0 0 0) R.out)
  refine wpAnyL_one (i := 24) (by kernel_rfl) ?_
  refine wpOp_do rfl rfl ?_
  refine wp_store_as 24 (.tmp 2) (.tmp 21) rfl w.heap.size 0 (busL A2 M c2 11) (by rfl) (by rfl) (by exact TR.out) (by kernel_rfl) (by simp [Value.oneCell', busL]) ?_
  intro wa ea
  replace B := hide (show wa.heap[y]? = some (.cells (busL A2 M c2 11).toArray 24 (0, 0)) by rw [ea]; exact other_heap (by omega) _ _ _ B.out)
  replace C2 := hide (show Rd wa wa.heap.size A2 23 (clRows (List.replicate M idleC)) by rw [ea]; exact off_set C2.out O_C2_R.out _ _)
  replace Q := hide (show Below w.heap.size w wa by rw [ea]; exact Q.out.trans (below_setCells _ _ _ (by have := Q.out.size; omega)))
  replace R := hide (show wa.heap[w.heap.size]? = some (.cells (busL A2 M c2 11).toArray 24 (0, 0)) by rw [ea]; exact whole_heap (busL A2 M c2 11) (xs := busL none 0 0 0) R.out rfl)
  clear ea TR
  refine ⟨keepsL_mk (by kernel_rfl) (.cons B.out (.cons B.out (.cons B.out .nil))), ?_⟩
  go_simp
  refine wpAnyL_one (i := 25) (by kernel_rfl) ?_
  refine wpOp_do rfl rfl ?_
  go_simp
  refine ⟨keepsL_mk (by kernel_rfl) (.cons B.out (.cons B.out (.cons B.out .nil))), ?_⟩
  go_simp
  refine wpAnyL_done (by kernel_rfl) ?_ _
  go_wp2_with fail
  refine bodyPost_ret (results_cell_tmp (by rfl) _ wa w.heap.size 24 (busL A2 M c2 11).toArray (0, 0) _ (.bool true) (by rfl) (by rfl) R.out Tryz.underlying24 (by rfl) (by kernel_rfl)) rfl ⟨A2, c2, rfl, C2.out, FF.out, Q.out⟩

theorem sn_cells {W : World} {B : Nat} {A : Option Addr} {s : List Sn} (h : Rd W B A 9 (snRows s)) {k : Nat} (hk : k < s.length) : ∃ g off, A = some ⟨g, off, none⟩ ∧ g < B ∧ W.rangeAt g (off + k * 9) (sncs s[k]) := by
  obtain ⟨g, off, e, hb, hr⟩ := rd_range h (k := k) (by rw [snRows_len]; exact hk)
  unfold snRows at hr
  rw [List.getElem_map] at hr
  exact ⟨g, off, e, hb, hr⟩
theorem sn_who {W : World} {g o : Nat} {y : Sn} (h : W.rangeAt g o (sncs y)) : W.cell? ⟨g, o, none⟩ = some (.int .i64 y.at_) ∧ W.cell? ⟨g, o + 1, none⟩ = some (.int .i64 y.who) ∧ W.cell? ⟨g, o + 2, none⟩ = some (.int .i64 y.kind) :=
  ⟨h 0 _ rfl, h 1 _ rfl, h 2 _ rfl⟩

set_option maxRecDepth 100000 in
set_option maxHeartbeats 32000000 in
theorem alive08_any (w : World) : Calls Tryz.prog 11 #[] w fun e w' => e = .returned (.bool true) ∧ Below w.heap.size w w' := by
  have RY := hide (fun W => show Calls Tryz.prog 21 #[.int .i64 2] W fun e w' => ∃ A c, e = .returned (.tuple #[.agg (busL A 2 c 11).toArray, .bool true]) ∧ ClR w' w'.heap.size A (List.replicate 2 idleC) ∧ Fresh W.heap.size A ∧ Below W.heap.size W w' from ready08_any 2 W)
  have SB := hide (fun A c W (hr : Rd W W.heap.size A 23 (clRows (List.replicate 2 idleC))) => show Calls Tryz.prog 6 #[.agg (busL A 2 c 11).toArray, .int .i64 0, .agg #[.int .u32 5, .bool false, .bool false, .int .i64 0, .string ⟨#[]⟩]] W fun e w' => ∃ A' c', e = .returned (.tuple #[.agg (busL A' 2 c' 11).toArray, .int .i64 0]) ∧ ClR w' w'.heap.size A' [idleC.give fr5, idleC] ∧ Fresh W.heap.size A' ∧ Below W.heap.size W w' from by
    refine (busSubmit_in (List.replicate 2 idleC) A c 11 0 fr5 W hr (by decide) (by decide) (by decide) (by decide) (rep_ok idle_ok) (by decide)).mono ?_
    rintro e w' ⟨⟨h1, A', c', rfl, h2, h3⟩ | ⟨h1, _⟩, q⟩
    · exact ⟨A', c', rfl, h2, h3, q⟩
    · exact absurd (show ((List.replicate 2 idleC).getD 0 zCl).subE fr5 = 0 by rfl) h1)
  obtain ⟨ya, yb, hs, hk2, hw1, hk1⟩ := alive_sn
  have RU := hide (fun A c W (hr : Rd W W.heap.size A 23 (clRows [idleC.give fr5, idleC])) => show Calls Tryz.prog 9 #[.agg (busL A 2 c 11).toArray, .int .i64 60] W fun e w' => ∃ A' c' E ec, e = .returned (.tuple #[.agg (busL A' 2 c' 71).toArray, .slice E 2 ec, .int .i64 0]) ∧ Rd w' w'.heap.size E 9 (snRows [ya, yb]) ∧ Below W.heap.size W w' from by
    refine (busRun_ok [idleC.give fr5, idleC] A c 11 60 W hr (by decide) (by decide) (by decide) (by decide) (by decide) (fun d hd => by
      rcases List.mem_cons.1 hd with rfl | hd
      · exact idle_ok.give rfl rfl
      · rw [List.mem_singleton.1 hd]; exact idle_ok)).mono ?_
    rintro e w' ⟨A', c', E, ec, rfl, _, h2, _, q⟩
    rw [hs] at h2 ⊢
    exact ⟨A', c', E, ec, rfl, h2.rd (snRows_rows _), q⟩)
  clear hs
  go_enter Tryz.func11, Tryz.ntmps11
  have Q := hide (Below.refl w.heap.size w)
  go_wp2_with fail
  (with_reducible refine (RY.out _).mono ?_)
  rintro ew21' w21' ⟨A1, c1, rfl, C1, FC1, qw21'⟩
  replace Q := hide (below_next Q.out Q.out.size qw21')
  clear qw21'
  replace C1 := hide (show Rd w21' w21'.heap.size A1 23 (clRows (List.replicate 2 idleC)) from C1)
  replace FC1 := hide FC1
  clear RY
  have B := World.alloc_heap_new w21' (.cells (busL none 0 0 0).toArray 24)
  have O_C1_B := hide (off_new (x := w21'.heap.size) C1.out (by omega))
  have zQy : w.heap.size ≤ w21'.heap.size := Q.out.size
  obtain ⟨w23', hw23'⟩ : ∃ wx, wx = w21'.alloc (.cells (busL none 0 0 0).toArray 24) := ⟨_, rfl⟩
  have q22' := hide (show Below w21'.heap.size w21' w23' by rw [hw23']; exact (Below.refl _ _).alloc (Nat.le_refl _) _)
  rw [← hw23'] at B
  replace B := hide B
  have Tw24' := hide (show (w21'.alloc (.cells (busL none 0 0 0).toArray 24)).there w21'.heap.size 0 2 by rw [← hw23']; exact there_heap (cs := busL none 0 0 0) B.out)
  go_wp2_with (refine wpList_store_hid (by rfl) 24 (.tmp 1) (.tmp 9) (by rfl) w21'.heap.size 0 (busL A1 2 c1 11) (by rfl) (by rfl) (by exact Tw24'.out) (by kernel_rfl) (by simp [Value.oneCell', busL]) ?_)
  intro w24' ew24'
  replace ew24' : Hid (w24' = w23'.setCells w21'.heap.size 0 (busL A1 2 c1 11)) := by rw [hw23']; exact ew24'
  replace B := hide (show w24'.heap[w21'.heap.size]? = some (.cells (busL A1 2 c1 11).toArray 24 (0, 0)) by rw [ew24'.out]; exact whole_heap (busL A1 2 c1 11) (xs := busL none 0 0 0) B.out rfl)
  replace q22' := hide (show Below w21'.heap.size w21' w24' by rw [ew24'.out]; exact q22'.out.trans (below_setCells _ _ _ (by omega)))
  clear ew24' Tw24' hw23'
  replace C1 := hide (Rd.next C1.out q22'.out q22'.out.size)
  replace Q := hide (below_next Q.out Q.out.size q22'.out)
  clear q22'
  generalize w21'.heap.size = y at *
  have R1 := hide (SB.out A1 c1 w24' C1.out)
  clear SB
  go_wp2_with (refine wpList_load_row rfl 24 (.tmp 1) (by rfl) y (by rfl) 24 (busL A1 2 c1 11).toArray (0, 0) _ (by exact B.out) Tryz.underlying24 (by rfl) (by kernel_rfl) ?_)
  clear C1 O_C1_B
  (with_reducible refine (R1.out).mono ?_)
  rintro ew25' w25' ⟨A2, c2, rfl, C2, FC2, qw25'⟩
  have O_C2_B := hide (show Off A2 (clRows [idleC.give fr5, idleC]).length y from off_fresh FC2 (heap_lt B.out))
  replace B := hide (heap_below B.out qw25')
  replace Q := hide (below_next Q.out Q.out.size qw25')
  clear qw25'
  replace C2 := hide (show Rd w25' w25'.heap.size A2 23 (clRows [idleC.give fr5, idleC]) from C2)
  replace FC2 := hide FC2
  clear R1
  have Tw26' := hide (show World.there _ y 0 2 from there_heap (cs := busL A1 2 c1 11) B.out)
  go_wp2_with (refine wpList_store_hid (by rfl) 24 (.tmp 1) (.tmp 15) (by rfl) y 0 (busL A2 2 c2 11) (by rfl) (by rfl) (by exact Tw26'.out) (by kernel_rfl) (by simp [Value.oneCell', busL]) ?_)
  intro w26' ew26'
  replace C2 := hide (show Rd w26' w26'.heap.size A2 23 (clRows [idleC.give fr5, idleC]) by rw [ew26'.out]; exact off_set C2.out O_C2_B.out _ _)
  replace Q := hide (show Below w.heap.size w w26' by rw [ew26'.out]; exact Q.out.trans (below_setCells _ _ _ (by have := Q.out.size; omega)))
  replace B := hide (show w26'.heap[y]? = some (.cells (busL A2 2 c2 11).toArray 24 (0, 0)) by rw [ew26'.out]; exact whole_heap (busL A2 2 c2 11) (xs := busL A1 2 c1 11) B.out rfl)
  clear ew26' Tw26'
  have R1 := hide (RU.out A2 c2 w26' C2.out)
  clear RU
  go_wp2_with (refine wpList_load_row rfl 24 (.tmp 1) (by rfl) y (by rfl) 24 (busL A2 2 c2 11).toArray (0, 0) _ (by exact B.out) Tryz.underlying24 (by rfl) (by kernel_rfl) ?_)
  clear C2 O_C2_B
  (with_reducible refine (R1.out).mono ?_)
  rintro e9 w9 ⟨A3, c3, E, ec, rfl, E3, q9⟩
  replace E3 := hide E3
  replace B := hide (heap_below B.out q9)
  replace Q := hide (below_next Q.out Q.out.size q9)
  clear q9
  have O_E3_B := hide (True.intro)
  clear B O_E3_B
  clear R1 FC1 FC2
  have Z := World.alloc_heap_new w9 (.cells (busL none 0 0 0).toArray 24)
  have O_E3_Z := hide (off_new (x := w9.heap.size) E3.out (by omega))
  have zQz : w.heap.size ≤ w9.heap.size := Q.out.size
  obtain ⟨w28', hw28'⟩ : ∃ wx, wx = w9.alloc (.cells (busL none 0 0 0).toArray 24) := ⟨_, rfl⟩
  have q27' := hide (show Below w9.heap.size w9 w28' by rw [hw28']; exact (Below.refl _ _).alloc (Nat.le_refl _) _)
  rw [← hw28'] at Z
  replace Z := hide Z
  have Tw29' := hide (show (w9.alloc (.cells (busL none 0 0 0).toArray 24)).there w9.heap.size 0 2 by rw [← hw28']; exact there_heap (cs := busL none 0 0 0) Z.out)
  go_wp2_with (refine wpList_store_hid (by rfl) 24 (.tmp 4) (.tmp 20) (by rfl) w9.heap.size 0 (busL A3 2 c3 71) (by rfl) (by rfl) (by exact Tw29'.out) (by kernel_rfl) (by simp [Value.oneCell', busL]) ?_)
  intro w29' ew29'
  replace ew29' : Hid (w29' = w28'.setCells w9.heap.size 0 (busL A3 2 c3 71)) := by rw [hw28']; exact ew29'
  replace Z := hide (show w29'.heap[w9.heap.size]? = some (.cells (busL A3 2 c3 71).toArray 24 (0, 0)) by rw [ew29'.out]; exact whole_heap (busL A3 2 c3 71) (xs := busL none 0 0 0) Z.out rfl)
  replace q27' := hide (show Below w9.heap.size w9 w29' by rw [ew29'.out]; exact q27'.out.trans (below_setCells _ _ _ (by omega)))
  clear ew29' Tw29' hw28'
  replace E3 := hide (Rd.next E3.out q27'.out q27'.out.size)
  replace Q := hide (below_next Q.out Q.out.size q27'.out)
  clear q27'
  generalize w9.heap.size = z at *
  obtain ⟨g, off, rfl, _, h0⟩ := sn_cells E3.out (k := 0) (by simp)
  obtain ⟨g', off', e', _, h1⟩ := sn_cells E3.out (k := 1) (by simp)
  cases e'
  obtain ⟨a0, a1, a2⟩ := sn_who (y := ya) h0
  obtain ⟨_, _, a3⟩ := sn_who (y := yb) h1
  rw [hk2] at a2
  rw [hw1] at a1
  rw [hk1] at a3
  rw [show off + 0 * 9 + 1 = off + 1 by omega] at a1
  rw [show off + 0 * 9 + 2 = off + 2 by omega] at a2
  rw [show off + 1 * 9 + 2 = off + 9 + 2 by omega] at a3
  clear h0 h1 a0 hk2 hw1 hk1
  go_wp2_with fail
  go_ret
  exact ⟨rfl, Q.out⟩
end Go.Proofs.YtkfedgjepiljiaaGreatDoor
