/- campaniletop.ready of two controllers, alive. -/
import Derived.Test.YthkilodnghiocaaGreatDoorMgBuQ
import Derived.Test.YthkilodnghiocaaGreatDoorBuX
import Derived.Test.YthkilodnghiocaaGreatDoorMgBuN
import Derived.Test.YthkilodnghiocaaGreatDoorRdF
import Derived.Test.YthkilodnghiocaaGreatDoorMgCsR
import Derived.Test.YthkilodnghiocaaGreatDoorMgFbA
import Derived.Test.YthkilodnghiocaaGreatDoorMgOff
import Derived.Test.YthkilodnghiocaaGreatDoorOrdL
import Derived.Deep.AppendLies
import Derived.Test.YthkilodnghiocaaGreatDoorTrF
namespace Go.Proofs.YthkilodnghiocaaGreatDoor
open Go.ChangeShapes Go.WideShapes Go.ChangeAt Go.RowKit
open FP (Fr bitsF bodyF)

set_option maxRecDepth 100000 in
set_option maxHeartbeats 32000000 in
theorem ready2_any (w : World) :
    Calls Tryz.prog 5 #[.int .i64 2] w fun e w' => ∃ A c, e = .returned (.tuple #[.agg (busL A 2 c 11).toArray, .bool true]) ∧ ClR w' w'.heap.size A (List.replicate 2 idleC) ∧ Fresh w.heap.size A ∧ Below w.heap.size w w' := by
  obtain ⟨r1, r2⟩ := ready_it (m := 2) (by decide) (by decide)
  have HI := hide r1
  have HS := hide r2
  clear r1 r2
  have R := hide (World.alloc_heap_new w (.cells (busL none 0 0 0).toArray 37))
  have Q := hide ((Below.refl _ w).alloc (Nat.le_refl _) (.cells (busL none 0 0 0).toArray 37))
  have NW := hide (fun W => show Calls Tryz.prog 14 #[.int .i64 2] W fun e w' => ∃ A c, e = .returned (.tuple #[.agg (busL A 2 c 0).toArray, .int .i64 0]) ∧ ClR w' w'.heap.size A (List.replicate 2 zCl) ∧ Fresh W.heap.size A ∧ Below W.heap.size W w' from busNew_ok 2 (by decide) (by decide) W)
  have RU := hide (fun A c W (hr : ClR W W.heap.size A (List.replicate 2 zCl)) => show Calls Tryz.prog 8 #[.agg (busL A 2 c 0).toArray, .int .i64 11] W fun e w' => ∃ A' c' E ec, e = .returned (.tuple #[.agg (busL A' 2 c' 11).toArray, .slice E 0 ec, .int .i64 0]) ∧ ClR w' w'.heap.size A' (List.replicate 2 idleC) ∧ Fresh W.heap.size A' ∧ Below W.heap.size W w' from by
    have h := busRun_ok (List.replicate 2 zCl) A c 0 11 W hr (by rw [List.length_replicate]; omega) (by rw [List.length_replicate]; omega) (by omega) (by omega) (by omega) (rep_ok zCl_ok)
    rw [HI.out, HS.out, List.length_replicate] at h
    refine h.mono ?_
    rintro e w' ⟨A', c', E, ec, rfl, h1, _, h3, h5⟩
    exact ⟨A', c', E, ec, rfl, h1, h3.elim (fun o => fresh_own o) fun h => absurd h.1 (by omega), h5⟩)
  go_enter Tryz.func5, Tryz.ntmps5
  go_wp2_with fail
  (with_reducible refine (NW.out _).mono ?_)
  rintro ew1' w1' ⟨A1, c1, rfl, CR, FCR, qw1'⟩
  have O_CR_R := hide (show Off A1 (clRows (List.replicate 2 zCl)).length w.heap.size from off_fresh FCR (heap_lt R.out))
  replace R := hide (heap_below R.out qw1')
  replace Q := hide (below_next Q.out Q.out.size qw1')
  clear qw1'
  replace CR := hide (show Rd w1' w1'.heap.size A1 23 (clRows (List.replicate 2 zCl)) from CR)
  replace FCR := hide FCR
  clear NW
  have B := World.alloc_heap_new w1' (.cells (busL none 0 0 0).toArray 37)
  have zRy : w.heap.size < w1'.heap.size := heap_lt R.out
  have O_CR_B := hide (off_new (x := w1'.heap.size) CR.out (by omega))
  have zQy : w.heap.size ≤ w1'.heap.size := Q.out.size
  obtain ⟨w3', hw3'⟩ : ∃ wx, wx = w1'.alloc (.cells (busL none 0 0 0).toArray 37) := ⟨_, rfl⟩
  have q2' := hide (show Below w1'.heap.size w1' w3' by rw [hw3']; exact (Below.refl _ _).alloc (Nat.le_refl _) _)
  rw [← hw3'] at B
  replace B := hide B
  have Tw4' := hide (show (w1'.alloc (.cells (busL none 0 0 0).toArray 37)).there w1'.heap.size 0 2 by rw [← hw3']; exact there_heap (cs := busL none 0 0 0) B.out)
  go_wp2_with (refine wpList_store_hid (by rfl) 37 (.tmp 4) (.tmp 11) (by rfl) w1'.heap.size 0 (busL A1 2 c1 0) (by rfl) (by rfl) (by exact Tw4'.out) (by kernel_rfl) (by simp [Value.oneCell', busL]) ?_)
  intro w4' ew4'
  replace ew4' : Hid (w4' = w3'.setCells w1'.heap.size 0 (busL A1 2 c1 0)) := by rw [hw3']; exact ew4'
  replace B := hide (show w4'.heap[w1'.heap.size]? = some (.cells (busL A1 2 c1 0).toArray 37 (0, 0)) by rw [ew4'.out]; exact whole_heap (busL A1 2 c1 0) (xs := busL none 0 0 0) B.out rfl)
  replace q2' := hide (show Below w1'.heap.size w1' w4' by rw [ew4'.out]; exact q2'.out.trans (below_setCells _ _ _ (by omega)))
  clear ew4' Tw4' hw3'
  replace R := hide (heap_below R.out q2'.out)
  replace CR := hide (Rd.next CR.out q2'.out q2'.out.size)
  replace Q := hide (below_next Q.out Q.out.size q2'.out)
  clear q2'
  generalize w1'.heap.size = y at *
  have R1 := hide (RU.out A1 c1 w4' CR.out)
  clear RU
  have zW0 := heap_lt R.out
  go_wp2_with (refine wpList_load_row rfl 37 (.tmp 4) (by rfl) y (by rfl) 37 (busL A1 2 c1 0).toArray (0, 0) _ (by exact B.out) Tryz.underlying37 (by rfl) (by kernel_rfl) ?_)
  clear CR O_CR_R O_CR_B
  (with_reducible refine (R1.out).mono ?_)
  rintro ew5' w5' ⟨A2, c2, E, ec, rfl, C2, FC2, qw5'⟩
  have O_C2_R := hide (show Off A2 (clRows (List.replicate 2 idleC)).length w.heap.size from off_fresh FC2 (heap_lt R.out))
  have O_C2_B := hide (show Off A2 (clRows (List.replicate 2 idleC)).length y from off_fresh FC2 (heap_lt B.out))
  replace R := hide (heap_below R.out qw5')
  replace B := hide (heap_below B.out qw5')
  replace Q := hide (below_next Q.out Q.out.size qw5')
  clear qw5'
  replace C2 := hide (show Rd w5' w5'.heap.size A2 23 (clRows (List.replicate 2 idleC)) from C2)
  replace FC2 := hide FC2
  clear R1
  have Tw6' := hide (show World.there _ y 0 2 from there_heap (cs := busL A1 2 c1 0) B.out)
  go_wp2_with (refine wpList_store_hid (by rfl) 37 (.tmp 4) (.tmp 16) (by rfl) y 0 (busL A2 2 c2 11) (by rfl) (by rfl) (by exact Tw6'.out) (by kernel_rfl) (by simp [Value.oneCell', busL]) ?_)
  intro w6' ew6'
  replace R := hide (show w6'.heap[w.heap.size]? = some (.cells (busL none 0 0 0).toArray 37 (0, 0)) by rw [ew6'.out]; exact other_heap (by omega) _ _ _ R.out)
  replace C2 := hide (show Rd w6' w6'.heap.size A2 23 (clRows (List.replicate 2 idleC)) by rw [ew6'.out]; exact off_set C2.out O_C2_B.out _ _)
  replace Q := hide (show Below w.heap.size w w6' by rw [ew6'.out]; exact Q.out.trans (below_setCells _ _ _ (by have := Q.out.size; omega)))
  replace B := hide (show w6'.heap[y]? = some (.cells (busL A2 2 c2 11).toArray 37 (0, 0)) by rw [ew6'.out]; exact whole_heap (busL A2 2 c2 11) (xs := busL A1 2 c1 0) B.out rfl)
  clear ew6' Tw6'
  have FF := hide (show Fresh w.heap.size A2 from FC2.out.mono (by omega))
  clear FC2 FCR
  go_upto_region 3 with fail
  refine wp_region_L [0, 1, 2, 3, 4, 5, 6, 7, 8, 9, 10, 11, 12, 13, 14, 15, 16, 17, 18] [(0, fun W => W.heap[y]? = some (.cells (busL A2 2 c2 11).toArray 37 (0, 0))), (14, fun W => W.heap[y]? = some (.cells (busL A2 2 c2 11).toArray 37 (0, 0)))] (by kernel_rfl) ?_
  replace R := hide (show w6'.drew.heap[w.heap.size]? = some (.cells (busL none 0 0 0).toArray 37 (0, 0)) from R.out)
  replace B := hide (show w6'.drew.heap[y]? = some (.cells (busL A2 2 c2 11).toArray 37 (0, 0)) from B.out)
  replace C2 := hide (show Rd (w6'.drew) (w6'.drew).heap.size A2 23 (clRows (List.replicate 2 idleC)) from C2.out)
  replace Q := hide (show Below w.heap.size w w6'.drew from Q.out.drew)
  generalize w6'.drew = wd at *
  refine wpAnyL_load (i := 0) (v := .agg (busL A2 2 c2 11).toArray) rfl rfl (by kernel_rfl) (by kernel_rfl) (by kernel_rfl) (by kernel_rfl) (by kernel_rfl) (fun _ _ _ h => h) rfl (fun W h => exec_heap W y 37 _ _ h Tryz.underlying37 rfl (by kernel_rfl) _ _ (.tmp 4) (by rfl) (by rfl)) (B.out) ?_
  go_simp
  refine wpAnyL_pure (i := 1) (v := .int .i64 0) rfl rfl (by kernel_rfl) (by kernel_rfl) (by kernel_rfl) (by kernel_rfl) (by kernel_rfl) (fun _ _ _ h => h) rfl (fun W => by go_simp) ?_
  go_simp
  refine wpAnyL_pure (i := 2) (v := .bool true) rfl rfl (by kernel_rfl) (by kernel_rfl) (by kernel_rfl) (by kernel_rfl) (by kernel_rfl) (fun _ _ _ h => h) rfl (fun W => by go_simp) ?_
  go_simp
  refine wpAnyL_pure (i := 3) (v := .bool true) rfl rfl (by kernel_rfl) (by kernel_rfl) (by kernel_rfl) (by kernel_rfl) (by kernel_rfl) (fun _ _ _ h => h) rfl (fun W => by go_simp) ?_
  go_simp
  refine wpAnyL_pureG (i := 4) (v := .int .i64 0) rfl rfl (by kernel_rfl) (by kernel_rfl) (by kernel_rfl) (by kernel_rfl) (by kernel_rfl) (fun _ _ _ h => h) (by kernel_rfl) (fun W => by go_simp) ?_
  go_simp
  refine wpAnyL_pureG (i := 5) (v := .bool true) rfl rfl (by kernel_rfl) (by kernel_rfl) (by kernel_rfl) (by kernel_rfl) (by kernel_rfl) (fun _ _ _ h => h) (by kernel_rfl) (fun W => by go_simp) ?_
  go_simp
  refine wpAnyL_pure (i := 6) (v := .bool true) rfl rfl (by kernel_rfl) (by kernel_rfl) (by kernel_rfl) (by kernel_rfl) (by kernel_rfl) (fun _ _ _ h => h) rfl (fun W => by go_simp) ?_
  go_simp
  refine wpAnyL_pure (i := 7) (v := .bool true) rfl rfl (by kernel_rfl) (by kernel_rfl) (by kernel_rfl) (by kernel_rfl) (by kernel_rfl) (fun _ _ _ h => h) rfl (fun W => by go_simp) ?_
  go_simp
  refine wpAnyL_pureG (i := 8) (v := .slice E 0 ec) rfl rfl (by kernel_rfl) (by kernel_rfl) (by kernel_rfl) (by kernel_rfl) (by kernel_rfl) (fun _ _ _ h => h) (by kernel_rfl) (fun W => by go_simp) ?_
  go_simp
  refine wpAnyL_pureG (i := 9) (v := .int .i64 0) rfl rfl (by kernel_rfl) (by kernel_rfl) (by kernel_rfl) (by kernel_rfl) (by kernel_rfl) (fun _ _ _ h => h) (by kernel_rfl) (fun W => by go_simp) ?_
  go_simp
  refine wpAnyL_pureG (i := 10) (v := .bool true) rfl rfl (by kernel_rfl) (by kernel_rfl) (by kernel_rfl) (by kernel_rfl) (by kernel_rfl) (fun _ _ _ h => h) (by kernel_rfl) (fun W => by go_simp) ?_
  go_simp
  refine wpAnyL_pure (i := 11) (v := .bool true) rfl rfl (by kernel_rfl) (by kernel_rfl) (by kernel_rfl) (by kernel_rfl) (by kernel_rfl) (fun _ _ _ h => h) rfl (fun W => by go_simp) ?_
  go_simp
  refine wpAnyL_pure (i := 12) (v := .bool true) rfl rfl (by kernel_rfl) (by kernel_rfl) (by kernel_rfl) (by kernel_rfl) (by kernel_rfl) (fun _ _ _ h => h) rfl (fun W => by go_simp) ?_
  go_simp
  refine wpAnyL_pureG (i := 13) (v := .pointer (some ⟨y, 0, none⟩)) rfl rfl (by kernel_rfl) (by kernel_rfl) (by kernel_rfl) (by kernel_rfl) (by kernel_rfl) (fun _ _ _ h => h) (by kernel_rfl) (fun W => by go_simp) ?_
  go_simp
  refine wpAnyL_loadG (i := 14) (v := .slice A2 2 c2) rfl rfl (by kernel_rfl) (by kernel_rfl) (by kernel_rfl) (by kernel_rfl) (by kernel_rfl) (fun _ _ _ h => h) (by kernel_rfl) (fun W h => by have h0 : W.cell? ⟨y, 0, none⟩ = some (.slice A2 2 c2) := (by simp [World.cell?, h, busL]); clear h; go_simp) (B.out) ?_
  go_simp
  refine wpAnyL_pureG (i := 15) (v := .int .i64 2) rfl rfl (by kernel_rfl) (by kernel_rfl) (by kernel_rfl) (by kernel_rfl) (by kernel_rfl) (fun _ _ _ h => h) (by kernel_rfl) (fun W => by go_simp) ?_
  go_simp
  refine wpAnyL_pureG (i := 16) (v := .int .i64 2) rfl rfl (by kernel_rfl) (by kernel_rfl) (by kernel_rfl) (by kernel_rfl) (by kernel_rfl) (fun _ _ _ h => h) (by kernel_rfl) (fun W => by go_simp) ?_
  go_simp
  refine wpAnyL_pureG (i := 17) (v := .bool true) rfl rfl (by kernel_rfl) (by kernel_rfl) (by kernel_rfl) (by kernel_rfl) (by kernel_rfl) (fun _ _ _ h => h) (by kernel_rfl) (fun W => by go_simp) ?_
  go_simp
  refine wpAnyL_pure (i := 18) (v := .bool true) rfl rfl (by kernel_rfl) (by kernel_rfl) (by kernel_rfl) (by kernel_rfl) (by kernel_rfl) (fun _ _ _ h => h) rfl (fun W => by go_simp) ?_
  go_simp
  have TR := hide (show wd.there w.heap.size 0 2 from there_heap (cs := busL none 0 0 0) R.out)
  refine wpAnyL_one (i := 19) (by kernel_rfl) ?_
  refine wpOp_do rfl rfl ?_
  refine wp_store_as 37 (.tmp 2) (.tmp 19) rfl w.heap.size 0 (busL A2 2 c2 11) (by rfl) (by rfl) (by exact TR.out) (by kernel_rfl) (by simp [Value.oneCell', busL]) ?_
  intro wa ea
  replace B := hide (show wa.heap[y]? = some (.cells (busL A2 2 c2 11).toArray 37 (0, 0)) by rw [ea]; exact other_heap (by omega) _ _ _ B.out)
  replace C2 := hide (show Rd wa wa.heap.size A2 23 (clRows (List.replicate 2 idleC)) by rw [ea]; exact off_set C2.out O_C2_R.out _ _)
  replace Q := hide (show Below w.heap.size w wa by rw [ea]; exact Q.out.trans (below_setCells _ _ _ (by have := Q.out.size; omega)))
  replace R := hide (show wa.heap[w.heap.size]? = some (.cells (busL A2 2 c2 11).toArray 37 (0, 0)) by rw [ea]; exact whole_heap (busL A2 2 c2 11) (xs := busL none 0 0 0) R.out rfl)
  clear ea TR
  refine ⟨keepsL_mk (by kernel_rfl) (.cons B.out (.cons B.out .nil)), ?_⟩
  go_simp
  refine wpAnyL_one (i := 20) (by kernel_rfl) ?_
  refine wpOp_do rfl rfl ?_
  go_simp
  refine ⟨keepsL_mk (by kernel_rfl) (.cons B.out (.cons B.out .nil)), ?_⟩
  go_simp
  refine wpAnyL_done (by kernel_rfl) ?_ _
  go_wp2_with fail
  refine bodyPost_ret (results_cell_tmp (by rfl) _ wa w.heap.size 37 (busL A2 2 c2 11).toArray (0, 0) _ (.bool true) (by rfl) (by rfl) R.out Tryz.underlying37 (by rfl) (by kernel_rfl)) rfl ⟨A2, c2, rfl, C2.out, FF.out, Q.out⟩

theorem fr5_right : FP.rightB fr5 = true := by decide
theorem ten_f : FP.tenF = FP.tenT false := rfl
theorem fr5_parse : FP.parseF (bitsF fr5) = ⟨0, fr5, (bitsF fr5).length⟩ := by
  rw [FP.bits_split, ten_f]
  have h := FP.parse_back fr5_right false []
  rw [List.append_nil] at h
  rw [h, FP.bits_split, ten_f]
set_option maxRecDepth 100000 in
set_option maxHeartbeats 4000000 in
theorem alive00_any (w : World) : Calls Tryz.prog 9 #[] w fun e w' => e = .returned (.bool true) ∧ Below w.heap.size w w' := by
  obtain ⟨s, hs⟩ : ∃ s, s = bitsV fr5 := ⟨_, rfl⟩
  have hd : s.data.toList = bitsF fr5 := by rw [hs]; unfold bitsV; rw [fr5_right]; rfl
  have hz : s.size = (bitsF fr5).length := by rw [← hd]; rfl
  have BT := hide (show Calls Tryz.prog 23 #[.agg #[.int .u32 5, .bool false, .bool false, .int .i64 0, .string ⟨#[]⟩]] w fun e w' => e = .returned (.tuple #[.string s, .int .i64 0]) ∧ Below w.heap.size w w' from by
    have h := frBits_any fr5 w (by decide)
    have e0 : headE fr5 = 0 := by unfold headE; rw [fr5_right]; rfl
    rw [← hs, e0] at h
    exact h)
  have PT := hide (fun W => show Calls Tryz.prog 24 #[.string s] W fun e w' => e = .returned (.tuple #[.agg #[.int .u32 5, .bool false, .bool false, .int .i64 0, .string ⟨#[]⟩], .int .i64 s.size, .int .i64 0]) ∧ Below W.heap.size W w' from by
    have h := frParse_any s W (by rw [hd]; exact FP.bits_bits fr5) (by rw [hz]; have := FP.body_le fr5_right; have := FP.body_len fr5; omega)
    rw [hd, fr5_parse, ← hz] at h
    exact h)
  have e1 : ((s.size : Int) == (s.size : Int)) = true := by rw [beq_iff_eq]
  clear hs hd hz
  go_enter Tryz.func9, Tryz.ntmps9
  go_wp2_with fail
  (with_reducible refine BT.out.mono ?_)
  rintro e2 w1 ⟨rfl, q1⟩
  go_wp2_with fail
  (with_reducible refine (PT.out _).mono ?_)
  rintro e2 w2 ⟨rfl, q2⟩
  have q3 := below_next q1 q1.size q2
  go_wp2
  go_ret
  exact ⟨by simp, q3.alloc q3.size _⟩
end Go.Proofs.YthkilodnghiocaaGreatDoor

/- Rows beside some blocks. Nothing of the program's text. -/
namespace Go.Proofs.YthkilodnghiocaaGreatDoor
open Go.ChangeShapes Go.WideShapes Go.ChangeAt Go.RowKit

theorem offS_rd {W : World} {B : Nat} {A : Option Addr} {sz : Nat} {R : List (List Value)} (h : Rd W B A sz R) : OffS (fun k => B ≤ k) A R.length := by
  by_cases hn : 0 < R.length
  · obtain ⟨g, off, e, hb, _⟩ := h hn
    refine .inr fun g2 off2 e2 h2 => ?_
    rw [e] at e2
    cases e2
    exact Nat.not_le.2 hb h2
  · exact .inl (by omega)
theorem OffS.mono {S T : Nat → Prop} {A : Option Addr} {n : Nat} (h : OffS S A n) (hT : ∀ k, T k → S k) : OffS T A n := h.elim .inl fun f => .inr fun g off e t => f g off e (hT g t)
theorem OffS.or {S T : Nat → Prop} {A : Option Addr} {n : Nat} (h : OffS S A n) (k : OffS T A n) : OffS (fun x => S x ∨ T x) A n := h.elim .inl fun f => k.elim .inl fun f2 => .inr fun g off e t => t.elim (f g off e) (f2 g off e)
theorem offS_fresh {N n : Nat} {A : Option Addr} {S : Nat → Prop} (h : Fresh N A) (hS : ∀ k, S k → k < N) : OffS S A n := .inr fun g off e t => by have := h g off e; have := hS g t; omega
theorem offS_at {x n : Nat} {S : Nat → Prop} (h : ¬ S x) : OffS S (some ⟨x, 0, none⟩) n := .inr fun g off e t => by cases e; exact h t
end Go.Proofs.YthkilodnghiocaaGreatDoor

/- An append of one row of which one knows where it lies. Nothing of the program's text. -/
namespace Go.Proofs.YthkilodnghiocaaGreatDoor
open Go.ChangeShapes Go.WideShapes Go.ChangeAt Go.RowKit
section
variable {P : Program} {ops : Array Oper} {rest : List Oper} {o : Oper} {a : Act} {Q : Exit → Act → World → Prop}
theorem run_append_lies1 (w : World) {t ty e : TypeId} {sz bytes : Nat} (T : SlT P t e sz bytes) (base : Nat) (A : Option Addr) (c : Nat) (cs : List (List Value)) (hown : Own w base e sz A c cs)
    (B : Option Addr) (d : Nat) (r : List Value) (hrd : Rd w w.heap.size B sz [r]) (hr : r.length = sz) (h1 : ∀ u ∈ r, u.oneCell' = true)
    (hbytes : (cs.length + 1) * bytes ≤ 140737488355328) (h63 : cs.length + 1 ≤ maxLen) (hbase : base ≤ w.heap.size) :
    ∃ A' c' w', (Builtin.append_ #[t, t] ty #[.slice A cs.length c, .slice B 1 d]).run P w = .ok (.slice A' (cs.length + 1) c') w' ∧ Own w' base e sz A' c' (cs ++ [r]) ∧ w.grownBy w' (Value.slice A cs.length c).ownBlock ∧
      (∀ g off, A' = some ⟨g, off, none⟩ → (Value.slice A cs.length c).ownBlock = some g ∨ g = w.heap.size) := by
  obtain ⟨i, z, ht, hi, hz, hsz, hby, hzs, h0⟩ := T
  obtain ⟨b, off, rfl, hblt, hc⟩ := hrd (by simp)
  have hnews : ∀ j u, r[j]? = some u → w.cell? ((⟨b, off, none⟩ : Addr).add j) = some u := fun j u hu => by
    have h3 := hc 0 r j u rfl hu
    rw [Go.WideShapes.add_plain]
    rw [show off + 0 * sz + j = off + j by omega] at h3
    exact h3
  obtain ⟨g, cap, w', hrun, h2, h3, h4, _⟩ := run_append_lies (P := P) w t ty base e i z sz bytes ht hi hz hsz hby hzs h0 (.slice A cs.length c) cs.length cs.flatten hown ⟨b, off, none⟩ 1 d r (by rw [hr]; omega) hnews h1 (by omega) h63 hbytes hbase w.heap.size rfl
  refine ⟨_, _, w', hrun, ?_, h3, fun g' off' he => ?_⟩
  · unfold Own
    rw [List.length_append, List.flatten_append]
    simpa using h2
  · cases he
    exact h4
theorem wp_append_lies1 {K : Act → World → Prop} (w : World) (s x : Operand) (t : TypeId)
    (ho : o.op = .call { callee := .builtin .append, args := #[s, x], argTypes := #[t, t] })
    {e : TypeId} {sz bytes : Nat} (T : SlT P t e sz bytes) (base : Nat) (A : Option Addr) (N c : Nat) (cs : List (List Value)) (hs : a.eval s = .slice A N c) (hown : Own w base e sz A c cs)
    (B : Option Addr) (d : Nat) (r : List Value) (hx : a.eval x = .slice B 1 d) (hrd : Rd w w.heap.size B sz [r]) (hr : r.length = sz) (h1 : ∀ u ∈ r, u.oneCell' = true)
    (hbytes : (cs.length + 1) * bytes ≤ 140737488355328) (h63 : cs.length + 1 ≤ maxLen) (hbase : base ≤ w.heap.size) (hN : N = cs.length)
    (h : ∀ A' c' w', Own w' base e sz A' c' (cs ++ [r]) → w.grownBy w' (Value.slice A N c).ownBlock → (∀ g off, A' = some ⟨g, off, none⟩ → (Value.slice A N c).ownBlock = some g ∨ g = w.heap.size) → K (a.put o.dst (.slice A' (N + 1) c')) w') : Oper.wp P o a w K Q := by
  subst hN
  obtain ⟨A', c', w', hrun, h2, h3, h4⟩ := run_append_lies1 (P := P) (ty := o.type) w T base A c cs hown B d r hrd hr h1 hbytes h63 hbase
  unfold Oper.wp execOp
  simp only [ho, resolve, invoke, builtin, Sem.run_bind, Sem.run_pure, Result.andThen_ok, List.map_toArray, List.map_cons, List.map_nil, hs, hx, hrun]
  exact h A' c' w' h2 h3 h4
end
end Go.Proofs.YthkilodnghiocaaGreatDoor

/- Parts of a function's code, found by a region's number or a test's slot. Nothing of the program's text. -/
namespace Go.Proofs.YthkilodnghiocaaGreatDoor
open Go.ChangeShapes Go.WideShapes Go.ChangeAt Go.RowKit

def findC (p : Code → Bool) : Code → Option Code
  | .seq a b => if p (.seq a b) then some (.seq a b) else (findC p a).orElse fun _ => findC p b
  | .cond c a b => if p (.cond c a b) then some (.cond c a b) else (findC p a).orElse fun _ => findC p b
  | .block n b => if p (.block n b) then some (.block n b) else findC p b
  | .loop b => if p (.loop b) then some (.loop b) else findC p b
  | .scope b => if p (.scope b) then some (.scope b) else findC p b
  | .rangeFunc f ps a b => if p (.rangeFunc f ps a b) then some (.rangeFunc f ps a b) else (findC p a).orElse fun _ => findC p b
  | c => if p c then some c else none
def isRegion (n : Nat) : Code → Bool
  | .region k _ _ => k == n
  | _ => false
def isCond (t : Nat) : Code → Bool
  | .cond (.tmp k) _ _ => k == t
  | _ => false
def isBlock (n : Nat) : Code → Bool
  | .block k _ => k == n
  | _ => false
def partC (b : Option Code) (p : Code → Bool) : Code := (b.bind (findC p)).getD .skip
end Go.Proofs.YthkilodnghiocaaGreatDoor

/- What the walk of TopRouted keeps. -/
namespace Go.Proofs.YthkilodnghiocaaGreatDoor
open Go.ChangeShapes Go.WideShapes Go.ChangeAt Go.RowKit
open FP (Fr bitsF bodyF)

section
variable {P : Program} {ops : Array Oper} {rest : List Oper} {o : Oper} {a : Act} {Q : Exit → Act → World → Prop}
theorem wpList_append_lies1 (w : World) (hgd : o.guard = none) (s x : Operand) (t : TypeId)
    (ho : o.op = .call { callee := .builtin .append, args := #[s, x], argTypes := #[t, t] })
    {e : TypeId} {sz bytes : Nat} (T : SlT P t e sz bytes) (base : Nat) (A : Option Addr) (N c : Nat) (cs : List (List Value)) (hs : a.eval s = .slice A N c) (hown : Own w base e sz A c cs)
    (B : Option Addr) (d : Nat) (r : List Value) (hx : a.eval x = .slice B 1 d) (hrd : Rd w w.heap.size B sz [r]) (hr : r.length = sz) (h1 : ∀ u ∈ r, u.oneCell' = true)
    (hbytes : (cs.length + 1) * bytes ≤ 140737488355328) (h63 : cs.length + 1 ≤ maxLen) (hbase : base ≤ w.heap.size) (hN : N = cs.length)
    (h : ∀ A' c' w', Own w' base e sz A' c' (cs ++ [r]) → w.grownBy w' (Value.slice A N c).ownBlock → (∀ g off, A' = some ⟨g, off, none⟩ → (Value.slice A N c).ownBlock = some g ∨ g = w.heap.size) → wpList P ops Q rest (a.put o.dst (.slice A' (N + 1) c')) w') : wpList P ops Q (o :: rest) a w :=
  wpList_plain hgd fun _ hK => wp_append_lies1 w s x t ho T base A N c cs hs hown B d r hx hrd hr h1 hbytes h63 hbase hN fun A' c' w' h2 h3 h4 => hK _ _ (h A' c' w' h2 h3 h4)
end
theorem slStT : SlT Tryz.prog 22 9 1 16 := SlT.mk Tryz.underlying22 (z := .string ⟨#[]⟩) (by kernel_rfl) rfl (by decide)
/-- The boxes that are written, and a row that grows. -/
def ZS (b d : Nat) (SA : Option Addr) (k : Nat) : Prop := k = b ∨ k = d ∨ ∃ a : Addr, SA = some a ∧ a.block = k
theorem kp_appendG {W W' : World} {SA : Option Addr} {n m : Nat} (hg : W.grownBy W' (Value.slice SA n m).ownBlock) : Kp (fun k => ∃ a : Addr, SA = some a ∧ a.block = k) W W' :=
  ⟨hg.os, hg.tape, hg.output, hg.size, fun k hk hs => hg.block k hk fun e => by
    cases SA with
    | none => exact absurd e (by simp [Value.ownBlock])
    | some a => exact hs ⟨a, rfl, (Option.some.inj e).symm⟩⟩
theorem own_in {W : World} {N : Nat} {e : TypeId} {sz : Nat} {A : Option Addr} {c : Nat} {R : List (List Value)} (h : Own W N e sz A c R) : ∀ a : Addr, A = some a → N ≤ a.block ∧ a.block < W.heap.size := fun a ha => by
  subst ha
  exact World.ownsRow.lt h a.block rfl
structure Rt.Away (Z : Nat → Prop) (PA OA A : Option Addr) (n : Nat) : Prop where
  p : OffS Z PA 1
  o : OffS Z OA 1
  i : OffS Z A n
theorem Rt.kp {S : Nat → Prop} {W W1 : World} {PA OA A : Option Addr} {c : Nat} {l : List ByteArray} (h : Rt W PA OA A c l) (k : Kp S W W1) (a : Rt.Away S PA OA A l.length) : Rt W1 PA OA A c l :=
  ⟨k.rd h.P (by rw [List.length_map]; exact a.p), k.rd h.O a.o, k.rd h.I (by unfold stRow; rw [List.length_map]; exact a.i), h.n, h.cap, h.s⟩
theorem Rt.away {W : World} {PA OA A : Option Addr} {c : Nat} {l : List ByteArray} (h : Rt W PA OA A c l) : Rt.Away (fun k => W.heap.size ≤ k) PA OA A l.length :=
  ⟨by have := offS_rd h.P; rwa [List.length_map] at this, offS_rd h.O, by have := offS_rd h.I; unfold stRow at this; rwa [List.length_map] at this⟩
theorem Rt.Away.mono {S T : Nat → Prop} {PA OA A : Option Addr} {n : Nat} (h : Rt.Away S PA OA A n) (hT : ∀ k, T k → S k) : Rt.Away T PA OA A n := ⟨h.p.mono hT, h.o.mono hT, h.i.mono hT⟩
theorem Rt.Away.or {S T : Nat → Prop} {PA OA A : Option Addr} {n : Nat} (h : Rt.Away S PA OA A n) (k : Rt.Away T PA OA A n) : Rt.Away (fun x => S x ∨ T x) PA OA A n := ⟨h.p.or k.p, h.o.or k.o, h.i.or k.i⟩
/-- Behind an append: what lay beside the row that grew, and was there, lies beside it still. -/
theorem zs_after {W : World} {b d : Nat} {SA SA' : Option Addr} {n c : Nat} {W' : World} {N c2 : Nat} {R : List (List Value)} {e : TypeId} (oN : Own W' N e 1 SA' c2 R) (hR : 0 < R.length) (hl : ∀ g off, SA' = some ⟨g, off, none⟩ → (Value.slice SA n c).ownBlock = some g ∨ g = W.heap.size) :
    ∀ k, ZS b d SA' k → ZS b d SA k ∨ W.heap.size ≤ k := fun k hk => by
  rcases hk with h | h | ⟨a, ha, hb⟩
  · exact .inl (.inl h)
  · exact .inl (.inr (.inl h))
  · obtain ⟨g, e2, _, _⟩ := Own.ofLen oN hR
    rw [ha] at e2
    obtain rfl := Option.some.inj e2
    rcases hl g 0 ha with h | h
    · cases SA with
      | none => exact absurd h (by simp [Value.ownBlock])
      | some a2 => exact .inl (.inr (.inr ⟨a2, rfl, (Option.some.inj h).trans hb⟩))
    · exact .inr (by have : g = k := hb; omega)
def cutS (s : ByteArray) : ByteArray := s.extract 0 (min s.size 8)
theorem cutS_le (s : ByteArray) : (cutS s).size ≤ 8 := by unfold cutS; rw [ByteArray.size_extract]; omega
/-- The first k texts, cut, of which at most four have room. -/
def wantK (l : List ByteArray) (k : Nat) : List ByteArray := ((l.take k).map cutS).take 4
theorem wantK_len (l : List ByteArray) (k : Nat) (h : k ≤ l.length) : (wantK l k).length = min k 4 := by unfold wantK; simp; omega
theorem wantK_step {l : List ByteArray} {k : Nat} (h : k < l.length) (h4 : k < 4) : wantK l (k + 1) = wantK l k ++ [cutS l[k]] := by
  unfold wantK
  rw [List.take_of_length_le (l := (l.take (k + 1)).map cutS) (by simp; omega), List.take_of_length_le (l := (l.take k).map cutS) (by simp; omega), List.take_succ_eq_append_getElem h, List.map_append]
  rfl
theorem wantK_same {l : List ByteArray} {k j : Nat} (hk : 4 ≤ k) (hj : 4 ≤ j) : wantK l k = wantK l j := by
  unfold wantK
  rw [List.map_take, List.map_take, List.take_take, List.take_take]
  congr 1
  omega
theorem wantK_cut (l : List ByteArray) (k : Nat) : ∀ s ∈ wantK l k, s.size ≤ 8 := fun s hs => by
  unfold wantK at hs
  obtain ⟨y, _, rfl⟩ := List.mem_map.1 (List.mem_of_mem_take hs)
  exact cutS_le y
end Go.Proofs.YthkilodnghiocaaGreatDoor
