/- ctl.Right of any controller: what it answers, and that what it lets be is Ok. -/
import Derived.Test.YtkfedgjepiljiaaGreatDoorCsZF
import Derived.Test.YtkfedgjepiljiaaGreatDoorMgBuC
namespace Go.Proofs.YtkfedgjepiljiaaGreatDoor
open Go.ChangeShapes Go.WideShapes Go.ChangeAt Go.RowKit
open FP (Fr)

theorem ctlRight_any (c : Cl) (w : World) (hL : c.last = (c.L.toNat : Int)) (hs : c.got.size ≤ 300) (hid : c.f.id < 4294967296) : Calls Tryz.prog 5 #[.agg c.cs.toArray] w fun e w' => e = .returned (.bool (rightC c)) ∧ Below w.heap.size w w' := by
  cases h : rightC c
  · exact ctlRight_no c w hL hs hid h
  · exact ctlRight_ok c w (rightC_ok hL h)
end Go.Proofs.YtkfedgjepiljiaaGreatDoor

/- bus.Right, Submit, Level, Step and Run of any bus. -/
namespace Go.Proofs.YtkfedgjepiljiaaGreatDoor
open Go.ChangeShapes Go.WideShapes Go.ChangeAt Go.RowKit
open FP (Fr)

/-- What is known of controllers that came in. -/
def RawAll (l : List Cl) : Prop := ∀ c ∈ l, c.last = (c.L.toNat : Int) ∧ c.got.size ≤ 300 ∧ c.f.id < 4294967296
theorem busRightX (l : List Cl) (A : Option Addr) (c : Nat) (now : Int) (w : World) (hr : ClR w w.heap.size A l) (hl : l.length ≤ 1000000) (hraw : RawAll l) :
    Calls Tryz.prog 10 #[.agg (busL A l.length c now).toArray] w fun e w' => e = .returned (.bool (busMay rightC l now)) ∧ Below w.heap.size w w' :=
  busRight_any rightC l A c now w hr hl (hide fun f hf W => ctlRight_any f W (hraw f hf).1 (hraw f hf).2.1 (hraw f hf).2.2)
theorem busMay_ok {l : List Cl} {now : Int} (hraw : RawAll l) (h : busMay rightC l now = true) : (1 ≤ l.length ∧ l.length ≤ 4 ∧ 0 ≤ now ∧ now ≤ 1099511627776) ∧ AllOk l := by
  unfold busMay at h
  rw [Bool.and_eq_true, decide_eq_true_eq] at h
  exact ⟨h.1, fun c hc => rightC_ok (hraw c hc).1 (List.all_eq_true.1 h.2 c hc)⟩

set_option maxRecDepth 100000 in
set_option maxHeartbeats 16000000 in
theorem busSubmit_no (l : List Cl) (A : Option Addr) (c : Nat) (now : Int) (at_ : Int) (f : Fr)  (w : World) (hr : ClR w w.heap.size A l) (hl : l.length ≤ 1000000) (hraw : RawAll l) (h : busMay rightC l now = false ∨ at_ < 0 ∨ (l.length : Int) ≤ at_) :
    Calls Tryz.prog 6 #[.agg (busL A l.length c now).toArray, .int .i64 at_, .agg (frc f).toArray] w fun e w' => e = .returned (.tuple #[.agg (busL none 0 0 0).toArray, .int .i64 1]) ∧ Below w.heap.size w w' := by
  obtain ⟨w0, hw0⟩ : ∃ w0, w0 = ((w.alloc (.cells (busL A l.length c now).toArray 24)).alloc (.cells (frc f).toArray 29)).alloc (.cells (busL none 0 0 0).toArray 24) := ⟨_, rfl⟩
  have B := hide (heap_below (heap_below (World.alloc_heap_new w (.cells (busL A l.length c now).toArray 24)) ((Below.refl _ (w.alloc (.cells (busL A l.length c now).toArray 24))).alloc (Nat.le_refl _) (.cells (frc f).toArray 29))) ((Below.refl _ ((w.alloc (.cells (busL A l.length c now).toArray 24)).alloc (.cells (frc f).toArray 29))).alloc (Nat.le_refl _) (.cells (busL none 0 0 0).toArray 24)))
  have G := hide (heap_below (World.alloc_heap_new (w.alloc (.cells (busL A l.length c now).toArray 24)) (.cells (frc f).toArray 29)) ((Below.refl _ ((w.alloc (.cells (busL A l.length c now).toArray 24)).alloc (.cells (frc f).toArray 29))).alloc (Nat.le_refl _) (.cells (busL none 0 0 0).toArray 24)))
  have R := hide (World.alloc_heap_new ((w.alloc (.cells (busL A l.length c now).toArray 24)).alloc (.cells (frc f).toArray 29)) (.cells (busL none 0 0 0).toArray 24))
  have Q : Hid (Below w.heap.size w w0) := by rw [hw0]; exact hide ((((Below.refl w.heap.size w).alloc (Nat.le_refl _) (.cells (busL A l.length c now).toArray 24)).alloc (by simp; try omega) (.cells (frc f).toArray 29)).alloc (by simp; try omega) (.cells (busL none 0 0 0).toArray 24))
  rw [← hw0] at B G R
  simp only [World.size_alloc] at G R
  replace R := hide (show w0.heap[w.heap.size + 2]? = some (.cells (busL none 0 0 0).toArray 24 (0, 0)) from R.out)
  have RT := hide (busRightX l A c now w0 (hr.next Q.out Q.out.size) hl hraw)
  generalize busMay rightC l now = m at *
  clear hr hraw hl
  have HLL : (0 : Int) ≤ (l.length : Int) := by omega
  go_enter Tryz.func6, Tryz.ntmps6
  go_upto_region 1 with fail
  change Code.wp _ _ _ _ (((w.alloc (.cells (busL A l.length c now).toArray 24)).alloc (.cells (frc f).toArray 29)).alloc (.cells (busL none 0 0 0).toArray 24))
  rw [← hw0]
  clear hw0
  go_wp2_with (refine wpList_load_row rfl 24 (.tmp 3) (by rfl) w.heap.size (by rfl) 24 (busL A l.length c now).toArray (0, 0) _ (by exact B.out) Tryz.underlying24 (by rfl) (by kernel_rfl) ?_)
  (with_reducible refine (RT.out).mono ?_)
  rintro ew1' w1' ⟨rfl, qw1'⟩
  replace B := hide (heap_below B.out qw1')
  replace G := hide (heap_below G.out qw1')
  replace R := hide (heap_below R.out qw1')
  replace Q := hide (below_next Q.out Q.out.size qw1')
  clear qw1'
  clear RT
  clear G
  have h2 : m = false ∨ m = true ∧ (at_ < 0 ∨ ¬ at_ < 0 ∧ (l.length : Int) ≤ at_) := by cases m; exact .inl rfl; exact .inr ⟨rfl, by rcases h with h | h | h; cases h; exact .inl h; (by_cases h0 : at_ < 0; exact .inl h0; exact .inr ⟨h0, h⟩)⟩
  clear h
  obtain ⟨b0, b1⟩ := bus_cells B.out
  rcases h2 with rfl | ⟨rfl, h2 | ⟨h2, h3⟩⟩
  ·
    have TR := hide (show World.there _ (w.heap.size + 2) 0 2 from there_heap (cs := busL none 0 0 0) R.out)
    go_wp2_with (refine wpList_store_hid (by rfl) 24 (.tmp 6) (.tmp 24) (by rfl) (w.heap.size + 2) 0 (busL none 0 0 0) (by rfl) (by rfl) (by exact TR.out) (by kernel_rfl) (by simp [Value.oneCell', busL]) ?_)
    intro w6 e6
    have R6 := hide (show w6.heap[w.heap.size + 2]? = some (.cells (busL none 0 0 0).toArray 24 (0, 0)) by rw [e6.out]; exact whole_heap (busL none 0 0 0) (xs := busL none 0 0 0) R.out rfl)
    have Q6 := hide (show Below w.heap.size w w6 by rw [e6.out]; exact Q.out.trans (below_setCells _ _ _ (by omega)))
    clear e6 TR R Q
    go_wp2_with fail
    refine bodyPost_ret (results_cell_tmp (by rfl) _ w6 (w.heap.size + 2) 24 (busL none 0 0 0).toArray (0, 0) _ (.int .i64 1) (by rfl)  (by rfl) R6.out Tryz.underlying24 (by rfl) (by kernel_rfl)) rfl ⟨rfl, Q6.out⟩
  ·
    have TR := hide (show World.there _ (w.heap.size + 2) 0 2 from there_heap (cs := busL none 0 0 0) R.out)
    go_wp2_with (refine wpList_store_hid (by rfl) 24 (.tmp 6) (.tmp 24) (by rfl) (w.heap.size + 2) 0 (busL none 0 0 0) (by rfl) (by rfl) (by exact TR.out) (by kernel_rfl) (by simp [Value.oneCell', busL]) ?_)
    intro w6 e6
    have R6 := hide (show w6.heap[w.heap.size + 2]? = some (.cells (busL none 0 0 0).toArray 24 (0, 0)) by rw [e6.out]; exact whole_heap (busL none 0 0 0) (xs := busL none 0 0 0) R.out rfl)
    have Q6 := hide (show Below w.heap.size w w6 by rw [e6.out]; exact Q.out.trans (below_setCells _ _ _ (by omega)))
    clear e6 TR R Q
    go_wp2_with fail
    refine bodyPost_ret (results_cell_tmp (by rfl) _ w6 (w.heap.size + 2) 24 (busL none 0 0 0).toArray (0, 0) _ (.int .i64 1) (by rfl)  (by rfl) R6.out Tryz.underlying24 (by rfl) (by kernel_rfl)) rfl ⟨rfl, Q6.out⟩
  ·
    have TR := hide (show World.there _ (w.heap.size + 2) 0 2 from there_heap (cs := busL none 0 0 0) R.out)
    go_wp2_with (refine wpList_store_hid (by rfl) 24 (.tmp 6) (.tmp 24) (by rfl) (w.heap.size + 2) 0 (busL none 0 0 0) (by rfl) (by rfl) (by exact TR.out) (by kernel_rfl) (by simp [Value.oneCell', busL]) ?_)
    intro w6 e6
    have R6 := hide (show w6.heap[w.heap.size + 2]? = some (.cells (busL none 0 0 0).toArray 24 (0, 0)) by rw [e6.out]; exact whole_heap (busL none 0 0 0) (xs := busL none 0 0 0) R.out rfl)
    have Q6 := hide (show Below w.heap.size w w6 by rw [e6.out]; exact Q.out.trans (below_setCells _ _ _ (by omega)))
    clear e6 TR R Q
    go_wp2_with fail
    refine bodyPost_ret (results_cell_tmp (by rfl) _ w6 (w.heap.size + 2) 24 (busL none 0 0 0).toArray (0, 0) _ (.int .i64 1) (by rfl)  (by rfl) R6.out Tryz.underlying24 (by rfl) (by kernel_rfl)) rfl ⟨rfl, Q6.out⟩

set_option maxRecDepth 100000 in
set_option maxHeartbeats 16000000 in
theorem busLevel_no (l : List Cl) (A : Option Addr) (c : Nat) (now : Int)  (w : World) (hr : ClR w w.heap.size A l) (hl : l.length ≤ 1000000) (hraw : RawAll l) (h : busMay rightC l now = false) :
    Calls Tryz.prog 7 #[.agg (busL A l.length c now).toArray] w fun e w' => e = .returned (.tuple #[.int .u8 0, .int .i64 1]) ∧ Below w.heap.size w w' := by
  obtain ⟨w0, hw0⟩ : ∃ w0, w0 = w.alloc (.cells (busL A l.length c now).toArray 24) := ⟨_, rfl⟩
  have B := hide (World.alloc_heap_new w (.cells (busL A l.length c now).toArray 24))
  have Q : Hid (Below w.heap.size w w0) := by rw [hw0]; exact hide ((Below.refl w.heap.size w).alloc (Nat.le_refl _) (.cells (busL A l.length c now).toArray 24))
  rw [← hw0] at B
  have RT := hide (busRightX l A c now w0 (hr.next Q.out Q.out.size) hl hraw)
  generalize busMay rightC l now = m at *
  clear hr hraw hl
  have HLL : (0 : Int) ≤ (l.length : Int) := by omega
  go_enter Tryz.func7, Tryz.ntmps7
  go_upto_region 1 with fail
  change Code.wp _ _ _ _ (w.alloc (.cells (busL A l.length c now).toArray 24))
  rw [← hw0]
  clear hw0
  subst h
  go_wp2_with (refine wpList_load_row rfl 24 (.tmp 1) (by rfl) w.heap.size (by rfl) 24 (busL A l.length c now).toArray (0, 0) _ (by exact B.out) Tryz.underlying24 (by rfl) (by kernel_rfl) ?_)
  (with_reducible refine (RT.out).mono ?_)
  rintro ew1' w1' ⟨rfl, qw1'⟩
  replace B := hide (heap_below B.out qw1')
  replace Q := hide (below_next Q.out Q.out.size qw1')
  clear qw1'
  clear RT
  go_wp2_with fail
  refine bodyPost_ret (v := .tuple #[.int .u8 0, .int .i64 1]) (by simp [results, Tryz.results7, go_sem]) rfl ⟨rfl, Q.out⟩

set_option maxRecDepth 100000 in
set_option maxHeartbeats 16000000 in
theorem busLevel_yes (l : List Cl) (A : Option Addr) (c : Nat) (now : Int)  (w : World) (hr : ClR w w.heap.size A l) (hl : l.length ≤ 1000000) (hraw : RawAll l) (h : busMay rightC l now = true) :
    Calls Tryz.prog 7 #[.agg (busL A l.length c now).toArray] w fun e w' => e = .returned (.tuple #[.int .u8 (lvlB l).toNat, .int .i64 0]) ∧ Below w.heap.size w w' := by
  obtain ⟨w0, hw0⟩ : ∃ w0, w0 = w.alloc (.cells (busL A l.length c now).toArray 24) := ⟨_, rfl⟩
  have B := hide (World.alloc_heap_new w (.cells (busL A l.length c now).toArray 24))
  have Q : Hid (Below w.heap.size w w0) := by rw [hw0]; exact hide ((Below.refl w.heap.size w).alloc (Nat.le_refl _) (.cells (busL A l.length c now).toArray 24))
  rw [← hw0] at B
  obtain ⟨⟨h1, h4, hn0, hn1⟩, hok⟩ := busMay_ok hraw h
  have LV := hide (fun (W : World) (q : Below w.heap.size w W) => busLevel_in l A c now W (hr.next q q.size) h1 h4 hok)
  have RT := hide (busRightX l A c now w0 (hr.next Q.out Q.out.size) hl hraw)
  generalize busMay rightC l now = m at *
  clear hr hraw hl
  have HLL : (0 : Int) ≤ (l.length : Int) := by omega
  go_enter Tryz.func7, Tryz.ntmps7
  go_upto_region 1 with fail
  change Code.wp _ _ _ _ (w.alloc (.cells (busL A l.length c now).toArray 24))
  rw [← hw0]
  clear hw0
  subst h
  go_wp2_with (refine wpList_load_row rfl 24 (.tmp 1) (by rfl) w.heap.size (by rfl) 24 (busL A l.length c now).toArray (0, 0) _ (by exact B.out) Tryz.underlying24 (by rfl) (by kernel_rfl) ?_)
  (with_reducible refine (RT.out).mono ?_)
  rintro ew1' w1' ⟨rfl, qw1'⟩
  replace B := hide (heap_below B.out qw1')
  replace Q := hide (below_next Q.out Q.out.size qw1')
  clear qw1'
  clear RT
  have L1 := hide (LV.out w1' Q.out)
  clear LV
  go_wp2_with (refine wpList_load_row rfl 24 (.tmp 1) (by rfl) w.heap.size (by rfl) 24 (busL A l.length c now).toArray (0, 0) _ (by exact B.out) Tryz.underlying24 (by rfl) (by kernel_rfl) ?_)
  (with_reducible refine (L1.out).mono ?_)
  rintro ew2' w2' ⟨rfl, qw2'⟩
  replace B := hide (heap_below B.out qw2')
  replace Q := hide (below_next Q.out Q.out.size qw2')
  clear qw2'
  clear L1
  go_wp2_with fail
  refine bodyPost_ret (v := .tuple #[.int .u8 (lvlB l).toNat, .int .i64 0]) (by simp [results, Tryz.results7, go_sem]) rfl ⟨rfl, Q.out⟩

set_option maxRecDepth 100000 in
set_option maxHeartbeats 16000000 in
theorem busStep_no (l : List Cl) (A : Option Addr) (c : Nat) (now : Int)  (w : World) (hr : ClR w w.heap.size A l) (hl : l.length ≤ 1000000) (hraw : RawAll l) (h : busMay rightC l now = false ∨ 1099511627776 ≤ now) :
    Calls Tryz.prog 8 #[.agg (busL A l.length c now).toArray, .slice none 0 0] w fun e w' => e = .returned (.tuple #[.agg (busL none 0 0 0).toArray, .slice none 0 0, .int .i64 1]) ∧ Below w.heap.size w w' := by
  obtain ⟨w0, hw0⟩ : ∃ w0, w0 = (w.alloc (.cells (busL A l.length c now).toArray 24)).alloc (.cells (busL none 0 0 0).toArray 24) := ⟨_, rfl⟩
  have B := hide (heap_below (World.alloc_heap_new w (.cells (busL A l.length c now).toArray 24)) ((Below.refl _ (w.alloc (.cells (busL A l.length c now).toArray 24))).alloc (Nat.le_refl _) (.cells (busL none 0 0 0).toArray 24)))
  have R := hide (World.alloc_heap_new (w.alloc (.cells (busL A l.length c now).toArray 24)) (.cells (busL none 0 0 0).toArray 24))
  have Q : Hid (Below w.heap.size w w0) := by rw [hw0]; exact hide (((Below.refl w.heap.size w).alloc (Nat.le_refl _) (.cells (busL A l.length c now).toArray 24)).alloc (by simp; try omega) (.cells (busL none 0 0 0).toArray 24))
  rw [← hw0] at B R
  simp only [World.size_alloc] at R
  have RT := hide (busRightX l A c now w0 (hr.next Q.out Q.out.size) hl hraw)
  generalize busMay rightC l now = m at *
  clear hr hraw hl
  have HLL : (0 : Int) ≤ (l.length : Int) := by omega
  go_enter Tryz.func8, Tryz.ntmps8
  go_upto_region 1 with fail
  change Code.wp _ _ _ _ ((w.alloc (.cells (busL A l.length c now).toArray 24)).alloc (.cells (busL none 0 0 0).toArray 24))
  rw [← hw0]
  clear hw0
  go_wp2_with (refine wpList_load_row rfl 24 (.tmp 2) (by rfl) w.heap.size (by rfl) 24 (busL A l.length c now).toArray (0, 0) _ (by exact B.out) Tryz.underlying24 (by rfl) (by kernel_rfl) ?_)
  (with_reducible refine (RT.out).mono ?_)
  rintro ew1' w1' ⟨rfl, qw1'⟩
  replace B := hide (heap_below B.out qw1')
  replace R := hide (heap_below R.out qw1')
  replace Q := hide (below_next Q.out Q.out.size qw1')
  clear qw1'
  clear RT
  have h2 : m = false ∨ m = true ∧ 1099511627776 ≤ now := by cases m; exact .inl rfl; exact .inr ⟨rfl, by rcases h with h | h; cases h; exact h⟩
  clear h
  obtain ⟨b0, b1⟩ := bus_cells B.out
  have hg0 : ¬ (l.length : Int) < 0 := by omega
  rcases h2 with rfl | ⟨rfl, h2⟩
  ·
    have TR := hide (show World.there _ (w.heap.size + 1) 0 2 from there_heap (cs := busL none 0 0 0) R.out)
    go_wp2_with (refine wpList_store_hid (by rfl) 24 (.tmp 4) (.tmp 24) (by rfl) (w.heap.size + 1) 0 (busL none 0 0 0) (by rfl) (by rfl) (by exact TR.out) (by kernel_rfl) (by simp [Value.oneCell', busL]) ?_)
    intro w6 e6
    have R6 := hide (show w6.heap[w.heap.size + 1]? = some (.cells (busL none 0 0 0).toArray 24 (0, 0)) by rw [e6.out]; exact whole_heap (busL none 0 0 0) (xs := busL none 0 0 0) R.out rfl)
    have Q6 := hide (show Below w.heap.size w w6 by rw [e6.out]; exact Q.out.trans (below_setCells _ _ _ (by omega)))
    clear e6 TR R Q
    go_wp2_with fail
    refine bodyPost_ret (results_cell_tmp2 (by rfl) _ w6 (w.heap.size + 1) 24 (busL none 0 0 0).toArray (0, 0) _ (.slice none 0 0) (.int .i64 1) (by rfl)  (by rfl) (by rfl) R6.out Tryz.underlying24 (by rfl) (by kernel_rfl)) rfl ⟨rfl, Q6.out⟩
  ·
    have TR := hide (show World.there _ (w.heap.size + 1) 0 2 from there_heap (cs := busL none 0 0 0) R.out)
    go_wp2_with (refine wpList_store_hid (by rfl) 24 (.tmp 4) (.tmp 24) (by rfl) (w.heap.size + 1) 0 (busL none 0 0 0) (by rfl) (by rfl) (by exact TR.out) (by kernel_rfl) (by simp [Value.oneCell', busL]) ?_)
    intro w6 e6
    have R6 := hide (show w6.heap[w.heap.size + 1]? = some (.cells (busL none 0 0 0).toArray 24 (0, 0)) by rw [e6.out]; exact whole_heap (busL none 0 0 0) (xs := busL none 0 0 0) R.out rfl)
    have Q6 := hide (show Below w.heap.size w w6 by rw [e6.out]; exact Q.out.trans (below_setCells _ _ _ (by omega)))
    clear e6 TR R Q
    go_wp2_with fail
    refine bodyPost_ret (results_cell_tmp2 (by rfl) _ w6 (w.heap.size + 1) 24 (busL none 0 0 0).toArray (0, 0) _ (.slice none 0 0) (.int .i64 1) (by rfl)  (by rfl) (by rfl) R6.out Tryz.underlying24 (by rfl) (by kernel_rfl)) rfl ⟨rfl, Q6.out⟩

set_option maxRecDepth 100000 in
set_option maxHeartbeats 16000000 in
theorem busStep_yes (l : List Cl) (A : Option Addr) (c : Nat) (now : Int)  (w : World) (hr : ClR w w.heap.size A l) (hl : l.length ≤ 1000000) (hraw : RawAll l) (h : busMay rightC l now = true) (hn : now < 1099511627776) :
    Calls Tryz.prog 8 #[.agg (busL A l.length c now).toArray, .slice none 0 0] w fun e w' => ∃ A' c' E n ec, e = .returned (.tuple #[.agg (busL A' l.length c' (now + 1)).toArray, .slice E n ec, .int .i64 0]) ∧ Below w.heap.size w w' := by
  obtain ⟨w0, hw0⟩ : ∃ w0, w0 = (w.alloc (.cells (busL A l.length c now).toArray 24)).alloc (.cells (busL none 0 0 0).toArray 24) := ⟨_, rfl⟩
  have B := hide (heap_below (World.alloc_heap_new w (.cells (busL A l.length c now).toArray 24)) ((Below.refl _ (w.alloc (.cells (busL A l.length c now).toArray 24))).alloc (Nat.le_refl _) (.cells (busL none 0 0 0).toArray 24)))
  have R := hide (World.alloc_heap_new (w.alloc (.cells (busL A l.length c now).toArray 24)) (.cells (busL none 0 0 0).toArray 24))
  have Q : Hid (Below w.heap.size w w0) := by rw [hw0]; exact hide (((Below.refl w.heap.size w).alloc (Nat.le_refl _) (.cells (busL A l.length c now).toArray 24)).alloc (by simp; try omega) (.cells (busL none 0 0 0).toArray 24))
  rw [← hw0] at B R
  simp only [World.size_alloc] at R
  obtain ⟨⟨h1, h4, hn0, hn1⟩, hok⟩ := busMay_ok hraw h
  have LV := hide (fun (W : World) (q : Below w.heap.size w W) => busStep_in l A c now W (hr.next q q.size) h1 h4 hn0 hn hok)
  have RT := hide (busRightX l A c now w0 (hr.next Q.out Q.out.size) hl hraw)
  generalize busMay rightC l now = m at *
  clear hr hraw hl
  have HLL : (0 : Int) ≤ (l.length : Int) := by omega
  go_enter Tryz.func8, Tryz.ntmps8
  go_upto_region 1 with fail
  change Code.wp _ _ _ _ ((w.alloc (.cells (busL A l.length c now).toArray 24)).alloc (.cells (busL none 0 0 0).toArray 24))
  rw [← hw0]
  clear hw0
  subst h
  have hg0 : ¬ (l.length : Int) < 0 := by omega
  have hg1 : ¬ 1099511627776 ≤ now := by omega
  go_wp2_with (refine wpList_load_row rfl 24 (.tmp 2) (by rfl) w.heap.size (by rfl) 24 (busL A l.length c now).toArray (0, 0) _ (by exact B.out) Tryz.underlying24 (by rfl) (by kernel_rfl) ?_)
  (with_reducible refine (RT.out).mono ?_)
  rintro ew1' w1' ⟨rfl, qw1'⟩
  replace B := hide (heap_below B.out qw1')
  replace R := hide (heap_below R.out qw1')
  replace Q := hide (below_next Q.out Q.out.size qw1')
  clear qw1'
  clear RT
  obtain ⟨b0, b1⟩ := bus_cells B.out
  have L1 := hide (LV.out w1' Q.out)
  clear LV
  go_upto_region 3 with fail
  clear b0 b1
  go_wp2_with (refine wpList_load_row rfl 24 (.tmp 2) (by rfl) w.heap.size (by rfl) 24 (busL A l.length c now).toArray (0, 0) _ (by exact B.out) Tryz.underlying24 (by rfl) (by kernel_rfl) ?_)
  (with_reducible refine (L1.out).mono ?_)
  rintro ew2' w2' ⟨A1, c1, E, ec, rfl, _, _, qw2'⟩
  replace B := hide (heap_below B.out qw2')
  replace R := hide (heap_below R.out qw2')
  replace Q := hide (below_next Q.out Q.out.size qw2')
  clear qw2'
  clear L1
  have Tw3' := hide (show World.there _ w.heap.size 0 2 from there_heap (cs := busL A l.length c now) B.out)
  go_wp2_with (refine wpList_store_hid (by rfl) 24 (.tmp 2) (.tmp 29) (by rfl) w.heap.size 0 (busL A1 l.length c1 (now + 1)) (by rfl) (by rfl) (by exact Tw3'.out) (by kernel_rfl) (by simp [Value.oneCell', busL]) ?_)
  intro w3' ew3'
  replace R := hide (show w3'.heap[w.heap.size + 1]? = some (.cells (busL none 0 0 0).toArray 24 (0, 0)) by rw [ew3'.out]; exact other_heap (by omega) _ _ _ R.out)
  replace Q := hide (show Below w.heap.size w w3' by rw [ew3'.out]; exact Q.out.trans (below_setCells _ _ _ (by have := Q.out.size; omega)))
  replace B := hide (show w3'.heap[w.heap.size]? = some (.cells (busL A1 l.length c1 (now + 1)).toArray 24 (0, 0)) by rw [ew3'.out]; exact whole_heap (busL A1 l.length c1 (now + 1)) (xs := busL A l.length c now) B.out rfl)
  clear ew3' Tw3'
  have Tw4' := hide (show World.there _ (w.heap.size + 1) 0 2 from there_heap (cs := busL none 0 0 0) R.out)
  go_wp2_with (first | (refine wpList_load_row rfl 24 (.tmp 2) (by rfl) w.heap.size (by rfl) 24 (busL A1 l.length c1 (now + 1)).toArray (0, 0) _ (by exact B.out) Tryz.underlying24 (by rfl) (by kernel_rfl) ?_) | (refine wpList_store_hid (by rfl) 24 (.tmp 4) (.tmp 31) (by rfl) (w.heap.size + 1) 0 (busL A1 l.length c1 (now + 1)) (by rfl) (by rfl) (by exact Tw4'.out) (by kernel_rfl) (by simp [Value.oneCell', busL]) ?_))
  intro w4' ew4'
  replace B := hide (show w4'.heap[w.heap.size]? = some (.cells (busL A1 l.length c1 (now + 1)).toArray 24 (0, 0)) by rw [ew4'.out]; exact other_heap (by omega) _ _ _ B.out)
  replace Q := hide (show Below w.heap.size w w4' by rw [ew4'.out]; exact Q.out.trans (below_setCells _ _ _ (by have := Q.out.size; omega)))
  replace R := hide (show w4'.heap[w.heap.size + 1]? = some (.cells (busL A1 l.length c1 (now + 1)).toArray 24 (0, 0)) by rw [ew4'.out]; exact whole_heap (busL A1 l.length c1 (now + 1)) (xs := busL none 0 0 0) R.out rfl)
  clear ew4' Tw4'
  go_wp2_with fail
  refine bodyPost_ret (results_cell_tmp2 (by rfl) _ w4' (w.heap.size + 1) 24 (busL A1 l.length c1 (now + 1)).toArray (0, 0) _ (.slice E l.length ec) (.int .i64 0) (by rfl) (by rfl) (by rfl) R.out Tryz.underlying24 (by rfl) (by kernel_rfl)) rfl ⟨A1, c1, E, l.length, ec, rfl, Q.out⟩

set_option maxRecDepth 100000 in
set_option maxHeartbeats 16000000 in
theorem busRun_no (l : List Cl) (A : Option Addr) (c : Nat) (now : Int)  (w : World) (hr : ClR w w.heap.size A l) (hl : l.length ≤ 1000000) (hraw : RawAll l) (h : busMay rightC l now = false ∨ 1099511627773 < now) :
    Calls Tryz.prog 9 #[.agg (busL A l.length c now).toArray, .int .i64 3] w fun e w' => e = .returned (.tuple #[.agg (busL none 0 0 0).toArray, .slice none 0 0, .int .i64 1]) ∧ Below w.heap.size w w' := by
  obtain ⟨w0, hw0⟩ : ∃ w0, w0 = (w.alloc (.cells (busL A l.length c now).toArray 24)).alloc (.cells (busL none 0 0 0).toArray 24) := ⟨_, rfl⟩
  have B := hide (heap_below (World.alloc_heap_new w (.cells (busL A l.length c now).toArray 24)) ((Below.refl _ (w.alloc (.cells (busL A l.length c now).toArray 24))).alloc (Nat.le_refl _) (.cells (busL none 0 0 0).toArray 24)))
  have R := hide (World.alloc_heap_new (w.alloc (.cells (busL A l.length c now).toArray 24)) (.cells (busL none 0 0 0).toArray 24))
  have Q : Hid (Below w.heap.size w w0) := by rw [hw0]; exact hide (((Below.refl w.heap.size w).alloc (Nat.le_refl _) (.cells (busL A l.length c now).toArray 24)).alloc (by simp; try omega) (.cells (busL none 0 0 0).toArray 24))
  rw [← hw0] at B R
  simp only [World.size_alloc] at R
  have RT := hide (busRightX l A c now w0 (hr.next Q.out Q.out.size) hl hraw)
  generalize busMay rightC l now = m at *
  clear hr hraw hl
  have HLL : (0 : Int) ≤ (l.length : Int) := by omega
  go_enter Tryz.func9, Tryz.ntmps9
  go_upto_region 1 with fail
  change Code.wp _ _ _ _ ((w.alloc (.cells (busL A l.length c now).toArray 24)).alloc (.cells (busL none 0 0 0).toArray 24))
  rw [← hw0]
  clear hw0
  go_wp2_with (refine wpList_load_row rfl 24 (.tmp 2) (by rfl) w.heap.size (by rfl) 24 (busL A l.length c now).toArray (0, 0) _ (by exact B.out) Tryz.underlying24 (by rfl) (by kernel_rfl) ?_)
  (with_reducible refine (RT.out).mono ?_)
  rintro ew1' w1' ⟨rfl, qw1'⟩
  replace B := hide (heap_below B.out qw1')
  replace R := hide (heap_below R.out qw1')
  replace Q := hide (below_next Q.out Q.out.size qw1')
  clear qw1'
  clear RT
  have h2 : m = false ∨ m = true ∧ 1099511627773 < now := by cases m; exact .inl rfl; exact .inr ⟨rfl, by rcases h with h | h; cases h; exact h⟩
  clear h
  obtain ⟨b0, b1⟩ := bus_cells B.out
  rcases h2 with rfl | ⟨rfl, h2⟩
  ·
    have TR := hide (show World.there _ (w.heap.size + 1) 0 2 from there_heap (cs := busL none 0 0 0) R.out)
    go_wp2_with (refine wpList_store_hid (by rfl) 24 (.tmp 4) (.tmp 30) (by rfl) (w.heap.size + 1) 0 (busL none 0 0 0) (by rfl) (by rfl) (by exact TR.out) (by kernel_rfl) (by simp [Value.oneCell', busL]) ?_)
    intro w6 e6
    have R6 := hide (show w6.heap[w.heap.size + 1]? = some (.cells (busL none 0 0 0).toArray 24 (0, 0)) by rw [e6.out]; exact whole_heap (busL none 0 0 0) (xs := busL none 0 0 0) R.out rfl)
    have Q6 := hide (show Below w.heap.size w w6 by rw [e6.out]; exact Q.out.trans (below_setCells _ _ _ (by omega)))
    clear e6 TR R Q
    go_wp2_with fail
    refine bodyPost_ret (results_cell_tmp2 (by rfl) _ w6 (w.heap.size + 1) 24 (busL none 0 0 0).toArray (0, 0) _ (.slice none 0 0) (.int .i64 1) (by rfl)  (by rfl) (by rfl) R6.out Tryz.underlying24 (by rfl) (by kernel_rfl)) rfl ⟨rfl, Q6.out⟩
  ·
    have TR := hide (show World.there _ (w.heap.size + 1) 0 2 from there_heap (cs := busL none 0 0 0) R.out)
    go_wp2_with (refine wpList_store_hid (by rfl) 24 (.tmp 4) (.tmp 30) (by rfl) (w.heap.size + 1) 0 (busL none 0 0 0) (by rfl) (by rfl) (by exact TR.out) (by kernel_rfl) (by simp [Value.oneCell', busL]) ?_)
    intro w6 e6
    have R6 := hide (show w6.heap[w.heap.size + 1]? = some (.cells (busL none 0 0 0).toArray 24 (0, 0)) by rw [e6.out]; exact whole_heap (busL none 0 0 0) (xs := busL none 0 0 0) R.out rfl)
    have Q6 := hide (show Below w.heap.size w w6 by rw [e6.out]; exact Q.out.trans (below_setCells _ _ _ (by omega)))
    clear e6 TR R Q
    go_wp2_with fail
    refine bodyPost_ret (results_cell_tmp2 (by rfl) _ w6 (w.heap.size + 1) 24 (busL none 0 0 0).toArray (0, 0) _ (.slice none 0 0) (.int .i64 1) (by rfl)  (by rfl) (by rfl) R6.out Tryz.underlying24 (by rfl) (by kernel_rfl)) rfl ⟨rfl, Q6.out⟩
end Go.Proofs.YtkfedgjepiljiaaGreatDoor
