/- timer.Stop, Left. -/
import Derived.Test.YtnfpbbgajabjkaaTmD
namespace Go.Proofs.Ytnfpbbgajabjkaa
open Go.ChangeShapes Go.WideShapes Go.ChangeAt Go.RowKit

theorem two_box {W : World} {B : Nat} {a b : Value} {t : TypeId} (h : W.heap[B]? = some (.cells #[a, b] t (0, 0))) : W.cell? ⟨B, 0, none⟩ = some a ∧ W.cell? ⟨B, 1, none⟩ = some b ∧ W.frozen? ⟨B, 0, none⟩ = false ∧ W.frozen? ⟨B, 1, none⟩ = false := by
  refine ⟨?_, ?_, ?_, ?_⟩ <;> simp [World.cell?, World.frozen?, h]

def idxIs (id : Int) (l : List Tm) : Int := idxTm (fun x => x.id == id) l
def withoutTm (id : Int) (l : List Tm) : List Tm := l.filter fun x => !(x.id == id)

/-- What Stop leaves. -/
def StopV (now : Int) (l : List Tm) (id : Int) (w : World) (e : Ending) (w' : World) : Prop :=
  ∃ A c, e = .returned (.tuple #[.agg #[.int .i64 now, .slice A (withoutTm id l).length c], .bool (decide ((withoutTm id l).length < l.length)), .int .i64 0]) ∧ TmR w' w'.heap.size A (withoutTm id l) ∧ (withoutTm id l).length ≤ c ∧ Below w.heap.size w w'

theorem own_heapB {W W' : World} {base : Nat} {e : TypeId} {sz : Nat} {A : Option Addr} {c : Nat} {R : List (List Value)} (h : Own W base e sz A c R) {x : Nat} (hx : x < base) (cs : List Value) (o : Nat) (e' : W' = W.setCells x o cs) : Own W' base e sz A c R := by
  subst e'; exact own_setCells hx cs o _ h

set_option maxRecDepth 100000 in
set_option maxHeartbeats 2000000 in
theorem stop_bad (now : Int) (l : List Tm) (A : Option Addr) (c : Nat) (id : Int) (w : World) (hr : TmR w w.heap.size A l) (hl : l.length ≤ 1000) (hlc : l.length ≤ c) (hdue : ∀ x ∈ l, x.due ≤ 9223372036854775807) (hR : rightTm now l = false) :
    Calls Try.prog 14 #[.agg #[.int .i64 now, .slice A l.length c], .int .i64 id] w (fun e w' => e = .returned (.tuple #[.agg #[.int .i64 0, .slice none 0 0], .bool false, .int .i64 1]) ∧ Below w.heap.size w w') := by
  have RI := hide (fun W (q : Below w.heap.size w W) => tmRight_any now l A c W (hr.next q q.size) hl hlc hdue)
  rw [hR] at RI
  have HR := hide hr
  have q0 : Below w.heap.size w ((w.alloc (.cells #[.int .i64 now, .slice A l.length c] 24)).alloc (.cells #[.int .i64 0, .slice none 0 0] 24)) := ((Below.refl _ _).alloc (Nat.le_refl _) _).alloc (by simp) _
  have B0 : Hid (((w.alloc (.cells #[.int .i64 now, .slice A l.length c] 24)).alloc (.cells #[.int .i64 0, .slice none 0 0] 24)).heap[w.heap.size]? = some (.cells #[.int .i64 now, .slice A l.length c] 24 (0, 0))) :=
    hide (heap_below (World.alloc_heap_new w _) ((Below.refl _ _).alloc (Nat.le_refl _) _))
  have B1 : Hid (((w.alloc (.cells #[.int .i64 now, .slice A l.length c] 24)).alloc (.cells #[.int .i64 0, .slice none 0 0] 24)).heap[w.heap.size + 1]? = some (.cells #[.int .i64 0, .slice none 0 0] 24 (0, 0))) := by
    have := World.alloc_heap_new (w.alloc (.cells #[.int .i64 now, .slice A l.length c] 24)) (.cells #[.int .i64 0, .slice none 0 0] 24)
    exact hide (by simpa using this)
  clear hr hdue hR
  go_enter Try.func14, Try.ntmps14
  go_wp2_with fail
  (with_reducible refine (RI.out _ q0).mono ?_)
  rintro e1 w1 ⟨rfl, q1⟩
  have q1' := below_next q0 q0.size q1
  have B1' := heap_below B1.out q1
  have zz := heap_lt B1'
  obtain ⟨y0, y1, y2, y3⟩ := two_box B1'
  clear B1' q1
  go_wp2
  refine bodyPost_ret (v := .tuple #[.agg #[.int .i64 0, .slice none 0 0], .bool false, .int .i64 1]) (by simp [results, Try.results14, go_sem, y0, y1]) rfl ⟨rfl, ?_⟩
  repeat (first | ((with_reducible refine Below.setCell ?_ ?_ _); rotate_left 1; (first | (simp; omega) | simp | omega)) | ((with_reducible refine Below.alloc ?_ ?_ _); rotate_left 1; (first | (simp; omega) | simp | omega)))
  all_goals exact q1'

set_option maxRecDepth 100000 in
set_option maxHeartbeats 2000000 in
theorem stop_ok (now : Int) (l : List Tm) (A : Option Addr) (c : Nat) (id : Int) (w : World) (hr : TmR w w.heap.size A l) (hl : l.length ≤ 1000) (hlc : l.length ≤ c) (hdue : ∀ x ∈ l, x.due ≤ 9223372036854775807) (hR : rightTm now l = true) :
    Calls Try.prog 14 #[.agg #[.int .i64 now, .slice A l.length c], .int .i64 id] w (StopV now l id w) := by
  have RI := hide (fun W (q : Below w.heap.size w W) => tmRight_any now l A c W (hr.next q q.size) hl hlc hdue)
  rw [hR] at RI
  have HR := hide hr
  have q0 : Below w.heap.size w ((w.alloc (.cells #[.int .i64 now, .slice A l.length c] 24)).alloc (.cells #[.int .i64 0, .slice none 0 0] 24)) := ((Below.refl _ _).alloc (Nat.le_refl _) _).alloc (by simp) _
  have B0 : Hid (((w.alloc (.cells #[.int .i64 now, .slice A l.length c] 24)).alloc (.cells #[.int .i64 0, .slice none 0 0] 24)).heap[w.heap.size]? = some (.cells #[.int .i64 now, .slice A l.length c] 24 (0, 0))) :=
    hide (heap_below (World.alloc_heap_new w _) ((Below.refl _ _).alloc (Nat.le_refl _) _))
  have B1 : Hid (((w.alloc (.cells #[.int .i64 now, .slice A l.length c] 24)).alloc (.cells #[.int .i64 0, .slice none 0 0] 24)).heap[w.heap.size + 1]? = some (.cells #[.int .i64 0, .slice none 0 0] 24 (0, 0))) := by
    have := World.alloc_heap_new (w.alloc (.cells #[.int .i64 now, .slice A l.length c] 24)) (.cells #[.int .i64 0, .slice none 0 0] 24)
    exact hide (by simpa using this)
  clear hr hdue hR
  have CL := hide (fun W (q : Below w.heap.size w W) => cloneTm_any l A c W (HR.out.next q q.size) (by omega))
  have OF := hide (fun W => of_any id W)
  go_enter Try.func14, Try.ntmps14
  go_wp2_with fail
  (with_reducible refine (RI.out _ q0).mono ?_)
  rintro e1 w1 ⟨rfl, q1⟩
  have q1' := below_next q0 q0.size q1
  have B0' := hide (heap_below B0.out q1)
  have B1' := hide (heap_below B1.out q1)
  have zz := heap_lt B1'.out
  obtain ⟨x0, x1, _, _⟩ := two_box B0'.out
  clear q1
  go_wp2_with fail
  (with_reducible refine (CL.out _ q1').mono ?_)
  rintro e3 w3 ⟨A3, c3, rfl, o3, q3⟩
  go_wp2_with fail
  (with_reducible refine (OF.out _).mono ?_)
  rintro e4 w4 ⟨rfl, e4w⟩
  have q4 : Below w3.heap.size w3 w4 := by rw [e4w]; exact (Below.refl _ _).alloc (Nat.le_refl _) _
  have hcell : w4.heap[w3.heap.size]? = some (.cells #[.int .i64 id] 3 (0, 0)) := by rw [e4w]; exact World.alloc_heap_new w3 _
  have q34 := below_next q3 q3.size q4
  have DL := hide (deleteTm_any 95 #[.pointer (some ⟨w3.heap.size, 0, none⟩)] (fun x => x.id == id) (fun _ _ => call_of1 _ _) w1.heap.size l A3 c3 w4 (o3.grown q4) q34.size hl
    (fun W => W.heap[w3.heap.size]? = some (.cells #[.int .i64 id] 3 (0, 0))) (hide hcell) (hide (fun _ _ h q => heap_below h q)) (hide (fun _ _ h g => heap_grownB h g (own_ne o3 (Nat.le_refl _)))) ⟨0, 0⟩ (fun w => by kernel_rfl)
    (hide (fun f _ w' hw' hk => of1_any f id w3.heap.size w' (heap_lt hk) (cell_heap hk (Below.refl _ _) rfl))))
  clear e4w x0 x1 hcell
  have B0w := hide (heap_below B0'.out q34)
  have B1w := hide (heap_below B1'.out q34)
  clear o3 q3 q4
  go_wp2_with fail
  (with_reducible refine DL.out.mono ?_)
  rintro e5 w5 ⟨rfl, o5, q5⟩
  have z0 : w.heap.size < w1.heap.size := heap_lt B0'.out
  have B0x := heapB B0w.out q5 z0
  have B1x := heapB B1w.out q5 zz
  have qw5 : Below w.heap.size w w5 := q1'.trans ((q34.trans q5).mono (Nat.le_of_lt z0))
  have hfl := List.length_filter_le (fun x => !(x.id == id)) l
  have HV : withoutTm id l = l.filter fun x => !(x.id == id) := rfl
  generalize (l.filter fun x => !(x.id == id)) = f at *
  have HV := hide HV
  have hlf : (f.length : Int) ≤ (l.length : Int) := by omega
  obtain ⟨y0, y1, y2, y3⟩ := two_box B0x
  have OW := hide o5
  have B0x := hide B0x
  have B1x := hide B1x
  have zz5 : w.heap.size < w5.heap.size := heap_lt B0x.out
  clear q5 q34 B0w B1w B0' B1' DL o5
  go_wp2_with fail
  clear y0 y1 y2 y3
  have C0 : (w5.setCell ⟨w.heap.size, 1, none⟩ (.slice A3 f.length c3)).heap[w.heap.size]? = some (.cells #[.int .i64 now, .slice A3 f.length c3] 24 (0, 0)) := by
    have := heap_setCell_same w5 w.heap.size 1 _ _ (.slice A3 f.length c3) B0x.out
    simpa using this
  have C1 : (w5.setCell ⟨w.heap.size, 1, none⟩ (.slice A3 f.length c3)).heap[w.heap.size + 1]? = some (.cells #[.int .i64 0, .slice none 0 0] 24 (0, 0)) := by
    rw [heap_setCell_other w5 ⟨w.heap.size, 1, none⟩ _ _ (by simp)]
    exact B1x.out
  have OW6 := hide (own_setj OW.out (by omega : w.heap.size < w1.heap.size) 1 (.slice A3 f.length c3))
  have Q6 : Below w.heap.size w (w5.setCell ⟨w.heap.size, 1, none⟩ (.slice A3 f.length c3)) := qw5.setCell (Nat.le_refl _) _
  refine wp_region_L [0, 1, 2, 3, 4, 5] [(0, fun W => W.heap[w.heap.size]? = some (.cells #[.int .i64 now, .slice A3 f.length c3] 24 (0, 0))), (2, fun W => W.heap[w.heap.size]? = some (.cells #[.int .i64 now, .slice A3 f.length c3] 24 (0, 0)))] (by kernel_rfl) ?_
  replace C0 : Hid ((w5.setCell ⟨w.heap.size, 1, none⟩ (.slice A3 f.length c3)).drew.heap[w.heap.size]? = some (.cells #[.int .i64 now, .slice A3 f.length c3] 24 (0, 0))) := hide C0
  replace C1 : Hid ((w5.setCell ⟨w.heap.size, 1, none⟩ (.slice A3 f.length c3)).drew.heap[w.heap.size + 1]? = some (.cells #[.int .i64 0, .slice none 0 0] 24 (0, 0))) := hide C1
  replace OW6 : Hid (Own (w5.setCell ⟨w.heap.size, 1, none⟩ (.slice A3 f.length c3)).drew w1.heap.size 40 2 A3 c3 (f.map tmc)) := OW6
  replace Q6 : Hid (Below w.heap.size w (w5.setCell ⟨w.heap.size, 1, none⟩ (.slice A3 f.length c3)).drew) := hide Q6.drew
  generalize (w5.setCell ⟨w.heap.size, 1, none⟩ (.slice A3 f.length c3)).drew = W6 at *
  refine wpAnyL_load (i := 0) (v := .agg #[.int .i64 now, .slice A3 f.length c3]) rfl rfl (by kernel_rfl) (by kernel_rfl) (by kernel_rfl) (by kernel_rfl) (by kernel_rfl) (fun _ _ _ h => h) rfl (fun W h => exec_heap W w.heap.size 24 _ _ h Try.underlying24 rfl (by kernel_rfl) _ _ (.tmp 2) (by rfl) (by rfl)) (C0.out) ?_
  refine wpAnyL_pure (i := 1) (v := .pointer (some ⟨w.heap.size, 1, none⟩)) rfl rfl (by kernel_rfl) (by kernel_rfl) (by kernel_rfl) (by kernel_rfl) (by kernel_rfl) (fun _ _ _ h => h) rfl (fun W => by go_simp) ?_
  go_simp
  refine wpAnyL_load (i := 2) (v := .slice A3 f.length c3) rfl rfl (by kernel_rfl) (by kernel_rfl) (by kernel_rfl) (by kernel_rfl) (by kernel_rfl) (fun _ _ _ h => h) rfl (fun W h => by (have hc0 : W.cell? ⟨w.heap.size, 1, none⟩ = some (.slice A3 f.length c3) := by simp [World.cell?, h]); clear h; go_simp) (C0.out) ?_
  refine wpAnyL_pure (i := 3) (v := .int .i64 f.length) rfl rfl (by kernel_rfl) (by kernel_rfl) (by kernel_rfl) (by kernel_rfl) (by kernel_rfl) (fun _ _ _ h => h) rfl (fun W => by go_simp) ?_
  go_simp
  refine wpAnyL_pure (i := 4) (v := .int .i64 l.length) rfl rfl (by kernel_rfl) (by kernel_rfl) (by kernel_rfl) (by kernel_rfl) (by kernel_rfl) (fun _ _ _ h => h) rfl (fun W => by go_simp) ?_
  refine wpAnyL_pure (i := 5) (v := .bool (decide (f.length < l.length))) rfl rfl (by kernel_rfl) (by kernel_rfl) (by kernel_rfl) (by kernel_rfl) (by kernel_rfl) (fun _ _ _ h => h) rfl (fun W => by go_simp) ?_
  go_simp
  refine wpAnyL_one (i := 6) (by kernel_rfl) ?_
  refine wpOp_do rfl rfl ?_
  refine wp_store_as 24 (.tmp 4) (.tmp 22) rfl (w.heap.size + 1) 0 [.int .i64 now, .slice A3 f.length c3] (by rfl) (by rfl) (show W6.there (w.heap.size + 1) 0 2 from there_heap (cs := [_, _]) C1.out) (by kernel_rfl) (by simp [Value.oneCell']) ?_
  intro W7 e7
  have C7 := whole_heap [.int .i64 now, .slice A3 f.length c3] (xs := [_, _]) C1.out rfl
  have o7 := own_setCells (x := w.heap.size + 1) (by omega) [.int .i64 now, .slice A3 f.length c3] 0 _ OW6.out
  have q7 := Q6.out.trans (below_setCells (g := w.heap.size + 1) [.int .i64 now, .slice A3 f.length c3] 0 W6 (by omega))
  have C0' := other_heap (b := w.heap.size + 1) (x := w.heap.size) (by omega) [.int .i64 now, .slice A3 f.length c3] 0 _ C0.out
  rw [← e7] at C7 o7 q7 C0'
  refine ⟨keepsL_mk (by kernel_rfl) (.past (by kernel_rfl) (.cons C0' .nil)), ?_⟩
  have FIN := hide (And.intro o7 q7)
  obtain ⟨y0, y1, _, _⟩ := two_box C7
  clear C7 C0' o7 q7 e7 C0 C1 OW6 Q6 OW B0x B1x qw5
  refine wpAnyL_one (i := 7) (by kernel_rfl) ?_
  refine wpOp_do rfl rfl ?_
  go_simp
  refine ⟨keepsL_all (by kernel_rfl) (by kernel_rfl), ?_⟩
  refine wpAnyL_one (i := 8) (by kernel_rfl) ?_
  refine wpOp_do rfl rfl ?_
  go_simp
  refine ⟨keepsL_all (by kernel_rfl) (by kernel_rfl), ?_⟩
  refine wpAnyL_done (by kernel_rfl) ?_ _
  go_wp2
  refine bodyPost_ret (v := .tuple #[.agg #[.int .i64 now, .slice A3 f.length c3], .bool (decide (f.length < l.length)), .int .i64 0]) (by simp [results, Try.results14, go_sem, y0, y1]) rfl ⟨A3, c3, by rw [HV.out], by rw [HV.out]; exact FIN.out.1.rd (tmc_rows f), by rw [HV.out]; have := FIN.out.1.le; simpa using this, FIN.out.2⟩
end Go.Proofs.Ytnfpbbgajabjkaa
