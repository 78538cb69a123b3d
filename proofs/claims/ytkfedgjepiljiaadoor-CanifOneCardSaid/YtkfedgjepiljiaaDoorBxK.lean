/- box.Take, Drop. -/
import Derived.Test.YtkfedgjepiljiaaDoorBxJ
namespace Go.Proofs.YtkfedgjepiljiaaDoor
open Go.ChangeShapes Go.WideShapes Go.ChangeAt Go.RowKit
open FP (Fr)
open HP (kB at' Hp UpI DnI)

theorem keeps_last {ops : Array Oper} {R : Nat → World → Prop} {j : Nat} {w w' : World} (h0 : mayAhead .any ops 0 j = false) (h1 : mayAhead .any ops 1 j = false) (hj : j ∉ [0, 1] := by decide) : keeps .any ops [0, 1] R j w w' :=
  ⟨fun h => absurd h hj, fun _ i hi hm => by
    simp only [List.mem_cons, List.not_mem_nil, or_false] at hi
    rcases hi with rfl | rfl
    · rw [h0] at hm; cases hm
    · rw [h1] at hm; cases hm⟩
/-- What Take's last loads ask. -/
def tkR (a b : Nat) (cs ds : List Value) : Nat → World → Prop
  | 0, W => W.rangeAt a 0 cs
  | _, W => W.rangeAt b 0 ds
theorem tkR_all {a b : Nat} {cs ds : List Value} {W : World} (h0 : W.rangeAt a 0 cs) (h1 : W.rangeAt b 0 ds) (j : Nat) : tkR a b cs ds j W := by
  cases j
  · exact h0
  · exact h1

def NoTake (n : Int) (w : World) (e : Ending) (w' : World) : Prop := e = .returned (.tuple #[.agg #[.slice none 0 0, .int .i64 0, .int .i64 0], .agg #[.int .i64 0, .int .u32 0, .bool false, .bool false, .int .i64 0, .string ⟨#[]⟩, .int .i64 0], .int .i64 n]) ∧ Below w.heap.size w w'

set_option maxRecDepth 100000 in
set_option maxHeartbeats 2000000 in
theorem take_bad (l : List Bx) (A : Option Addr) (c : Nat) (seq cap n : Int) (w : World) (hr : BxR w w.heap.size A l) (hl : l.length ≤ 1000) (hcl : l.length ≤ c) (hid : ∀ x ∈ l, x.f.id < 4294967296)
    (hb : bestA l seq cap = (zBx, n)) (hn : (n == 0) = false) :
    Calls Tryd.prog 19 #[.agg #[.slice A l.length c, .int .i64 seq, .int .i64 cap]] w (NoTake n w) := by
  have BE := hide (fun W (q : Below w.heap.size w W) => best_any l A c seq cap W (hr.next q q.size) hl hcl hid)
  rw [hb] at BE
  have q0 : Below w.heap.size w (((w.alloc (.cells #[.slice A l.length c, .int .i64 seq, .int .i64 cap] 29)).alloc (.cells #[.slice none 0 0, .int .i64 0, .int .i64 0] 29)).alloc (.cells #[.int .i64 0, .int .u32 0, .bool false, .bool false, .int .i64 0, .string ⟨#[]⟩, .int .i64 0] 60)) :=
    (((Below.refl _ _).alloc (Nat.le_refl _) _).alloc (by simp) _).alloc (by simp; omega) _
  have hn' : (n != 0) = true := by simp [bne, hn]
  clear hr hid hb
  go_enter Tryd.func19, Tryd.ntmps19
  go_wp2_with fail
  refine (BE.out _ q0).mono ?_
  rintro e1 w1 ⟨rfl, q1⟩
  have q1' := below_next q0 q0.size q1
  obtain ⟨hc1, hz1⟩ := bcell q1
  have hf1 : ∀ b o, b < w.heap.size + 3 → w1.frozen? ⟨b, o, none⟩ = _ := fun b o h => q1.frozen (p := ⟨b, o, none⟩) (by simpa using h)
  have z1 : w.heap.size + 1 + 1 < w1.heap.size := by simp at hz1; omega
  have z1a : w.heap.size + 1 < w1.heap.size := by omega
  unfold zBx
  go_wp2
  refine bodyPost_ret (v := .tuple #[.agg #[.slice none 0 0, .int .i64 0, .int .i64 0], .agg #[.int .i64 0, .int .u32 0, .bool false, .bool false, .int .i64 0, .string ⟨#[]⟩, .int .i64 0], .int .i64 n]) (by simp [results, Tryd.results19, go_sem, hc1, z1, z1a]) rfl ⟨rfl, ?_⟩
  repeat (first | ((with_reducible refine Below.setCell ?_ ?_ _); rotate_left 1; (first | (simp; omega) | simp | omega)) | ((with_reducible refine Below.alloc ?_ ?_ _); rotate_left 1; (first | (simp; omega) | simp | omega)))
  all_goals exact q1'

def TakeV (l : List Bx) (seq cap : Int) (w : World) (e : Ending) (w' : World) : Prop :=
  ∃ A c m, e = .returned (.tuple #[.agg #[.slice A m.length c, .int .i64 seq, .int .i64 cap], .agg #[.int .i64 (at' l 0).h, .int .u32 (at' l 0).f.id, .bool (at' l 0).f.ext, .bool (at' l 0).f.rem, .int .i64 (at' l 0).f.dlc, .string (at' l 0).f.data, .int .i64 (at' l 0).s], .int .i64 0]) ∧ Own w' w.heap.size 60 7 A c (m.map bxc) ∧ (m ++ [at' l 0]).Perm l ∧ Hp m 0 m.length ∧ Below w.heap.size w w'

set_option maxRecDepth 100000 in
set_option maxHeartbeats 2000000 in
theorem take_ok (l : List Bx) (A : Option Addr) (c : Nat) (seq cap : Int) (w : World) (hr : BxR w w.heap.size A l) (hcl : l.length ≤ c) (hid : ∀ x ∈ l, x.f.id < 4294967296)
    (hR : rightBx l seq cap = true) (hn : 0 < l.length) :
    Calls Tryd.prog 19 #[.agg #[.slice A l.length c, .int .i64 seq, .int .i64 cap]] w (TakeV l seq cap w) := by
  obtain ⟨r1, r2, r3, r4, r5, _⟩ := rightBx_iff.1 hR
  have BE := hide (fun W (q : Below w.heap.size w W) => best_any l A c seq cap W (hr.next q q.size) (by omega) hcl hid)
  have hb : bestA l seq cap = (at' l 0, 0) := by unfold bestA; rw [if_neg (by rw [hR]; simp), if_neg (by omega)]
  rw [hb] at BE
  have q0 : Below w.heap.size w (((w.alloc (.cells #[.slice A l.length c, .int .i64 seq, .int .i64 cap] 29)).alloc (.cells #[.slice none 0 0, .int .i64 0, .int .i64 0] 29)).alloc (.cells #[.int .i64 0, .int .u32 0, .bool false, .bool false, .int .i64 0, .string ⟨#[]⟩, .int .i64 0] 60)) :=
    (((Below.refl _ _).alloc (Nat.le_refl _) _).alloc (by simp) _).alloc (by simp; omega) _
  have CL := hide (fun W (q : Below w.heap.size w W) => cloneBx_any l A c W (hr.next q q.size) (by omega))
  have HG := hide (right_good hR hid)
  have HH := hide (right_heap hR hid)
  clear hr hid hb hR
  obtain ⟨x, hx⟩ : ∃ x, x = at' l 0 := ⟨_, rfl⟩
  rw [← hx] at BE
  have HX := hide hx
  clear hx
  go_enter Tryd.func19, Tryd.ntmps19
  go_wp2_with fail
  refine (BE.out _ q0).mono ?_
  rintro e1 w1 ⟨rfl, q1⟩
  have q1' := below_next q0 q0.size q1
  have z1 : w.heap.size + 3 ≤ w1.heap.size := by have := q1.size; simp at this; omega
  have z1a : w.heap.size < w1.heap.size := by omega
  have CELLS := hide (show ∀ W, Below (w.heap.size + 3) (((w.alloc (.cells #[.slice A l.length c, .int .i64 seq, .int .i64 cap] 29)).alloc (.cells #[.slice none 0 0, .int .i64 0, .int .i64 0] 29)).alloc (.cells #[.int .i64 0, .int .u32 0, .bool false, .bool false, .int .i64 0, .string ⟨#[]⟩, .int .i64 0] 60)) W → W.cell? ⟨w.heap.size, 0, none⟩ = some (.slice A l.length c) ∧ W.cell? ⟨w.heap.size, 1, none⟩ = some (.int .i64 seq) ∧ W.cell? ⟨w.heap.size, 2, none⟩ = some (.int .i64 cap) ∧ W.cell? ⟨w.heap.size + 1, 0, none⟩ = some (.slice none 0 0) ∧ W.cell? ⟨w.heap.size + 1, 1, none⟩ = some (.int .i64 0) ∧ W.cell? ⟨w.heap.size + 1, 2, none⟩ = some (.int .i64 0) ∧ W.cell? ⟨w.heap.size + 1 + 1, 0, none⟩ = some (.int .i64 0) ∧ W.cell? ⟨w.heap.size + 1 + 1, 1, none⟩ = some (.int .u32 0) ∧ W.cell? ⟨w.heap.size + 1 + 1, 2, none⟩ = some (.bool false) ∧ W.cell? ⟨w.heap.size + 1 + 1, 3, none⟩ = some (.bool false) ∧ W.cell? ⟨w.heap.size + 1 + 1, 4, none⟩ = some (.int .i64 0) ∧ W.cell? ⟨w.heap.size + 1 + 1, 5, none⟩ = some (.string ⟨#[]⟩) ∧ W.cell? ⟨w.heap.size + 1 + 1, 6, none⟩ = some (.int .i64 0) from fun W Q => ⟨cellBelow Q (by omega) (by simp [go_sem]), cellBelow Q (by omega) (by simp [go_sem]), cellBelow Q (by omega) (by simp [go_sem]), cellBelow Q (by omega) (by simp [go_sem]), cellBelow Q (by omega) (by simp [go_sem]), cellBelow Q (by omega) (by simp [go_sem]), cellBelow Q (by omega) (by simp [go_sem]), cellBelow Q (by omega) (by simp [go_sem]), cellBelow Q (by omega) (by simp [go_sem]), cellBelow Q (by omega) (by simp [go_sem]), cellBelow Q (by omega) (by simp [go_sem]), cellBelow Q (by omega) (by simp [go_sem]), cellBelow Q (by omega) (by simp [go_sem])⟩)
  have Q1 : Below (w.heap.size + 3) (((w.alloc (.cells #[.slice A l.length c, .int .i64 seq, .int .i64 cap] 29)).alloc (.cells #[.slice none 0 0, .int .i64 0, .int .i64 0] 29)).alloc (.cells #[.int .i64 0, .int .u32 0, .bool false, .bool false, .int .i64 0, .string ⟨#[]⟩, .int .i64 0] 60)) w1 := by simpa using q1
  obtain ⟨d1, d2, d3, d4, d5, d6, d7, d8, d9, d10, d11, d12, d13⟩ := CELLS.out w1 Q1
  go_wp2_with fail
  have q2' : Below w.heap.size w (w1.alloc (.cells #[.int .i64 x.h, .int .u32 x.f.id, .bool x.f.ext, .bool x.f.rem, .int .i64 x.f.dlc, .string x.f.data, .int .i64 x.s] 60)) := q1'.alloc q1'.size _
  have Q2 := Q1.alloc z1 (.cells #[.int .i64 x.h, .int .u32 x.f.id, .bool x.f.ext, .bool x.f.rem, .int .i64 x.f.dlc, .string x.f.data, .int .i64 x.s] 60)
  have z2 : w1.heap.size + 1 = (w1.alloc (.cells #[.int .i64 x.h, .int .u32 x.f.id, .bool x.f.ext, .bool x.f.rem, .int .i64 x.f.dlc, .string x.f.data, .int .i64 x.s] 60)).heap.size := by simp
  generalize w1.alloc (.cells #[.int .i64 x.h, .int .u32 x.f.id, .bool x.f.ext, .bool x.f.rem, .int .i64 x.f.dlc, .string x.f.data, .int .i64 x.s] 60) = w2 at *
  have zz2 : w.heap.size + 3 ≤ w2.heap.size := by omega
  clear z2 q1 q1' d1 d2 d3 d4 d5 d6 d7 d8 d9 d10 d11 d12 d13
  (with_reducible refine (CL.out _ q2').mono ?_)
  rintro e3 w3 ⟨A3, c3, rfl, o3, q3⟩
  have Q3 := Q2.trans (q3.mono zz2)
  have H3 := HQ.new o3 q3
  have zz3 : w2.heap.size ≤ w3.heap.size := q3.size
  have PP := hide (hpPop_any _ _ _ _ _ _ _ H3 (by omega) hn HG.out HH.out)
  clear o3 H3
  go_wp2_with fail
  (with_reducible refine PP.out.mono ?_)
  rintro e4 w4 ⟨x', m, A4, c4, rfl, hx', h4, p4, hp4⟩
  obtain rfl : x' = x := hx'.trans HX.out.symm
  clear hx'
  have asrt := fun W => assert_box x' W
  have Q4 := Q2.trans (h4.q.mono zz2)
  obtain ⟨d1, d2, d3, d4, d5, d6, d7, d8, d9, d10, d11, d12, d13⟩ := CELLS.out w4 Q4
  have hf4 : ∀ b o, b < w.heap.size + 3 → w4.frozen? ⟨b, o, none⟩ = _ := fun b o h => Q4.frozen (p := ⟨b, o, none⟩) h
  have hcell := h4.cell
  have hlt4 := h4.lt
  have hB4 := h4.hB
  have zz4 : w.heap.size < w4.heap.size := by omega
  have qw4 : Below w.heap.size w w4 := q2'.trans (h4.q.mono (by omega))
  have FIN := hide (And.intro h4 (And.intro p4 hp4))
  have AB := hide (own_blk h4.own)
  have RD4 := hide h4.rd
  have HLE := hide h4.le
  clear h4 p4 hp4 PP
  go_wp2_with fail
  have zz4a : w.heap.size + 1 < w4.heap.size := by omega
  have zz4b : w.heap.size + 1 + 1 < w4.heap.size := by omega
  have f1 : ∀ a j, a < w.heap.size + 3 → ((w4.setCell ⟨w.heap.size, 0, none⟩ (.slice A4 m.length c4)).alloc (.cells #[.int .i64 x'.h, .int .u32 x'.f.id, .bool x'.f.ext, .bool x'.f.rem, .int .i64 x'.f.dlc, .string x'.f.data, .int .i64 x'.s] 60)).frozen? ⟨a, 0 + j, none⟩ = (((w.alloc (.cells #[.slice A l.length c, .int .i64 seq, .int .i64 cap] 29)).alloc (.cells #[.slice none 0 0, .int .i64 0, .int .i64 0] 29)).alloc (.cells #[.int .i64 0, .int .u32 0, .bool false, .bool false, .int .i64 0, .string ⟨#[]⟩, .int .i64 0] 60)).frozen? ⟨a, 0 + j, none⟩ := fun a j ha => by
    rw [World.frozen?_alloc_past _ _ _ (by simp; omega), World.frozen?_setCell, hf4 a _ ha]
  have r0 : World.rangeAt ((w4.setCell ⟨w.heap.size, 0, none⟩ (.slice A4 m.length c4)).alloc (.cells #[.int .i64 x'.h, .int .u32 x'.f.id, .bool x'.f.ext, .bool x'.f.rem, .int .i64 x'.f.dlc, .string x'.f.data, .int .i64 x'.s] 60)) w.heap.size 0 [.slice A4 m.length c4, .int .i64 seq, .int .i64 cap] :=
    range_cons (by simp [go_sem, d1, zz4]) (range_cons (by simp [go_sem, d2, zz4]) (range_cons (by simp [go_sem, d3, zz4]) range_nil))
  have r1 : World.rangeAt ((w4.setCell ⟨w.heap.size, 0, none⟩ (.slice A4 m.length c4)).alloc (.cells #[.int .i64 x'.h, .int .u32 x'.f.id, .bool x'.f.ext, .bool x'.f.rem, .int .i64 x'.f.dlc, .string x'.f.data, .int .i64 x'.s] 60)) w4.heap.size 0 (bxc x') :=
    range_cons (by simp [go_sem]) (range_cons (by simp [go_sem]) (range_cons (by simp [go_sem]) (range_cons (by simp [go_sem]) (range_cons (by simp [go_sem]) (range_cons (by simp [go_sem]) (range_cons (by simp [go_sem]) range_nil))))))
  have t2 : World.there ((w4.setCell ⟨w.heap.size, 0, none⟩ (.slice A4 m.length c4)).alloc (.cells #[.int .i64 x'.h, .int .u32 x'.f.id, .bool x'.f.ext, .bool x'.f.rem, .int .i64 x'.f.dlc, .string x'.f.data, .int .i64 x'.s] 60)) (w.heap.size + 1) 0 3 :=
    there_of (cs := [.slice none 0 0, .int .i64 0, .int .i64 0]) (range_cons (by simp [go_sem, d4, zz4a]) (range_cons (by simp [go_sem, d5, zz4a]) (range_cons (by simp [go_sem, d6, zz4a]) range_nil))) (fun j => by rw [f1 _ _ (by omega)]; simp [go_sem])
  have t3 : World.there ((w4.setCell ⟨w.heap.size, 0, none⟩ (.slice A4 m.length c4)).alloc (.cells #[.int .i64 x'.h, .int .u32 x'.f.id, .bool x'.f.ext, .bool x'.f.rem, .int .i64 x'.f.dlc, .string x'.f.data, .int .i64 x'.s] 60)) (w.heap.size + 1 + 1) 0 7 :=
    there_of (cs := [.int .i64 0, .int .u32 0, .bool false, .bool false, .int .i64 0, .string ⟨#[]⟩, .int .i64 0]) (range_cons (by simp [go_sem, d7, zz4b]) (range_cons (by simp [go_sem, d8, zz4b]) (range_cons (by simp [go_sem, d9, zz4b]) (range_cons (by simp [go_sem, d10, zz4b]) (range_cons (by simp [go_sem, d11, zz4b]) (range_cons (by simp [go_sem, d12, zz4b]) (range_cons (by simp [go_sem, d13, zz4b]) range_nil))))))) (fun j => by rw [f1 _ _ (by omega)]; simp [go_sem])
  have qW : Below w.heap.size w ((w4.setCell ⟨w.heap.size, 0, none⟩ (.slice A4 m.length c4)).alloc (.cells #[.int .i64 x'.h, .int .u32 x'.f.id, .bool x'.f.ext, .bool x'.f.rem, .int .i64 x'.f.dlc, .string x'.f.data, .int .i64 x'.s] 60)) := by
    repeat (first | ((with_reducible refine Below.setCell ?_ ?_ _); rotate_left 1; (first | (simp; omega) | simp | omega)) | ((with_reducible refine Below.alloc ?_ ?_ _); rotate_left 1; (first | (simp; omega) | simp | omega)))
    all_goals exact qw4
  have far : ∀ g j, w2.heap.size ≤ g → g < w4.heap.size → ((w4.setCell ⟨w.heap.size, 0, none⟩ (.slice A4 m.length c4)).alloc (.cells #[.int .i64 x'.h, .int .u32 x'.f.id, .bool x'.f.ext, .bool x'.f.rem, .int .i64 x'.f.dlc, .string x'.f.data, .int .i64 x'.s] 60)).cell? ⟨g, j, none⟩ = w4.cell? ⟨g, j, none⟩ := fun g j h1 h2 => by
    rw [World.cell?_alloc_past _ _ _ (by simpa using h2), World.cell?_setCell_other _ _ _ _ (by intro e; injection e with e; omega)]
  have ow6 : Own ((w4.setCell ⟨w.heap.size, 0, none⟩ (.slice A4 m.length c4)).alloc (.cells #[.int .i64 x'.h, .int .u32 x'.f.id, .bool x'.f.ext, .bool x'.f.rem, .int .i64 x'.f.dlc, .string x'.f.data, .int .i64 x'.s] 60)) w2.heap.size 60 7 A4 c4 (m.map bxc) := (own_setj FIN.out.1.own (by omega) 0 _).alloc _
  have zW : w4.heap.size + 1 = ((w4.setCell ⟨w.heap.size, 0, none⟩ (.slice A4 m.length c4)).alloc (.cells #[.int .i64 x'.h, .int .u32 x'.f.id, .bool x'.f.ext, .bool x'.f.rem, .int .i64 x'.f.dlc, .string x'.f.data, .int .i64 x'.s] 60)).heap.size := by simp
  clear d1 d2 d3 d4 d5 d6 d7 d8 d9 d10 d11 d12 d13 f1 hf4
  generalize (w4.setCell ⟨w.heap.size, 0, none⟩ (.slice A4 m.length c4)).alloc (.cells #[.int .i64 x'.h, .int .u32 x'.f.id, .bool x'.f.ext, .bool x'.f.rem, .int .i64 x'.f.dlc, .string x'.f.data, .int .i64 x'.s] 60) = W6 at *
  have hx1 : w.heap.size ≠ w.heap.size + 1 := by omega
  have hx2 : w.heap.size ≠ w.heap.size + 1 + 1 := by omega
  have hx3 : w4.heap.size ≠ w.heap.size + 1 := by omega
  have hx4 : w4.heap.size ≠ w.heap.size + 1 + 1 := by omega
  have hx5 : w.heap.size + 1 ≠ w.heap.size + 1 + 1 := by omega
  have r0 : W6.drew.rangeAt w.heap.size 0 [.slice A4 m.length c4, .int .i64 seq, .int .i64 cap] := r0
  have r1 : W6.drew.rangeAt w4.heap.size 0 (bxc x') := r1
  have t2 : W6.drew.there (w.heap.size + 1) 0 3 := t2
  have t3 : W6.drew.there (w.heap.size + 1 + 1) 0 7 := t3
  have far : ∀ g j, w2.heap.size ≤ g → g < w4.heap.size → W6.drew.cell? ⟨g, j, none⟩ = w4.cell? ⟨g, j, none⟩ := far
  have qW : Below w.heap.size w W6.drew := qW.drew
  have zW : w4.heap.size + 1 = W6.drew.heap.size := zW
  have ow6 : Own W6.drew w2.heap.size 60 7 A4 c4 (m.map bxc) := ow6.drew
  refine wp_region_S [0, 1] (tkR w.heap.size w4.heap.size [.slice A4 m.length c4, .int .i64 seq, .int .i64 cap] (bxc x')) (by kernel_rfl) ?_
  generalize W6.drew = W6 at *
  refine wpAnyS_take (i := 0) (v := .agg #[.slice A4 m.length c4, .int .i64 seq, .int .i64 cap]) rfl (by simp) (by kernel_rfl) (by kernel_rfl) (by kernel_rfl) (fun _ _ _ h => h) rfl (fun W h => exec_load W w.heap.size 0 29 _ _ h Tryd.underlying29 rfl (by kernel_rfl) _ _ (.tmp 1) (by rfl) (by rfl)) (r0) ?_
  refine wpAnyS_take (i := 1) (v := .agg #[.int .i64 x'.h, .int .u32 x'.f.id, .bool x'.f.ext, .bool x'.f.rem, .int .i64 x'.f.dlc, .string x'.f.data, .int .i64 x'.s]) rfl (by simp) (by kernel_rfl) (by kernel_rfl) (by kernel_rfl) (fun _ _ _ h => h) rfl (fun W h => exec_load W w4.heap.size 0 60 _ _ h Tryd.underlying60 rfl (by kernel_rfl) _ _ (.tmp 8) (by rfl) (by rfl)) (r1) ?_
  go_simp
  refine wpAnyS_one (i := 2) (by kernel_rfl) ?_
  refine wpOp_do rfl rfl ?_
  refine wp_store_as 29 (.tmp 2) (.tmp 27) rfl (w.heap.size + 1) 0 [.slice A4 m.length c4, .int .i64 seq, .int .i64 cap] (by rfl) (by rfl) t2 (by kernel_rfl) (by simp [Value.oneCell']) ?_
  intro W7 e7
  have r0' : W7.rangeAt w.heap.size 0 [.slice A4 m.length c4, .int .i64 seq, .int .i64 cap] := by rw [e7]; exact World.rangeAt_setCells_apart (w := W6) r0 _ _ _ (.inl hx1)
  have r1' : W7.rangeAt w4.heap.size 0 (bxc x') := by rw [e7]; exact World.rangeAt_setCells_apart (w := W6) r1 _ _ _ (.inl hx3)
  have s2 : W7.rangeAt (w.heap.size + 1) 0 [.slice A4 m.length c4, .int .i64 seq, .int .i64 cap] := by rw [e7]; exact World.rangeAt_setCells_same W6 _ _ _ t2
  have t3' : W7.there (w.heap.size + 1 + 1) 0 7 := by rw [e7]; exact World.there_setCells (w := W6) t3 _ _ _
  have ow7 : Own W7 w2.heap.size 60 7 A4 c4 (m.map bxc) := by rw [e7]; exact own_setCells (by omega) _ _ _ ow6
  have z7 : W7.heap.size = W6.heap.size := by rw [e7]; exact setCells_size _ _ _
  have far7 : ∀ g j, g ≠ w.heap.size + 1 → W7.cell? ⟨g, j, none⟩ = W6.cell? ⟨g, j, none⟩ := fun g j h => by rw [e7]; exact setCells_far h
  have g7 : Below w.heap.size W6 W7 := by rw [e7]; exact below_setCells _ _ _ (by omega)
  refine ⟨keeps_all (by decide) (fun i _ => tkR_all r0' r1' i), ?_⟩
  clear r0 r1 t2 t3 e7
  refine wpAnyS_one (i := 3) (by kernel_rfl) ?_
  refine wpOp_do rfl rfl ?_
  refine wp_store_as 60 (.tmp 3) (.tmp 28) rfl (w.heap.size + 1 + 1) 0 (bxc x') (by rfl) (by rfl) t3' (by kernel_rfl) (bxc_one _) ?_
  intro W8 e8
  have r0'' : W8.rangeAt w.heap.size 0 [.slice A4 m.length c4, .int .i64 seq, .int .i64 cap] := by rw [e8]; exact World.rangeAt_setCells_apart (w := W7) r0' _ _ _ (.inl hx2)
  have r1'' : W8.rangeAt w4.heap.size 0 (bxc x') := by rw [e8]; exact World.rangeAt_setCells_apart (w := W7) r1' _ _ _ (.inl hx4)
  have s2' : W8.rangeAt (w.heap.size + 1) 0 [.slice A4 m.length c4, .int .i64 seq, .int .i64 cap] := by rw [e8]; exact World.rangeAt_setCells_apart (w := W7) s2 _ _ _ (.inl hx5)
  have s3 : W8.rangeAt (w.heap.size + 1 + 1) 0 (bxc x') := by rw [e8]; exact World.rangeAt_setCells_same W7 _ _ _ t3'
  have ow8 : Own W8 w2.heap.size 60 7 A4 c4 (m.map bxc) := by rw [e8]; exact own_setCells (by omega) _ _ _ ow7
  have z8 : W8.heap.size = W7.heap.size := by rw [e8]; exact setCells_size _ _ _
  have far8 : ∀ g j, g ≠ w.heap.size + 1 + 1 → W8.cell? ⟨g, j, none⟩ = W7.cell? ⟨g, j, none⟩ := fun g j h => by rw [e8]; exact setCells_far h
  have g8 : Below w.heap.size W7 W8 := by rw [e8]; exact below_setCells _ _ _ (by omega)
  refine ⟨keeps_all (by decide) (fun i _ => tkR_all r0'' r1'' i), ?_⟩
  have RD8 := hide (ow8.mono (show w.heap.size ≤ w2.heap.size by omega))
  have QW := hide ((qW.trans g7).trans g8)
  clear r0' r1' s2 t3' far7 far8 far e8 r0'' r1'' g7 g8 qW ow6 ow7 ow8
  refine wpAnyS_one (i := 4) (by kernel_rfl) ?_
  refine wpOp_do rfl rfl ?_
  go_simp
  refine ⟨keeps_last (by kernel_rfl) (by kernel_rfl), ?_⟩
  refine wpAnyS_done (by kernel_rfl) ?_ _
  obtain ⟨y0, y1, y2⟩ : W8.cell? ⟨w.heap.size + 1, 0, none⟩ = some (.slice A4 m.length c4) ∧ W8.cell? ⟨w.heap.size + 1, 1, none⟩ = some (.int .i64 seq) ∧ W8.cell? ⟨w.heap.size + 1, 2, none⟩ = some (.int .i64 cap) := ⟨s2' 0 _ rfl, s2' 1 _ rfl, s2' 2 _ rfl⟩
  obtain ⟨u0, u1, u2, u3, u4, u5, u6⟩ := Bx_cells s3
  clear s2' s3
  go_wp2
  refine bodyPost_ret (v := .tuple #[.agg #[.slice A4 m.length c4, .int .i64 seq, .int .i64 cap], .agg #[.int .i64 x'.h, .int .u32 x'.f.id, .bool x'.f.ext, .bool x'.f.rem, .int .i64 x'.f.dlc, .string x'.f.data, .int .i64 x'.s], .int .i64 0]) (by simp [results, Tryd.results19, go_sem, y0, y1, y2, u0, u1, u2, u3, u4, u5, u6]) rfl ⟨A4, c4, m, by rw [← HX.out], RD8.out, by rw [← HX.out]; exact FIN.out.2.1, FIN.out.2.2, QW.out⟩
end Go.Proofs.YtkfedgjepiljiaaDoor
