/- What may stand between stays so; campanilelaw23.like, alive. -/
import Derived.Test.YtkfedgjepiljiaaDoorCnD
import Derived.Test.YtkfedgjepiljiaaDoorMgRes
import Derived.Test.YtkfedgjepiljiaaDoorMgBcD
import Derived.Test.YtkfedgjepiljiaaDoorCsQ
namespace Go.Proofs.YtkfedgjepiljiaaDoor
open Go.ChangeShapes Go.WideShapes Go.ChangeAt Go.RowKit
open FP (Fr)
open HP (kB at' Hp)

theorem right_empty {n : Int} (h1 : 1 ≤ n) (h8 : n ≤ 8) : rightBx [] 0 n = true := right_iff.2 ⟨h1, h8, by simp; omega, by omega, by omega, by simp, List.Pairwise.nil, fun i h0 hi => absurd hi (by simp)⟩
theorem newFi_okp {n : Int} (h1 : 1 ≤ n) (h8 : n ≤ 8) : (newFi n).Okp := ⟨Nat.le_refl _, by simp [newFi], right_empty h1 h8, ⟨Int.le_refl _, by show (-1 : Int) ≤ 1000000; decide⟩, ⟨Int.le_refl _, by show (0 : Int) ≤ 1099511627776; decide⟩, ⟨Int.le_refl _, by show (0 : Int) ≤ 1099511627776; decide⟩, fun _ => ⟨rfl, rfl⟩⟩
theorem Fi.Okp.go1 {x : Fi} (h : x.Okp) : x.go1.Okp := ⟨h.cl, h.id, h.rt, h.hs, h.st, h.lt, fun e => by cases e⟩
theorem Fi.Okp.done {x : Fi} (h : x.Okp) : x.done.Okp := ⟨h.cl, h.id, h.rt, ⟨Int.le_refl _, by show (-1 : Int) ≤ 1000000; decide⟩, ⟨by show 0 ≤ min (x.sent + 1) 1099511627776; have := h.st; omega, by show min (x.sent + 1) 1099511627776 ≤ 1099511627776; omega⟩, h.lt, fun e => ⟨rfl, (h.off e).2⟩⟩
theorem Fi.Okp.cap {x : Fi} (h : x.Okp) : 1 ≤ x.cap ∧ x.cap ≤ 8 ∧ (x.m.length : Int) ≤ x.cap ∧ 0 ≤ x.seq ∧ x.seq ≤ 1099511627776 := by
  obtain ⟨a, b, c, d, e, _⟩ := right_iff.1 h.rt
  exact ⟨a, b, c, d, e⟩
theorem Fi.Okp.fr {x : Fi} (h : x.Okp) : ∀ b ∈ x.m, FP.rightB b.f = true ∧ 0 ≤ b.h ∧ b.h ≤ 1000000 := fun b hb => by
  obtain ⟨_, _, _, _, _, a, _⟩ := right_iff.1 h.rt
  exact ⟨(a b hb).1, (a b hb).2.1, (a b hb).2.2.1⟩
theorem SendY.okp {x y : Fi} {hd : Int} {f : Fr} (h : x.Okp) (hon : x.on = true) (h0 : 0 ≤ hd) (h1 : hd ≤ 1000000) (hf : FP.rightB f = true) (hid : f.id < 4294967296) (hs : x.seq < 1099511627776) (hc : (x.m.length : Int) < x.cap) (s : SendY x hd f y) : y.Okp := by
  refine ⟨s.c, fun b hb => ?_, ?_, ?_, ?_, ?_, fun e => ?_⟩
  · rcases List.mem_append.1 (s.p.mem_iff.1 hb) with hb | hb
    · exact h.id b hb
    · rw [List.mem_singleton.1 hb]; exact hid
  · rw [s.seq, s.cap]; exact right_put h.rt h0 h1 hf hs hc s.p s.h
  · rw [s.has]; exact h.hs
  · rw [s.sent]; exact h.st
  · rw [s.lost]; exact h.lt
  · rw [s.on, hon] at e; cases e
theorem NextY.okp {x y : Fi} (h : x.Okp) (hon : x.on = true) (hm : 0 < x.m.length) (s : NextY x y) : y.Okp := by
  have hb := h.fr _ (at_mem hm)
  refine ⟨s.c, fun b hb => h.id b (s.p.mem_iff.1 (List.mem_append_left _ hb)), ?_, ?_, ?_, ?_, fun e => ?_⟩
  · rw [s.seq, s.cap]; exact right_take h.rt s.p s.h
  · rw [s.has]; omega
  · rw [s.sent]; exact h.st
  · rw [s.lost]; exact h.lt
  · rw [s.on, hon] at e; cases e
theorem NextY.len {x y : Fi} (s : NextY x y) : y.m.length + 1 = x.m.length := by
  have := s.p.length_eq
  rwa [List.length_append] at this
theorem SendY.len {x y : Fi} {hd : Int} {f : Fr} (s : SendY x hd f y) : y.m.length = x.m.length + 1 := by
  have := s.p.length_eq
  rwa [List.length_append] at this
set_option maxRecDepth 100000 in
theorem eq_cl (c : Cl) (W : World) : (binOp .eql 40 (.agg c.cs.toArray) (.agg c.cs.toArray)).run Tryd.prog W = .ok (.bool true) W := by
  unfold Cl.cs
  go_simp

set_option maxRecDepth 100000 in
set_option maxHeartbeats 16000000 in
theorem like23_any (x : Fi) (w : World) (hr : BxR w w.heap.size x.A x.m) (hl : x.m.length ≤ 100) (hg : ∀ b ∈ x.m, FP.rightB b.f = true) :
    Calls Tryd.prog 12 #[.agg x.cs.toArray, .agg x.cs.toArray] w fun e w' => e = .returned (.bool true) ∧ Below w.heap.size w w' := by
  obtain ⟨w0, hw0⟩ : ∃ w0, w0 = (w.alloc (.cells x.cs.toArray 31)).alloc (.cells x.cs.toArray 31) := ⟨_, rfl⟩
  have B := hide (heap_below (World.alloc_heap_new w (.cells x.cs.toArray 31)) ((Below.refl _ (w.alloc (.cells x.cs.toArray 31))).alloc (Nat.le_refl _) (.cells x.cs.toArray 31)))
  have D := hide (World.alloc_heap_new (w.alloc (.cells x.cs.toArray 31)) (.cells x.cs.toArray 31))
  have Q : Hid (Below w.heap.size w w0) := by rw [hw0]; exact hide (((Below.refl w.heap.size w).alloc (Nat.le_refl _) (.cells x.cs.toArray 31)).alloc (by simp; try omega) (.cells x.cs.toArray 31))
  rw [← hw0] at B D
  simp only [World.size_alloc] at D
  have SO := hide (fun (W : World) (q : Below w.heap.size w W) => show Calls Tryd.prog 25 #[.slice x.A x.m.length x.c] W fun e w' => ∃ A c, e = .returned (.slice A x.m.length c) ∧ Rd w' w'.heap.size A 7 ((sortB x.m).map bxc) ∧ Below W.heap.size W w' from by
    refine (sorted9_any x.m x.A x.c W (Rd.next hr q q.size) hl hg).mono ?_
    rintro e w' ⟨A, c, rfl, h1, _, q⟩
    exact ⟨A, c, by rw [sortB_len], h1, q⟩)
  have SM := hide (fun (A B : Option Addr) (c d : Nat) (W : World) (h1 : Rd W W.heap.size A 7 ((sortB x.m).map bxc)) (h2 : Rd W W.heap.size B 7 ((sortB x.m).map bxc)) => show Calls Tryd.prog 24 #[.slice A x.m.length c, .slice B x.m.length d] W fun e w' => e = .returned (.bool true) ∧ Below W.heap.size W w' from by
    have := same9 (sortB x.m) A c B d W h1 h2 (by rw [sortB_len]; omega)
    rwa [sortB_len] at this)
  generalize sortB x.m = sl at *
  clear hr hl hg
  go_enter Tryd.func12, Tryd.ntmps12
  go_upto_region 1 with fail
  change Code.wp _ _ _ _ ((w.alloc (.cells x.cs.toArray 31)).alloc (.cells x.cs.toArray 31))
  rw [← hw0]
  clear hw0
  refine wp_region_L [0, 1, 2, 4, 5, 6, 9, 10, 11, 12, 13, 14, 15, 16, 17, 18, 19, 20, 21, 22, 23, 24, 25, 26, 27, 28, 29, 30, 31, 32, 33, 34, 35, 36, 37, 38, 39, 40, 41, 42, 43, 44, 45, 46, 47, 48, 49, 50, 51, 52, 53, 54] [(2, fun W => W.heap[w.heap.size]? = some (.cells x.cs.toArray 31 (0, 0))), (6, fun W => W.heap[w.heap.size + 1]? = some (.cells x.cs.toArray 31 (0, 0))), (12, fun W => W.heap[w.heap.size]? = some (.cells x.cs.toArray 31 (0, 0))), (15, fun W => W.heap[w.heap.size + 1]? = some (.cells x.cs.toArray 31 (0, 0))), (21, fun W => W.heap[w.heap.size]? = some (.cells x.cs.toArray 31 (0, 0))), (24, fun W => W.heap[w.heap.size + 1]? = some (.cells x.cs.toArray 31 (0, 0))), (29, fun W => W.heap[w.heap.size]? = some (.cells x.cs.toArray 31 (0, 0))), (31, fun W => W.heap[w.heap.size + 1]? = some (.cells x.cs.toArray 31 (0, 0))), (36, fun W => W.heap[w.heap.size]? = some (.cells x.cs.toArray 31 (0, 0))), (38, fun W => W.heap[w.heap.size + 1]? = some (.cells x.cs.toArray 31 (0, 0))), (43, fun W => W.heap[w.heap.size]? = some (.cells x.cs.toArray 31 (0, 0))), (45, fun W => W.heap[w.heap.size + 1]? = some (.cells x.cs.toArray 31 (0, 0))), (50, fun W => W.heap[w.heap.size]? = some (.cells x.cs.toArray 31 (0, 0))), (52, fun W => W.heap[w.heap.size + 1]? = some (.cells x.cs.toArray 31 (0, 0)))] (by kernel_rfl) ?_
  replace B := hide (show w0.drew.heap[w.heap.size]? = some (.cells x.cs.toArray 31 (0, 0)) from B.out)
  replace D := hide (show w0.drew.heap[w.heap.size + 1]? = some (.cells x.cs.toArray 31 (0, 0)) from D.out)
  replace Q := hide (show Below w.heap.size w w0.drew from Q.out.drew)
  generalize w0.drew = w1' at *
  refine wpAnyL_pure (i := 0) (v := .pointer (some ⟨w.heap.size, 0, none⟩)) rfl rfl (by kernel_rfl) (by kernel_rfl) (by kernel_rfl) (by kernel_rfl) (by kernel_rfl) (fun _ _ _ h => h) rfl (fun W => by go_simp) ?_
  go_simp
  refine wpAnyL_pure (i := 1) (v := .pointer (some ⟨w.heap.size, 0, none⟩)) rfl rfl (by kernel_rfl) (by kernel_rfl) (by kernel_rfl) (by kernel_rfl) (by kernel_rfl) (fun _ _ _ h => h) rfl (fun W => by go_simp) ?_
  go_simp
  refine wpAnyL_load (i := 2) (v := .slice x.A x.m.length x.c) rfl rfl (by kernel_rfl) (by kernel_rfl) (by kernel_rfl) (by kernel_rfl) (by kernel_rfl) (fun _ _ _ h => h) rfl (fun W h => by have h0 : W.cell? ⟨w.heap.size, 0, none⟩ = some (.slice x.A x.m.length x.c) := (by simp [World.cell?, h, Fi.cs]); clear h; go_simp) (B.out) ?_
  go_simp
  refine wpAnyL_pure (i := 4) (v := .pointer (some ⟨w.heap.size + 1, 0, none⟩)) rfl rfl (by kernel_rfl) (by kernel_rfl) (by kernel_rfl) (by kernel_rfl) (by kernel_rfl) (fun _ _ _ h => h) rfl (fun W => by go_simp) ?_
  go_simp
  refine wpAnyL_pure (i := 5) (v := .pointer (some ⟨w.heap.size + 1, 0, none⟩)) rfl rfl (by kernel_rfl) (by kernel_rfl) (by kernel_rfl) (by kernel_rfl) (by kernel_rfl) (fun _ _ _ h => h) rfl (fun W => by go_simp) ?_
  go_simp
  refine wpAnyL_load (i := 6) (v := .slice x.A x.m.length x.c) rfl rfl (by kernel_rfl) (by kernel_rfl) (by kernel_rfl) (by kernel_rfl) (by kernel_rfl) (fun _ _ _ h => h) rfl (fun W h => by have h0 : W.cell? ⟨w.heap.size + 1, 0, none⟩ = some (.slice x.A x.m.length x.c) := (by simp [World.cell?, h, Fi.cs]); clear h; go_simp) (D.out) ?_
  go_simp
  have R1 := hide (SO.out w1' Q.out)
  refine wpAnyL_one (i := 3) (by kernel_rfl) ?_
  refine wpOp_do rfl rfl ?_
  go_simp
  (with_reducible refine (R1.out).mono ?_)
  rintro eR3 wR3 ⟨A3, c3, rfl, hR3, q⟩
  have R3 := hide hR3
  clear hR3 R1
  replace B := hide (heap_below B.out q)
  replace D := hide (heap_below D.out q)
  replace Q := hide (below_next Q.out Q.out.size q)
  clear q
  go_simp
  refine ⟨keepsL_mk (by kernel_rfl) (.cons B.out (.cons D.out (.cons B.out (.cons D.out (.cons B.out (.cons D.out (.cons B.out (.cons D.out (.cons B.out (.cons D.out (.cons B.out (.cons D.out (.cons B.out (.cons D.out (.nil))))))))))))))), ?_⟩
  go_simp
  have R1 := hide (SO.out wR3 Q.out)
  refine wpAnyL_one (i := 7) (by kernel_rfl) ?_
  refine wpOp_do rfl rfl ?_
  go_simp
  (with_reducible refine (R1.out).mono ?_)
  rintro eR4 wR4 ⟨A4, c4, rfl, hR4, q⟩
  have R4 := hide hR4
  clear hR4 R1
  replace B := hide (heap_below B.out q)
  replace D := hide (heap_below D.out q)
  replace R3 := hide (Rd.next R3.out q q.size)
  replace Q := hide (below_next Q.out Q.out.size q)
  clear q
  go_simp
  refine ⟨keepsL_mk (by kernel_rfl) (.cons B.out (.cons D.out (.cons B.out (.cons D.out (.cons B.out (.cons D.out (.cons B.out (.cons D.out (.cons B.out (.cons D.out (.cons B.out (.cons D.out (.cons B.out (.cons D.out (.nil))))))))))))))), ?_⟩
  go_simp
  have R1 := hide (SM.out A3 A4 c3 c4 wR4 R3.out R4.out)
  refine wpAnyL_one (i := 8) (by kernel_rfl) ?_
  refine wpOp_do rfl rfl ?_
  go_simp
  (with_reducible refine (R1.out).mono ?_)
  rintro ew2' w2' ⟨rfl, qw2'⟩
  replace B := hide (heap_below B.out qw2')
  replace D := hide (heap_below D.out qw2')
  replace R3 := hide (Rd.next R3.out qw2' qw2'.size)
  replace R4 := hide (Rd.next R4.out qw2' qw2'.size)
  replace Q := hide (below_next Q.out Q.out.size qw2')
  clear qw2'
  clear R1
  go_simp
  refine ⟨keepsL_mk (by kernel_rfl) (.cons B.out (.cons D.out (.cons B.out (.cons D.out (.cons B.out (.cons D.out (.cons B.out (.cons D.out (.cons B.out (.cons D.out (.cons B.out (.cons D.out (.cons B.out (.cons D.out (.nil))))))))))))))), ?_⟩
  go_simp
  refine wpAnyL_pure (i := 9) (v := .bool true) rfl rfl (by kernel_rfl) (by kernel_rfl) (by kernel_rfl) (by kernel_rfl) (by kernel_rfl) (fun _ _ _ h => h) rfl (fun W => by go_simp) ?_
  go_simp
  refine wpAnyL_pureG (i := 10) (v := .pointer (some ⟨w.heap.size, 0, none⟩)) rfl rfl (by kernel_rfl) (by kernel_rfl) (by kernel_rfl) (by kernel_rfl) (by kernel_rfl) (fun _ _ _ h => h) (by kernel_rfl) (fun W => by go_simp) ?_
  go_simp
  refine wpAnyL_pureG (i := 11) (v := .pointer (some ⟨w.heap.size, 1, none⟩)) rfl rfl (by kernel_rfl) (by kernel_rfl) (by kernel_rfl) (by kernel_rfl) (by kernel_rfl) (fun _ _ _ h => h) (by kernel_rfl) (fun W => by go_simp) ?_
  go_simp
  refine wpAnyL_loadG (i := 12) (v := .int .i64 x.seq) rfl rfl (by kernel_rfl) (by kernel_rfl) (by kernel_rfl) (by kernel_rfl) (by kernel_rfl) (fun _ _ _ h => h) (by kernel_rfl) (fun W h => by have h0 : W.cell? ⟨w.heap.size, 1, none⟩ = some (.int .i64 x.seq) := (by simp [World.cell?, h, Fi.cs]); clear h; go_simp) (B.out) ?_
  go_simp
  refine wpAnyL_pureG (i := 13) (v := .pointer (some ⟨w.heap.size + 1, 0, none⟩)) rfl rfl (by kernel_rfl) (by kernel_rfl) (by kernel_rfl) (by kernel_rfl) (by kernel_rfl) (fun _ _ _ h => h) (by kernel_rfl) (fun W => by go_simp) ?_
  go_simp
  refine wpAnyL_pureG (i := 14) (v := .pointer (some ⟨w.heap.size + 1, 1, none⟩)) rfl rfl (by kernel_rfl) (by kernel_rfl) (by kernel_rfl) (by kernel_rfl) (by kernel_rfl) (fun _ _ _ h => h) (by kernel_rfl) (fun W => by go_simp) ?_
  go_simp
  refine wpAnyL_loadG (i := 15) (v := .int .i64 x.seq) rfl rfl (by kernel_rfl) (by kernel_rfl) (by kernel_rfl) (by kernel_rfl) (by kernel_rfl) (fun _ _ _ h => h) (by kernel_rfl) (fun W h => by have h0 : W.cell? ⟨w.heap.size + 1, 1, none⟩ = some (.int .i64 x.seq) := (by simp [World.cell?, h, Fi.cs]); clear h; go_simp) (D.out) ?_
  go_simp
  refine wpAnyL_pureG (i := 16) (v := .bool true) rfl rfl (by kernel_rfl) (by kernel_rfl) (by kernel_rfl) (by kernel_rfl) (by kernel_rfl) (fun _ _ _ h => h) (by kernel_rfl) (fun W => by go_simp) ?_
  go_simp
  refine wpAnyL_pure (i := 17) (v := .bool true) rfl rfl (by kernel_rfl) (by kernel_rfl) (by kernel_rfl) (by kernel_rfl) (by kernel_rfl) (fun _ _ _ h => h) rfl (fun W => by go_simp) ?_
  go_simp
  refine wpAnyL_pure (i := 18) (v := .bool true) rfl rfl (by kernel_rfl) (by kernel_rfl) (by kernel_rfl) (by kernel_rfl) (by kernel_rfl) (fun _ _ _ h => h) rfl (fun W => by go_simp) ?_
  go_simp
  refine wpAnyL_pureG (i := 19) (v := .pointer (some ⟨w.heap.size, 0, none⟩)) rfl rfl (by kernel_rfl) (by kernel_rfl) (by kernel_rfl) (by kernel_rfl) (by kernel_rfl) (fun _ _ _ h => h) (by kernel_rfl) (fun W => by go_simp) ?_
  go_simp
  refine wpAnyL_pureG (i := 20) (v := .pointer (some ⟨w.heap.size, 2, none⟩)) rfl rfl (by kernel_rfl) (by kernel_rfl) (by kernel_rfl) (by kernel_rfl) (by kernel_rfl) (fun _ _ _ h => h) (by kernel_rfl) (fun W => by go_simp) ?_
  go_simp
  refine wpAnyL_loadG (i := 21) (v := .int .i64 x.cap) rfl rfl (by kernel_rfl) (by kernel_rfl) (by kernel_rfl) (by kernel_rfl) (by kernel_rfl) (fun _ _ _ h => h) (by kernel_rfl) (fun W h => by have h0 : W.cell? ⟨w.heap.size, 2, none⟩ = some (.int .i64 x.cap) := (by simp [World.cell?, h, Fi.cs]); clear h; go_simp) (B.out) ?_
  go_simp
  refine wpAnyL_pureG (i := 22) (v := .pointer (some ⟨w.heap.size + 1, 0, none⟩)) rfl rfl (by kernel_rfl) (by kernel_rfl) (by kernel_rfl) (by kernel_rfl) (by kernel_rfl) (fun _ _ _ h => h) (by kernel_rfl) (fun W => by go_simp) ?_
  go_simp
  refine wpAnyL_pureG (i := 23) (v := .pointer (some ⟨w.heap.size + 1, 2, none⟩)) rfl rfl (by kernel_rfl) (by kernel_rfl) (by kernel_rfl) (by kernel_rfl) (by kernel_rfl) (fun _ _ _ h => h) (by kernel_rfl) (fun W => by go_simp) ?_
  go_simp
  refine wpAnyL_loadG (i := 24) (v := .int .i64 x.cap) rfl rfl (by kernel_rfl) (by kernel_rfl) (by kernel_rfl) (by kernel_rfl) (by kernel_rfl) (fun _ _ _ h => h) (by kernel_rfl) (fun W h => by have h0 : W.cell? ⟨w.heap.size + 1, 2, none⟩ = some (.int .i64 x.cap) := (by simp [World.cell?, h, Fi.cs]); clear h; go_simp) (D.out) ?_
  go_simp
  refine wpAnyL_pureG (i := 25) (v := .bool true) rfl rfl (by kernel_rfl) (by kernel_rfl) (by kernel_rfl) (by kernel_rfl) (by kernel_rfl) (fun _ _ _ h => h) (by kernel_rfl) (fun W => by go_simp) ?_
  go_simp
  refine wpAnyL_pure (i := 26) (v := .bool true) rfl rfl (by kernel_rfl) (by kernel_rfl) (by kernel_rfl) (by kernel_rfl) (by kernel_rfl) (fun _ _ _ h => h) rfl (fun W => by go_simp) ?_
  go_simp
  refine wpAnyL_pure (i := 27) (v := .bool true) rfl rfl (by kernel_rfl) (by kernel_rfl) (by kernel_rfl) (by kernel_rfl) (by kernel_rfl) (fun _ _ _ h => h) rfl (fun W => by go_simp) ?_
  go_simp
  refine wpAnyL_pureG (i := 28) (v := .pointer (some ⟨w.heap.size, 3, none⟩)) rfl rfl (by kernel_rfl) (by kernel_rfl) (by kernel_rfl) (by kernel_rfl) (by kernel_rfl) (fun _ _ _ h => h) (by kernel_rfl) (fun W => by go_simp) ?_
  go_simp
  refine wpAnyL_loadG (i := 29) (v := .int .i64 x.has) rfl rfl (by kernel_rfl) (by kernel_rfl) (by kernel_rfl) (by kernel_rfl) (by kernel_rfl) (fun _ _ _ h => h) (by kernel_rfl) (fun W h => by have h0 : W.cell? ⟨w.heap.size, 3, none⟩ = some (.int .i64 x.has) := (by simp [World.cell?, h, Fi.cs]); clear h; go_simp) (B.out) ?_
  go_simp
  refine wpAnyL_pureG (i := 30) (v := .pointer (some ⟨w.heap.size + 1, 3, none⟩)) rfl rfl (by kernel_rfl) (by kernel_rfl) (by kernel_rfl) (by kernel_rfl) (by kernel_rfl) (fun _ _ _ h => h) (by kernel_rfl) (fun W => by go_simp) ?_
  go_simp
  refine wpAnyL_loadG (i := 31) (v := .int .i64 x.has) rfl rfl (by kernel_rfl) (by kernel_rfl) (by kernel_rfl) (by kernel_rfl) (by kernel_rfl) (fun _ _ _ h => h) (by kernel_rfl) (fun W h => by have h0 : W.cell? ⟨w.heap.size + 1, 3, none⟩ = some (.int .i64 x.has) := (by simp [World.cell?, h, Fi.cs]); clear h; go_simp) (D.out) ?_
  go_simp
  refine wpAnyL_pureG (i := 32) (v := .bool true) rfl rfl (by kernel_rfl) (by kernel_rfl) (by kernel_rfl) (by kernel_rfl) (by kernel_rfl) (fun _ _ _ h => h) (by kernel_rfl) (fun W => by go_simp) ?_
  go_simp
  refine wpAnyL_pure (i := 33) (v := .bool true) rfl rfl (by kernel_rfl) (by kernel_rfl) (by kernel_rfl) (by kernel_rfl) (by kernel_rfl) (fun _ _ _ h => h) rfl (fun W => by go_simp) ?_
  go_simp
  refine wpAnyL_pure (i := 34) (v := .bool true) rfl rfl (by kernel_rfl) (by kernel_rfl) (by kernel_rfl) (by kernel_rfl) (by kernel_rfl) (fun _ _ _ h => h) rfl (fun W => by go_simp) ?_
  go_simp
  refine wpAnyL_pureG (i := 35) (v := .pointer (some ⟨w.heap.size, 4, none⟩)) rfl rfl (by kernel_rfl) (by kernel_rfl) (by kernel_rfl) (by kernel_rfl) (by kernel_rfl) (fun _ _ _ h => h) (by kernel_rfl) (fun W => by go_simp) ?_
  go_simp
  refine wpAnyL_loadG (i := 36) (v := .bool x.on) rfl rfl (by kernel_rfl) (by kernel_rfl) (by kernel_rfl) (by kernel_rfl) (by kernel_rfl) (fun _ _ _ h => h) (by kernel_rfl) (fun W h => by have h0 : W.cell? ⟨w.heap.size, 4, none⟩ = some (.bool x.on) := (by simp [World.cell?, h, Fi.cs]); clear h; go_simp) (B.out) ?_
  go_simp
  refine wpAnyL_pureG (i := 37) (v := .pointer (some ⟨w.heap.size + 1, 4, none⟩)) rfl rfl (by kernel_rfl) (by kernel_rfl) (by kernel_rfl) (by kernel_rfl) (by kernel_rfl) (fun _ _ _ h => h) (by kernel_rfl) (fun W => by go_simp) ?_
  go_simp
  refine wpAnyL_loadG (i := 38) (v := .bool x.on) rfl rfl (by kernel_rfl) (by kernel_rfl) (by kernel_rfl) (by kernel_rfl) (by kernel_rfl) (fun _ _ _ h => h) (by kernel_rfl) (fun W h => by have h0 : W.cell? ⟨w.heap.size + 1, 4, none⟩ = some (.bool x.on) := (by simp [World.cell?, h, Fi.cs]); clear h; go_simp) (D.out) ?_
  go_simp
  refine wpAnyL_pureG (i := 39) (v := .bool true) rfl rfl (by kernel_rfl) (by kernel_rfl) (by kernel_rfl) (by kernel_rfl) (by kernel_rfl) (fun _ _ _ h => h) (by kernel_rfl) (fun W => by go_simp) ?_
  go_simp
  refine wpAnyL_pure (i := 40) (v := .bool true) rfl rfl (by kernel_rfl) (by kernel_rfl) (by kernel_rfl) (by kernel_rfl) (by kernel_rfl) (fun _ _ _ h => h) rfl (fun W => by go_simp) ?_
  go_simp
  refine wpAnyL_pure (i := 41) (v := .bool true) rfl rfl (by kernel_rfl) (by kernel_rfl) (by kernel_rfl) (by kernel_rfl) (by kernel_rfl) (fun _ _ _ h => h) rfl (fun W => by go_simp) ?_
  go_simp
  refine wpAnyL_pureG (i := 42) (v := .pointer (some ⟨w.heap.size, 5, none⟩)) rfl rfl (by kernel_rfl) (by kernel_rfl) (by kernel_rfl) (by kernel_rfl) (by kernel_rfl) (fun _ _ _ h => h) (by kernel_rfl) (fun W => by go_simp) ?_
  go_simp
  refine wpAnyL_loadG (i := 43) (v := .int .i64 x.sent) rfl rfl (by kernel_rfl) (by kernel_rfl) (by kernel_rfl) (by kernel_rfl) (by kernel_rfl) (fun _ _ _ h => h) (by kernel_rfl) (fun W h => by have h0 : W.cell? ⟨w.heap.size, 5, none⟩ = some (.int .i64 x.sent) := (by simp [World.cell?, h, Fi.cs]); clear h; go_simp) (B.out) ?_
  go_simp
  refine wpAnyL_pureG (i := 44) (v := .pointer (some ⟨w.heap.size + 1, 5, none⟩)) rfl rfl (by kernel_rfl) (by kernel_rfl) (by kernel_rfl) (by kernel_rfl) (by kernel_rfl) (fun _ _ _ h => h) (by kernel_rfl) (fun W => by go_simp) ?_
  go_simp
  refine wpAnyL_loadG (i := 45) (v := .int .i64 x.sent) rfl rfl (by kernel_rfl) (by kernel_rfl) (by kernel_rfl) (by kernel_rfl) (by kernel_rfl) (fun _ _ _ h => h) (by kernel_rfl) (fun W h => by have h0 : W.cell? ⟨w.heap.size + 1, 5, none⟩ = some (.int .i64 x.sent) := (by simp [World.cell?, h, Fi.cs]); clear h; go_simp) (D.out) ?_
  go_simp
  refine wpAnyL_pureG (i := 46) (v := .bool true) rfl rfl (by kernel_rfl) (by kernel_rfl) (by kernel_rfl) (by kernel_rfl) (by kernel_rfl) (fun _ _ _ h => h) (by kernel_rfl) (fun W => by go_simp) ?_
  go_simp
  refine wpAnyL_pure (i := 47) (v := .bool true) rfl rfl (by kernel_rfl) (by kernel_rfl) (by kernel_rfl) (by kernel_rfl) (by kernel_rfl) (fun _ _ _ h => h) rfl (fun W => by go_simp) ?_
  go_simp
  refine wpAnyL_pure (i := 48) (v := .bool true) rfl rfl (by kernel_rfl) (by kernel_rfl) (by kernel_rfl) (by kernel_rfl) (by kernel_rfl) (fun _ _ _ h => h) rfl (fun W => by go_simp) ?_
  go_simp
  refine wpAnyL_pureG (i := 49) (v := .pointer (some ⟨w.heap.size, 6, none⟩)) rfl rfl (by kernel_rfl) (by kernel_rfl) (by kernel_rfl) (by kernel_rfl) (by kernel_rfl) (fun _ _ _ h => h) (by kernel_rfl) (fun W => by go_simp) ?_
  go_simp
  refine wpAnyL_loadG (i := 50) (v := .int .i64 x.lost) rfl rfl (by kernel_rfl) (by kernel_rfl) (by kernel_rfl) (by kernel_rfl) (by kernel_rfl) (fun _ _ _ h => h) (by kernel_rfl) (fun W h => by have h0 : W.cell? ⟨w.heap.size, 6, none⟩ = some (.int .i64 x.lost) := (by simp [World.cell?, h, Fi.cs]); clear h; go_simp) (B.out) ?_
  go_simp
  refine wpAnyL_pureG (i := 51) (v := .pointer (some ⟨w.heap.size + 1, 6, none⟩)) rfl rfl (by kernel_rfl) (by kernel_rfl) (by kernel_rfl) (by kernel_rfl) (by kernel_rfl) (fun _ _ _ h => h) (by kernel_rfl) (fun W => by go_simp) ?_
  go_simp
  refine wpAnyL_loadG (i := 52) (v := .int .i64 x.lost) rfl rfl (by kernel_rfl) (by kernel_rfl) (by kernel_rfl) (by kernel_rfl) (by kernel_rfl) (fun _ _ _ h => h) (by kernel_rfl) (fun W h => by have h0 : W.cell? ⟨w.heap.size + 1, 6, none⟩ = some (.int .i64 x.lost) := (by simp [World.cell?, h, Fi.cs]); clear h; go_simp) (D.out) ?_
  go_simp
  refine wpAnyL_pureG (i := 53) (v := .bool true) rfl rfl (by kernel_rfl) (by kernel_rfl) (by kernel_rfl) (by kernel_rfl) (by kernel_rfl) (fun _ _ _ h => h) (by kernel_rfl) (fun W => by go_simp) ?_
  go_simp
  refine wpAnyL_pure (i := 54) (v := .bool true) rfl rfl (by kernel_rfl) (by kernel_rfl) (by kernel_rfl) (by kernel_rfl) (by kernel_rfl) (fun _ _ _ h => h) rfl (fun W => by go_simp) ?_
  go_simp
  refine wpAnyL_one (i := 55) (by kernel_rfl) ?_
  refine wpOp_do rfl rfl ?_
  go_simp
  refine ⟨keepsL_all (by kernel_rfl) (by kernel_rfl), ?_⟩
  go_simp
  refine wpAnyL_done (by kernel_rfl) ?_ _
  go_wp2_with fail
  go_ret
  exact ⟨rfl, Q.out⟩

def fr5c : Fr := ⟨5, false, false, 0, ⟨#[]⟩⟩
set_option maxRecDepth 100000 in
set_option maxHeartbeats 16000000 in
theorem alive23_any (w : World) : Calls Tryd.prog 6 #[] w fun e w' => e = .returned (.bool true) ∧ Below w.heap.size w w' := by
  have h0 := newFi_okp (n := 2) (by decide) (by decide)
  have NW := hide (fun W => cnNew_ok 2 (by decide) (by decide) W)
  have GO := hide (fun W => cnGo_on (newFi 2) W (h0.at_ Rd.nil))
  have SE := hide (fun W => show Calls Tryd.prog 11 #[.agg (newFi 2).go1.cs.toArray, .int .i64 7, .agg #[.int .u32 5, .bool false, .bool false, .int .i64 0, .string ⟨#[]⟩]] W fun e w' => ∃ y, e = .returned (.tuple #[.agg y.cs.toArray, .int .i64 0]) ∧ Rd w' w'.heap.size y.A 7 (y.m.map bxc) ∧ Fresh W.heap.size y.A ∧ Hid (SendY (newFi 2).go1 7 fr5c y) ∧ Below W.heap.size W w' from
    cnSend_ok (newFi 2).go1 7 fr5c W (h0.go1.at_ Rd.nil) rfl (by decide) (by decide) rfl (by decide) (by decide) (by decide))
  have NC := hide (fun W => ctlNew_any W)
  have NX := hide (fun (y : Fi) (W : World) (hr : Rd W W.heap.size y.A 7 (y.m.map bxc)) (hy : SendY (newFi 2).go1 7 fr5c y) => show Calls Tryd.prog 8 #[.agg y.cs.toArray, .agg zCl.cs.toArray] W fun e w' => ∃ z : Fi, e = .returned (.tuple #[.agg z.cs.toArray, .agg (zCl.give fr5c).cs.toArray, .int .i64 0]) ∧ Rd w' w'.heap.size z.A 7 (z.m.map bxc) ∧ Fresh W.heap.size z.A ∧ Hid (z.has = 7) ∧ Below W.heap.size W w' from by
    have hl := hy.len
    have hm : y.m = [⟨7, fr5c, 0⟩] := List.perm_singleton.1 hy.p
    have ha : at' y.m 0 = ⟨7, fr5c, 0⟩ := by rw [hm]; rfl
    have h1 := cnNext_take y zCl W ((hy.okp h0.go1 rfl (by decide) (by decide) rfl (by decide) (by decide) (by decide)).at_ hr) zCl_ok (by rw [hy.on]; rfl) rfl (by rw [hy.has]; rfl) (by rw [hl]; exact Nat.succ_pos _)
    rw [ha] at h1
    refine h1.mono ?_
    rintro e w' ⟨z, rfl, i1, i2, i3, q⟩
    exact ⟨z, rfl, i1, i2, by show z.has = 7; rw [i3.out.has, ha], q⟩)
  clear h0
  have Q := hide (Below.refl w.heap.size w)
  go_enter Tryd.func6, Tryd.ntmps6
  go_wp2_with fail
  (with_reducible refine (NW.out _).mono ?_)
  rintro ew21' w21' ⟨rfl, qw21'⟩
  replace Q := hide (below_next Q.out Q.out.size qw21')
  clear qw21'
  clear NW
  have B := World.alloc_heap_new w21' (.cells zFi.cs.toArray 31)
  have zQb0 : w.heap.size ≤ w21'.heap.size := Q.out.size
  obtain ⟨w23', hw23'⟩ : ∃ wx, wx = w21'.alloc (.cells zFi.cs.toArray 31) := ⟨_, rfl⟩
  have q22' := hide (show Below w21'.heap.size w21' w23' by rw [hw23']; exact (Below.refl _ _).alloc (Nat.le_refl _) _)
  rw [← hw23'] at B
  replace B := hide B
  have Tw24' := hide (show (w21'.alloc (.cells zFi.cs.toArray 31)).there w21'.heap.size 0 7 by rw [← hw23']; exact there_heap (cs := zFi.cs) B.out)
  go_wp2_with (refine wpList_store_hid (by rfl) 31 (.tmp 1) (.tmp 9) (by rfl) w21'.heap.size 0 ((newFi 2).cs) (by rfl) (by rfl) (by exact Tw24'.out) (by kernel_rfl) (by simp [Value.oneCell', Fi.cs, newFi, zFi, Fi.go1]) ?_)
  intro w24' ew24'
  replace ew24' : Hid (w24' = w23'.setCells w21'.heap.size 0 ((newFi 2).cs)) := by rw [hw23']; exact ew24'
  replace B := hide (show w24'.heap[w21'.heap.size]? = some (.cells ((newFi 2).cs).toArray 31 (0, 0)) by rw [ew24'.out]; exact whole_heap ((newFi 2).cs) (xs := zFi.cs) B.out rfl)
  replace q22' := hide (show Below w21'.heap.size w21' w24' by rw [ew24'.out]; exact q22'.out.trans (below_setCells _ _ _ (by omega)))
  clear ew24' Tw24' hw23'
  replace Q := hide (below_next Q.out Q.out.size q22'.out)
  clear q22'
  generalize w21'.heap.size = b0 at *
  go_wp2_with (refine wpList_load_row rfl 31 (.tmp 1) (by rfl) b0 (by rfl) 31 ((newFi 2).cs).toArray (0, 0) _ (by exact B.out) Tryd.underlying31 (by rfl) (by kernel_rfl) ?_)
  (with_reducible refine (GO.out _).mono ?_)
  rintro ew25' w25' ⟨rfl, qw25'⟩
  replace B := hide (heap_below B.out qw25')
  replace Q := hide (below_next Q.out Q.out.size qw25')
  clear qw25'
  clear GO
  have Tw26' := hide (show World.there _ b0 0 7 from there_heap (cs := (newFi 2).cs) B.out)
  go_wp2_with (refine wpList_store_hid (by rfl) 31 (.tmp 1) (.tmp 14) (by rfl) b0 0 ((newFi 2).go1.cs) (by rfl) (by rfl) (by exact Tw26'.out) (by kernel_rfl) (by simp [Value.oneCell', Fi.cs, newFi, zFi, Fi.go1]) ?_)
  intro w26' ew26'
  replace Q := hide (show Below w.heap.size w w26' by rw [ew26'.out]; exact Q.out.trans (below_setCells _ _ _ (by have := Q.out.size; omega)))
  replace B := hide (show w26'.heap[b0]? = some (.cells ((newFi 2).go1.cs).toArray 31 (0, 0)) by rw [ew26'.out]; exact whole_heap ((newFi 2).go1.cs) (xs := (newFi 2).cs) B.out rfl)
  clear ew26' Tw26'
  go_wp2_with (refine wpList_load_row rfl 31 (.tmp 1) (by rfl) b0 (by rfl) 31 ((newFi 2).go1.cs).toArray (0, 0) _ (by exact B.out) Tryd.underlying31 (by rfl) (by kernel_rfl) ?_)
  (with_reducible refine (SE.out _).mono ?_)
  rintro ew27' w27' ⟨y, rfl, RY, FRY, HY, qw27'⟩
  have O_RY_B := hide (show Off y.A (y.m.map bxc).length b0 from off_fresh FRY (heap_lt B.out))
  replace B := hide (heap_below B.out qw27')
  replace Q := hide (below_next Q.out Q.out.size qw27')
  clear qw27'
  replace RY := hide (show Rd w27' w27'.heap.size y.A 7 (y.m.map bxc) from RY)
  replace FRY := hide FRY
  clear SE
  have Tw28' := hide (show World.there _ b0 0 7 from there_heap (cs := (newFi 2).go1.cs) B.out)
  go_wp2_with (refine wpList_store_hid (by rfl) 31 (.tmp 1) (.tmp 20) (by rfl) b0 0 y.cs (by rfl) (by rfl) (by exact Tw28'.out) (by kernel_rfl) (by simp [Value.oneCell', Fi.cs]) ?_)
  intro w28' ew28'
  replace RY := hide (show Rd w28' w28'.heap.size y.A 7 (y.m.map bxc) by rw [ew28'.out]; exact off_set RY.out O_RY_B.out _ _)
  replace Q := hide (show Below w.heap.size w w28' by rw [ew28'.out]; exact Q.out.trans (below_setCells _ _ _ (by have := Q.out.size; omega)))
  replace B := hide (show w28'.heap[b0]? = some (.cells y.cs.toArray 31 (0, 0)) by rw [ew28'.out]; exact whole_heap y.cs (xs := (newFi 2).go1.cs) B.out rfl)
  clear ew28' Tw28'
  clear FRY
  go_upto_region 4 with fail
  refine wp_region_L [0, 3, 4, 5, 6] [(0, fun W => W.heap[b0]? = some (.cells y.cs.toArray 31 (0, 0)))] (by kernel_rfl) ?_
  replace B := hide (show w28'.drew.heap[b0]? = some (.cells y.cs.toArray 31 (0, 0)) from B.out)
  replace RY := hide (show Rd (w28'.drew) (w28'.drew).heap.size y.A 7 (y.m.map bxc) from RY.out)
  replace Q := hide (show Below w.heap.size w w28'.drew from Q.out.drew)
  generalize w28'.drew = w29' at *
  refine wpAnyL_load (i := 0) (v := .agg y.cs.toArray) rfl rfl (by kernel_rfl) (by kernel_rfl) (by kernel_rfl) (by kernel_rfl) (by kernel_rfl) (fun _ _ _ h => h) rfl (fun W h => exec_heap W b0 31 y.cs _ h Tryd.underlying31 rfl (by kernel_rfl) _ _ (.tmp 1) (by rfl) (by rfl)) (B.out) ?_
  go_simp
  refine wpAnyL_two (i := 1) (k := 7) (by kernel_rfl) ?_ ?_
  · refine wpOp_do rfl rfl ?_
    go_simp
    (with_reducible refine (NC.out _).mono ?_)
    rintro ew30' w30' ⟨rfl, qw30'⟩
    replace B := hide (heap_below B.out qw30')
    replace RY := hide (Rd.next RY.out qw30' qw30'.size)
    replace Q := hide (below_next Q.out Q.out.size qw30')
    clear qw30'
    go_simp
    refine ⟨keepsL_mk (by kernel_rfl) (.cons B.out .nil), ?_⟩
    go_simp
    refine wpAnyL_two (i := 2) (k := 7) (by kernel_rfl) ?_ ?_
    · refine wpOp_do rfl rfl ?_
      go_simp
      have R1 := hide (NX.out y w30' RY.out HY.out)
      (with_reducible refine (R1.out).mono ?_)
      rintro ew31' w31' ⟨z, rfl, RZ, FRZ, HZ, qw31'⟩
      have O_RZ_B := hide (show Off z.A (z.m.map bxc).length b0 from off_fresh FRZ (heap_lt B.out))
      replace B := hide (heap_below B.out qw31')
      replace RY := hide (Rd.next RY.out qw31' qw31'.size)
      replace Q := hide (below_next Q.out Q.out.size qw31')
      clear qw31'
      replace RZ := hide (show Rd w31' w31'.heap.size z.A 7 (z.m.map bxc) from RZ)
      replace FRZ := hide FRZ
      clear R1
      clear FRZ
      go_simp
      refine ⟨keepsL_mk (by kernel_rfl) (.cons B.out .nil), ?_⟩
      go_simp
      refine wpAnyL_pure (i := 3) (v := .tuple #[.agg z.cs.toArray, .agg (zCl.give fr5c).cs.toArray, .int .i64 0]) rfl rfl (by kernel_rfl) (by kernel_rfl) (by kernel_rfl) (by kernel_rfl) (by kernel_rfl) (fun _ _ _ h => h) rfl (fun W => by go_simp) ?_
      go_simp
      refine wpAnyL_pure (i := 4) (v := .agg z.cs.toArray) rfl rfl (by kernel_rfl) (by kernel_rfl) (by kernel_rfl) (by kernel_rfl) (by kernel_rfl) (fun _ _ _ h => h) rfl (fun W => by go_simp) ?_
      go_simp
      refine wpAnyL_pure (i := 5) (v := .agg (zCl.give fr5c).cs.toArray) rfl rfl (by kernel_rfl) (by kernel_rfl) (by kernel_rfl) (by kernel_rfl) (by kernel_rfl) (fun _ _ _ h => h) rfl (fun W => by go_simp) ?_
      go_simp
      refine wpAnyL_pure (i := 6) (v := .int .i64 0) rfl rfl (by kernel_rfl) (by kernel_rfl) (by kernel_rfl) (by kernel_rfl) (by kernel_rfl) (fun _ _ _ h => h) rfl (fun W => by go_simp) ?_
      go_simp
      refine wpAnyL_one (i := 7) (by kernel_rfl) ?_
      refine wpOp_do rfl rfl ?_
      go_simp
      have C := hide (World.alloc_heap_new w31' (.cells zCl.cs.toArray 40))
      have zBx5 : b0 < w31'.heap.size := heap_lt B.out
      have O_RY_C := hide (off_new (x := w31'.heap.size) RY.out (by omega))
      have O_RZ_C := hide (off_new (x := w31'.heap.size) RZ.out (by omega))
      have zQx5 : w.heap.size ≤ w31'.heap.size := Q.out.size
      have q33' : Below w31'.heap.size w31' (w31'.alloc (.cells zCl.cs.toArray 40)) := (Below.refl _ _).alloc (Nat.le_refl _) _
      replace B := hide (heap_below B.out q33')
      replace RY := hide (Rd.next RY.out q33' q33'.size)
      replace RZ := hide (Rd.next RZ.out q33' q33'.size)
      replace Q := hide (below_next Q.out Q.out.size q33')
      clear q33'
      refine ⟨keepsL_mk (by kernel_rfl) (.cons B.out .nil), ?_⟩
      change wpAnyL _ _ _ _ _ _ _ _ _ (w31'.alloc (.cells zCl.cs.toArray 40))
      generalize w31'.alloc (.cells zCl.cs.toArray 40) = w32' at *
      generalize w31'.heap.size = x5 at *
      go_simp
      refine wpAnyL_one (i := 8) (by kernel_rfl) ?_
      refine wpOp_do rfl rfl ?_
      have Tw34' := hide (show World.there _ b0 0 7 from there_heap (cs := y.cs) B.out)
      refine wp_store_as 31 (.tmp 1) (.tmp 26) rfl b0 0 z.cs (by rfl) (by rfl) (by exact Tw34'.out) (by kernel_rfl) (by simp [Value.oneCell', Fi.cs]) ?_
      intro w34' ew34'
      replace C := hide (show w34'.heap[x5]? = some (.cells zCl.cs.toArray 40 (0, 0)) by rw [ew34']; exact other_heap (by omega) _ _ _ C.out)
      replace RY := hide (show Rd w34' w34'.heap.size y.A 7 (y.m.map bxc) by rw [ew34']; exact off_set RY.out O_RY_B.out _ _)
      replace RZ := hide (show Rd w34' w34'.heap.size z.A 7 (z.m.map bxc) by rw [ew34']; exact off_set RZ.out O_RZ_B.out _ _)
      replace Q := hide (show Below w.heap.size w w34' by rw [ew34']; exact Q.out.trans (below_setCells _ _ _ (by have := Q.out.size; omega)))
      replace B := hide (show w34'.heap[b0]? = some (.cells z.cs.toArray 31 (0, 0)) by rw [ew34']; exact whole_heap z.cs (xs := y.cs) B.out rfl)
      clear ew34' Tw34'
      refine ⟨keepsL_all (by kernel_rfl) (by kernel_rfl), ?_⟩
      go_simp
      refine wpAnyL_one (i := 9) (by kernel_rfl) ?_
      refine wpOp_do rfl rfl ?_
      have Tw35' := hide (show World.there _ x5 0 23 from there_heap (cs := zCl.cs) C.out)
      refine wp_store_as 40 (.tmp 5) (.tmp 27) rfl x5 0 ((zCl.give fr5c).cs) (by rfl) (by rfl) (by exact Tw35'.out) (by kernel_rfl) (by simp [Value.oneCell', Cl.cs]) ?_
      intro w35' ew35'
      replace B := hide (show w35'.heap[b0]? = some (.cells z.cs.toArray 31 (0, 0)) by rw [ew35']; exact other_heap (by omega) _ _ _ B.out)
      replace RY := hide (show Rd w35' w35'.heap.size y.A 7 (y.m.map bxc) by rw [ew35']; exact off_set RY.out O_RY_C.out _ _)
      replace RZ := hide (show Rd w35' w35'.heap.size z.A 7 (z.m.map bxc) by rw [ew35']; exact off_set RZ.out O_RZ_C.out _ _)
      replace Q := hide (show Below w.heap.size w w35' by rw [ew35']; exact Q.out.trans (below_setCells _ _ _ (by have := Q.out.size; omega)))
      replace C := hide (show w35'.heap[x5]? = some (.cells ((zCl.give fr5c).cs).toArray 40 (0, 0)) by rw [ew35']; exact whole_heap ((zCl.give fr5c).cs) (xs := zCl.cs) C.out rfl)
      clear ew35' Tw35'
      refine ⟨keepsL_all (by kernel_rfl) (by kernel_rfl), ?_⟩
      go_simp
      refine wpAnyL_one (i := 10) (by kernel_rfl) ?_
      refine wpOp_do rfl rfl ?_
      go_simp
      refine ⟨keepsL_all (by kernel_rfl) (by kernel_rfl), ?_⟩
      go_simp
      refine wpAnyL_done (by kernel_rfl) ?_ _
      obtain ⟨-, -, -, k3, -, -, -⟩ := fi_cells B.out
      rw [HZ.out] at k3
      obtain ⟨-, ⟨-, -, -, -, k8⟩, k9, -⟩ := cl_cells C.out
      replace k8 : w35'.cell? ⟨x5, 8, none⟩ = some (.bool true) := k8
      obtain ⟨k10, -⟩ := k9
      replace k10 : w35'.cell? ⟨x5, 9, none⟩ = some (.int .u32 5) := k10
      go_wp2_with fail
      go_ret
      exact ⟨rfl, Q.out⟩
    · refine wpOp_do rfl rfl ?_
      go_simp
      have C := hide (World.alloc_heap_new w30' (.cells zCl.cs.toArray 40))
      have zBx5 : b0 < w30'.heap.size := heap_lt B.out
      have O_RY_C := hide (off_new (x := w30'.heap.size) RY.out (by omega))
      have zQx5 : w.heap.size ≤ w30'.heap.size := Q.out.size
      have q37' : Below w30'.heap.size w30' (w30'.alloc (.cells zCl.cs.toArray 40)) := (Below.refl _ _).alloc (Nat.le_refl _) _
      replace B := hide (heap_below B.out q37')
      replace RY := hide (Rd.next RY.out q37' q37'.size)
      replace Q := hide (below_next Q.out Q.out.size q37')
      clear q37'
      refine ⟨keepsL_mk (by kernel_rfl) (.cons B.out .nil), ?_⟩
      change wpAnyL _ _ _ _ _ _ _ _ _ (w30'.alloc (.cells zCl.cs.toArray 40))
      generalize w30'.alloc (.cells zCl.cs.toArray 40) = w36' at *
      generalize w30'.heap.size = x5 at *
      go_simp
      refine wpAnyL_one (i := 2) (by kernel_rfl) ?_
      refine wpOp_do rfl rfl ?_
      go_simp
      have R1 := hide (NX.out y w36' RY.out HY.out)
      (with_reducible refine (R1.out).mono ?_)
      rintro ew38' w38' ⟨z, rfl, RZ, FRZ, HZ, qw38'⟩
      have O_RZ_B := hide (show Off z.A (z.m.map bxc).length b0 from off_fresh FRZ (heap_lt B.out))
      have O_RZ_C := hide (show Off z.A (z.m.map bxc).length x5 from off_fresh FRZ (heap_lt C.out))
      replace B := hide (heap_below B.out qw38')
      replace C := hide (heap_below C.out qw38')
      replace RY := hide (Rd.next RY.out qw38' qw38'.size)
      replace Q := hide (below_next Q.out Q.out.size qw38')
      clear qw38'
      replace RZ := hide (show Rd w38' w38'.heap.size z.A 7 (z.m.map bxc) from RZ)
      replace FRZ := hide FRZ
      clear R1
      clear FRZ
      go_simp
      refine ⟨keepsL_mk (by kernel_rfl) (.cons B.out .nil), ?_⟩
      go_simp
      refine wpAnyL_pure (i := 3) (v := .tuple #[.agg z.cs.toArray, .agg (zCl.give fr5c).cs.toArray, .int .i64 0]) rfl rfl (by kernel_rfl) (by kernel_rfl) (by kernel_rfl) (by kernel_rfl) (by kernel_rfl) (fun _ _ _ h => h) rfl (fun W => by go_simp) ?_
      go_simp
      refine wpAnyL_pure (i := 4) (v := .agg z.cs.toArray) rfl rfl (by kernel_rfl) (by kernel_rfl) (by kernel_rfl) (by kernel_rfl) (by kernel_rfl) (fun _ _ _ h => h) rfl (fun W => by go_simp) ?_
      go_simp
      refine wpAnyL_pure (i := 5) (v := .agg (zCl.give fr5c).cs.toArray) rfl rfl (by kernel_rfl) (by kernel_rfl) (by kernel_rfl) (by kernel_rfl) (by kernel_rfl) (fun _ _ _ h => h) rfl (fun W => by go_simp) ?_
      go_simp
      refine wpAnyL_pure (i := 6) (v := .int .i64 0) rfl rfl (by kernel_rfl) (by kernel_rfl) (by kernel_rfl) (by kernel_rfl) (by kernel_rfl) (fun _ _ _ h => h) rfl (fun W => by go_simp) ?_
      go_simp
      refine wpAnyL_one (i := 8) (by kernel_rfl) ?_
      refine wpOp_do rfl rfl ?_
      have Tw39' := hide (show World.there _ b0 0 7 from there_heap (cs := y.cs) B.out)
      refine wp_store_as 31 (.tmp 1) (.tmp 26) rfl b0 0 z.cs (by rfl) (by rfl) (by exact Tw39'.out) (by kernel_rfl) (by simp [Value.oneCell', Fi.cs]) ?_
      intro w39' ew39'
      replace C := hide (show w39'.heap[x5]? = some (.cells zCl.cs.toArray 40 (0, 0)) by rw [ew39']; exact other_heap (by omega) _ _ _ C.out)
      replace RY := hide (show Rd w39' w39'.heap.size y.A 7 (y.m.map bxc) by rw [ew39']; exact off_set RY.out O_RY_B.out _ _)
      replace RZ := hide (show Rd w39' w39'.heap.size z.A 7 (z.m.map bxc) by rw [ew39']; exact off_set RZ.out O_RZ_B.out _ _)
      replace Q := hide (show Below w.heap.size w w39' by rw [ew39']; exact Q.out.trans (below_setCells _ _ _ (by have := Q.out.size; omega)))
      replace B := hide (show w39'.heap[b0]? = some (.cells z.cs.toArray 31 (0, 0)) by rw [ew39']; exact whole_heap z.cs (xs := y.cs) B.out rfl)
      clear ew39' Tw39'
      refine ⟨keepsL_all (by kernel_rfl) (by kernel_rfl), ?_⟩
      go_simp
      refine wpAnyL_one (i := 9) (by kernel_rfl) ?_
      refine wpOp_do rfl rfl ?_
      have Tw40' := hide (show World.there _ x5 0 23 from there_heap (cs := zCl.cs) C.out)
      refine wp_store_as 40 (.tmp 5) (.tmp 27) rfl x5 0 ((zCl.give fr5c).cs) (by rfl) (by rfl) (by exact Tw40'.out) (by kernel_rfl) (by simp [Value.oneCell', Cl.cs]) ?_
      intro w40' ew40'
      replace B := hide (show w40'.heap[b0]? = some (.cells z.cs.toArray 31 (0, 0)) by rw [ew40']; exact other_heap (by omega) _ _ _ B.out)
      replace RY := hide (show Rd w40' w40'.heap.size y.A 7 (y.m.map bxc) by rw [ew40']; exact off_set RY.out O_RY_C.out _ _)
      replace RZ := hide (show Rd w40' w40'.heap.size z.A 7 (z.m.map bxc) by rw [ew40']; exact off_set RZ.out O_RZ_C.out _ _)
      replace Q := hide (show Below w.heap.size w w40' by rw [ew40']; exact Q.out.trans (below_setCells _ _ _ (by have := Q.out.size; omega)))
      replace C := hide (show w40'.heap[x5]? = some (.cells ((zCl.give fr5c).cs).toArray 40 (0, 0)) by rw [ew40']; exact whole_heap ((zCl.give fr5c).cs) (xs := zCl.cs) C.out rfl)
      clear ew40' Tw40'
      refine ⟨keepsL_all (by kernel_rfl) (by kernel_rfl), ?_⟩
      go_simp
      refine wpAnyL_one (i := 10) (by kernel_rfl) ?_
      refine wpOp_do rfl rfl ?_
      go_simp
      refine ⟨keepsL_all (by kernel_rfl) (by kernel_rfl), ?_⟩
      go_simp
      refine wpAnyL_done (by kernel_rfl) ?_ _
      obtain ⟨-, -, -, k3, -, -, -⟩ := fi_cells B.out
      rw [HZ.out] at k3
      obtain ⟨-, ⟨-, -, -, -, k8⟩, k9, -⟩ := cl_cells C.out
      replace k8 : w40'.cell? ⟨x5, 8, none⟩ = some (.bool true) := k8
      obtain ⟨k10, -⟩ := k9
      replace k10 : w40'.cell? ⟨x5, 9, none⟩ = some (.int .u32 5) := k10
      go_wp2_with fail
      go_ret
      exact ⟨rfl, Q.out⟩
  · refine wpOp_do rfl rfl ?_
    go_simp
    have C := hide (World.alloc_heap_new w29' (.cells zCl.cs.toArray 40))
    have zBx5 : b0 < w29'.heap.size := heap_lt B.out
    have O_RY_C := hide (off_new (x := w29'.heap.size) RY.out (by omega))
    have zQx5 : w.heap.size ≤ w29'.heap.size := Q.out.size
    have q42' : Below w29'.heap.size w29' (w29'.alloc (.cells zCl.cs.toArray 40)) := (Below.refl _ _).alloc (Nat.le_refl _) _
    replace B := hide (heap_below B.out q42')
    replace RY := hide (Rd.next RY.out q42' q42'.size)
    replace Q := hide (below_next Q.out Q.out.size q42')
    clear q42'
    refine ⟨keepsL_mk (by kernel_rfl) (.cons B.out .nil), ?_⟩
    change wpAnyL _ _ _ _ _ _ _ _ _ (w29'.alloc (.cells zCl.cs.toArray 40))
    generalize w29'.alloc (.cells zCl.cs.toArray 40) = w41' at *
    generalize w29'.heap.size = x5 at *
    go_simp
    refine wpAnyL_one (i := 1) (by kernel_rfl) ?_
    refine wpOp_do rfl rfl ?_
    go_simp
    (with_reducible refine (NC.out _).mono ?_)
    rintro ew43' w43' ⟨rfl, qw43'⟩
    replace B := hide (heap_below B.out qw43')
    replace C := hide (heap_below C.out qw43')
    replace RY := hide (Rd.next RY.out qw43' qw43'.size)
    replace Q := hide (below_next Q.out Q.out.size qw43')
    clear qw43'
    go_simp
    refine ⟨keepsL_mk (by kernel_rfl) (.cons B.out .nil), ?_⟩
    go_simp
    refine wpAnyL_one (i := 2) (by kernel_rfl) ?_
    refine wpOp_do rfl rfl ?_
    go_simp
    have R1 := hide (NX.out y w43' RY.out HY.out)
    (with_reducible refine (R1.out).mono ?_)
    rintro ew44' w44' ⟨z, rfl, RZ, FRZ, HZ, qw44'⟩
    have O_RZ_B := hide (show Off z.A (z.m.map bxc).length b0 from off_fresh FRZ (heap_lt B.out))
    have O_RZ_C := hide (show Off z.A (z.m.map bxc).length x5 from off_fresh FRZ (heap_lt C.out))
    replace B := hide (heap_below B.out qw44')
    replace C := hide (heap_below C.out qw44')
    replace RY := hide (Rd.next RY.out qw44' qw44'.size)
    replace Q := hide (below_next Q.out Q.out.size qw44')
    clear qw44'
    replace RZ := hide (show Rd w44' w44'.heap.size z.A 7 (z.m.map bxc) from RZ)
    replace FRZ := hide FRZ
    clear R1
    clear FRZ
    go_simp
    refine ⟨keepsL_mk (by kernel_rfl) (.cons B.out .nil), ?_⟩
    go_simp
    refine wpAnyL_pure (i := 3) (v := .tuple #[.agg z.cs.toArray, .agg (zCl.give fr5c).cs.toArray, .int .i64 0]) rfl rfl (by kernel_rfl) (by kernel_rfl) (by kernel_rfl) (by kernel_rfl) (by kernel_rfl) (fun _ _ _ h => h) rfl (fun W => by go_simp) ?_
    go_simp
    refine wpAnyL_pure (i := 4) (v := .agg z.cs.toArray) rfl rfl (by kernel_rfl) (by kernel_rfl) (by kernel_rfl) (by kernel_rfl) (by kernel_rfl) (fun _ _ _ h => h) rfl (fun W => by go_simp) ?_
    go_simp
    refine wpAnyL_pure (i := 5) (v := .agg (zCl.give fr5c).cs.toArray) rfl rfl (by kernel_rfl) (by kernel_rfl) (by kernel_rfl) (by kernel_rfl) (by kernel_rfl) (fun _ _ _ h => h) rfl (fun W => by go_simp) ?_
    go_simp
    refine wpAnyL_pure (i := 6) (v := .int .i64 0) rfl rfl (by kernel_rfl) (by kernel_rfl) (by kernel_rfl) (by kernel_rfl) (by kernel_rfl) (fun _ _ _ h => h) rfl (fun W => by go_simp) ?_
    go_simp
    refine wpAnyL_one (i := 8) (by kernel_rfl) ?_
    refine wpOp_do rfl rfl ?_
    have Tw45' := hide (show World.there _ b0 0 7 from there_heap (cs := y.cs) B.out)
    refine wp_store_as 31 (.tmp 1) (.tmp 26) rfl b0 0 z.cs (by rfl) (by rfl) (by exact Tw45'.out) (by kernel_rfl) (by simp [Value.oneCell', Fi.cs]) ?_
    intro w45' ew45'
    replace C := hide (show w45'.heap[x5]? = some (.cells zCl.cs.toArray 40 (0, 0)) by rw [ew45']; exact other_heap (by omega) _ _ _ C.out)
    replace RY := hide (show Rd w45' w45'.heap.size y.A 7 (y.m.map bxc) by rw [ew45']; exact off_set RY.out O_RY_B.out _ _)
    replace RZ := hide (show Rd w45' w45'.heap.size z.A 7 (z.m.map bxc) by rw [ew45']; exact off_set RZ.out O_RZ_B.out _ _)
    replace Q := hide (show Below w.heap.size w w45' by rw [ew45']; exact Q.out.trans (below_setCells _ _ _ (by have := Q.out.size; omega)))
    replace B := hide (show w45'.heap[b0]? = some (.cells z.cs.toArray 31 (0, 0)) by rw [ew45']; exact whole_heap z.cs (xs := y.cs) B.out rfl)
    clear ew45' Tw45'
    refine ⟨keepsL_all (by kernel_rfl) (by kernel_rfl), ?_⟩
    go_simp
    refine wpAnyL_one (i := 9) (by kernel_rfl) ?_
    refine wpOp_do rfl rfl ?_
    have Tw46' := hide (show World.there _ x5 0 23 from there_heap (cs := zCl.cs) C.out)
    refine wp_store_as 40 (.tmp 5) (.tmp 27) rfl x5 0 ((zCl.give fr5c).cs) (by rfl) (by rfl) (by exact Tw46'.out) (by kernel_rfl) (by simp [Value.oneCell', Cl.cs]) ?_
    intro w46' ew46'
    replace B := hide (show w46'.heap[b0]? = some (.cells z.cs.toArray 31 (0, 0)) by rw [ew46']; exact other_heap (by omega) _ _ _ B.out)
    replace RY := hide (show Rd w46' w46'.heap.size y.A 7 (y.m.map bxc) by rw [ew46']; exact off_set RY.out O_RY_C.out _ _)
    replace RZ := hide (show Rd w46' w46'.heap.size z.A 7 (z.m.map bxc) by rw [ew46']; exact off_set RZ.out O_RZ_C.out _ _)
    replace Q := hide (show Below w.heap.size w w46' by rw [ew46']; exact Q.out.trans (below_setCells _ _ _ (by have := Q.out.size; omega)))
    replace C := hide (show w46'.heap[x5]? = some (.cells ((zCl.give fr5c).cs).toArray 40 (0, 0)) by rw [ew46']; exact whole_heap ((zCl.give fr5c).cs) (xs := zCl.cs) C.out rfl)
    clear ew46' Tw46'
    refine ⟨keepsL_all (by kernel_rfl) (by kernel_rfl), ?_⟩
    go_simp
    refine wpAnyL_one (i := 10) (by kernel_rfl) ?_
    refine wpOp_do rfl rfl ?_
    go_simp
    refine ⟨keepsL_all (by kernel_rfl) (by kernel_rfl), ?_⟩
    go_simp
    refine wpAnyL_done (by kernel_rfl) ?_ _
    obtain ⟨-, -, -, k3, -, -, -⟩ := fi_cells B.out
    rw [HZ.out] at k3
    obtain ⟨-, ⟨-, -, -, -, k8⟩, k9, -⟩ := cl_cells C.out
    replace k8 : w46'.cell? ⟨x5, 8, none⟩ = some (.bool true) := k8
    obtain ⟨k10, -⟩ := k9
    replace k10 : w46'.cell? ⟨x5, 9, none⟩ = some (.int .u32 5) := k10
    go_wp2_with fail
    go_ret
    exact ⟨rfl, Q.out⟩
end Go.Proofs.YtkfedgjepiljiaaDoor
