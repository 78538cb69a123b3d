/- Walks of campanilelaw15.few, alive. -/
import Derived.Test.YtplpnnjjjfcibaaPdG
import Derived.Test.YtplpnnjjjfcibaaPdF
namespace Go.Proofs.Ytplpnnjjjfcibaa
open Go.ChangeShapes Go.WideShapes Go.ChangeAt Go.RowKit
open SG PD

/-- The first twenty. -/
def fewL (L : Ly) : Ly := ⟨L.size, L.sgs.take 20, L.nws.take 20⟩

set_option maxRecDepth 100000 in
set_option maxHeartbeats 4000000 in
theorem few_any (L : Ly) (A : Option Addr) (c : Nat) (B : Option Addr) (d : Nat) (w : World) (hc : L.sgs.length ≤ c) (hd : L.nws.length ≤ d) :
    Calls Try.prog 10 #[.agg (lyV L A c B d)] w fun e w' => e = .returned (.agg (lyV (fewL L) A c B d)) ∧ Below w.heap.size w w' := by
  obtain ⟨k1, hk1⟩ : ∃ k, k = (L.sgs.take 20).length := ⟨_, rfl⟩
  obtain ⟨k2, hk2⟩ : ∃ k, k = (L.nws.take 20).length := ⟨_, rfl⟩
  unfold lyV fewL
  dsimp only
  rw [← hk1, ← hk2]
  rw [List.length_take] at hk1 hk2
  generalize L.sgs.length = n1 at *
  generalize L.nws.length = n2 at *
  generalize L.size = sz at *
  obtain ⟨m1, em1, hm1⟩ := run_min (P := Try.prog) (n1 : Int) 20
  obtain ⟨m2, em2, hm2⟩ := run_min (P := Try.prog) (n2 : Int) 20
  have ek1 : m1 = (k1 : Int) := by omega
  have ek2 : m2 = (k2 : Int) := by omega
  subst ek1 ek2
  have ht1 := run_to (P := Try.prog) 22 36 Try.underlying22 4 (fun W => by kernel_rfl) A n1 c (k1 : Int) k1 rfl (by omega)
  have ht2 := run_to (P := Try.prog) 23 3 Try.underlying23 1 (fun W => by kernel_rfl) B n2 d (k2 : Int) k2 rfl (by omega)
  clear hk1 hk2 em1 em2 hc hd
  obtain ⟨w1, hw1⟩ : ∃ w1, w1 = (w.alloc (.cells #[.int .i64 sz, .slice A n1 c, .slice B n2 d] 25)).alloc (.cells #[.int .i64 0, .slice none 0 0, .slice none 0 0] 25) := ⟨_, rfl⟩
  have z1 : w.heap.size + 2 = w1.heap.size := by rw [hw1]; simp
  have C0 : Hid (w1.heap[w.heap.size]? = some (.cells #[.int .i64 sz, .slice A n1 c, .slice B n2 d] 25 (0, 0))) := by
    rw [hw1]
    exact hide (heap_below (World.alloc_heap_new w _) ((Below.refl _ _).alloc (Nat.le_refl _) _))
  have C1 : Hid (w1.heap[w.heap.size + 1]? = some (.cells #[.int .i64 0, .slice none 0 0, .slice none 0 0] 25 (0, 0))) := by
    rw [hw1]
    have := World.alloc_heap_new (w.alloc (.cells #[.int .i64 sz, .slice A n1 c, .slice B n2 d] 25)) (.cells #[.int .i64 0, .slice none 0 0, .slice none 0 0] 25)
    simp only [World.size_alloc] at this
    exact hide this
  have Q1 : Hid (Below w.heap.size w w1) := by
    rw [hw1]
    exact hide (((Below.refl _ _).alloc (Nat.le_refl _) _).alloc (by simp) _)
  go_enter Try.func10, Try.ntmps10
  go_upto_region 1 with fail
  rw [← hw1]
  clear hw1
  refine wp_region_L [0, 1, 2, 3, 4, 5, 6, 7, 8, 9, 10, 11, 12, 13] [(1, fun W => W.cell? ⟨w.heap.size, 1, none⟩ = some (.slice A n1 c)), (3, fun W => W.cell? ⟨w.heap.size, 1, none⟩ = some (.slice A n1 c)), (8, fun W => W.cell? ⟨w.heap.size, 2, none⟩ = some (.slice B n2 d)), (10, fun W => W.cell? ⟨w.heap.size, 2, none⟩ = some (.slice B n2 d))] (by kernel_rfl) ?_
  replace C0 : Hid (w1.drew.heap[w.heap.size]? = some (.cells #[.int .i64 sz, .slice A n1 c, .slice B n2 d] 25 (0, 0))) := C0
  replace C1 : Hid (w1.drew.heap[w.heap.size + 1]? = some (.cells #[.int .i64 0, .slice none 0 0, .slice none 0 0] 25 (0, 0))) := C1
  replace Q1 : Hid (Below w.heap.size w w1.drew) := hide Q1.out.drew
  clear z1
  generalize w1.drew = wx at *
  obtain ⟨y0, y1, y2⟩ := three_cells C0.out
  have Y1 := hide y1
  have Y2 := hide y2
  clear y0 y1 y2
  refine wpAnyL_pure (i := 0) (v := .pointer (some ⟨w.heap.size, 1, none⟩)) rfl rfl (by kernel_rfl) (by kernel_rfl) (by kernel_rfl) (by kernel_rfl) (by kernel_rfl) (fun _ _ _ h => h) rfl (fun W => by go_simp) ?_
  go_simp
  refine wpAnyL_load (i := 1) (v := .slice A n1 c) rfl rfl (by kernel_rfl) (by kernel_rfl) (by kernel_rfl) (by kernel_rfl) (by kernel_rfl) (fun _ _ _ h => h) rfl (fun W h => by (have hc0 := h; clear h; go_simp)) (Y1.out) ?_
  go_simp
  refine wpAnyL_pure (i := 2) (v := .pointer (some ⟨w.heap.size, 1, none⟩)) rfl rfl (by kernel_rfl) (by kernel_rfl) (by kernel_rfl) (by kernel_rfl) (by kernel_rfl) (fun _ _ _ h => h) rfl (fun W => by go_simp) ?_
  go_simp
  refine wpAnyL_load (i := 3) (v := .slice A n1 c) rfl rfl (by kernel_rfl) (by kernel_rfl) (by kernel_rfl) (by kernel_rfl) (by kernel_rfl) (fun _ _ _ h => h) rfl (fun W h => by (have hc0 := h; clear h; go_simp)) (Y1.out) ?_
  go_simp
  refine wpAnyL_pure (i := 4) (v := .int .i64 n1) rfl rfl (by kernel_rfl) (by kernel_rfl) (by kernel_rfl) (by kernel_rfl) (by kernel_rfl) (fun _ _ _ h => h) rfl (fun W => by go_simp) ?_
  go_simp
  refine wpAnyL_pure (i := 5) (v := .int .i64 k1) rfl rfl (by kernel_rfl) (by kernel_rfl) (by kernel_rfl) (by kernel_rfl) (by kernel_rfl) (fun _ _ _ h => h) rfl (fun W => by go_simp) ?_
  go_simp
  refine wpAnyL_pure (i := 6) (v := .slice A k1 c) rfl rfl (by kernel_rfl) (by kernel_rfl) (by kernel_rfl) (by kernel_rfl) (by kernel_rfl) (fun _ _ _ h => h) rfl (fun W => by go_simp) ?_
  go_simp
  refine wpAnyL_pure (i := 7) (v := .pointer (some ⟨w.heap.size, 2, none⟩)) rfl rfl (by kernel_rfl) (by kernel_rfl) (by kernel_rfl) (by kernel_rfl) (by kernel_rfl) (fun _ _ _ h => h) rfl (fun W => by go_simp) ?_
  go_simp
  refine wpAnyL_load (i := 8) (v := .slice B n2 d) rfl rfl (by kernel_rfl) (by kernel_rfl) (by kernel_rfl) (by kernel_rfl) (by kernel_rfl) (fun _ _ _ h => h) rfl (fun W h => by (have hc0 := h; clear h; go_simp)) (Y2.out) ?_
  go_simp
  refine wpAnyL_pure (i := 9) (v := .pointer (some ⟨w.heap.size, 2, none⟩)) rfl rfl (by kernel_rfl) (by kernel_rfl) (by kernel_rfl) (by kernel_rfl) (by kernel_rfl) (fun _ _ _ h => h) rfl (fun W => by go_simp) ?_
  go_simp
  refine wpAnyL_load (i := 10) (v := .slice B n2 d) rfl rfl (by kernel_rfl) (by kernel_rfl) (by kernel_rfl) (by kernel_rfl) (by kernel_rfl) (fun _ _ _ h => h) rfl (fun W h => by (have hc0 := h; clear h; go_simp)) (Y2.out) ?_
  go_simp
  refine wpAnyL_pure (i := 11) (v := .int .i64 n2) rfl rfl (by kernel_rfl) (by kernel_rfl) (by kernel_rfl) (by kernel_rfl) (by kernel_rfl) (fun _ _ _ h => h) rfl (fun W => by go_simp) ?_
  go_simp
  refine wpAnyL_pure (i := 12) (v := .int .i64 k2) rfl rfl (by kernel_rfl) (by kernel_rfl) (by kernel_rfl) (by kernel_rfl) (by kernel_rfl) (fun _ _ _ h => h) rfl (fun W => by go_simp) ?_
  go_simp
  refine wpAnyL_pure (i := 13) (v := .slice B k2 d) rfl rfl (by kernel_rfl) (by kernel_rfl) (by kernel_rfl) (by kernel_rfl) (by kernel_rfl) (fun _ _ _ h => h) rfl (fun W => by go_simp) ?_
  go_simp
  clear hm1 hm2 ht1 ht2 Y1 Y2
  refine wpAnyL_one (i := 14) (by kernel_rfl) ?_
  refine wpOp_do rfl rfl ?_
  go_simp
  refine ⟨keepsL_all (by kernel_rfl) (by kernel_rfl), ?_⟩
  go_simp
  refine wpAnyL_one (i := 15) (by kernel_rfl) ?_
  refine wpOp_do rfl rfl ?_
  obtain ⟨y0, y1, y2⟩ := three_cells C0.out
  have f1 : wx.frozen? ⟨w.heap.size, 1, none⟩ = false := by have := C0.out; simp [World.frozen?, this]
  go_simp
  refine ⟨keepsL_all (by kernel_rfl) (by kernel_rfl), ?_⟩
  have C2 : Hid ((wx.setCell ⟨w.heap.size, 1, none⟩ (.slice A k1 c)).heap[w.heap.size]? = some (.cells #[.int .i64 sz, .slice A k1 c, .slice B n2 d] 25 (0, 0))) := by
    have := heap_setCell_same wx w.heap.size 1 _ _ (.slice A k1 c) C0.out
    exact hide (by simpa using this)
  have D2 : Hid ((wx.setCell ⟨w.heap.size, 1, none⟩ (.slice A k1 c)).heap[w.heap.size + 1]? = some (.cells #[.int .i64 0, .slice none 0 0, .slice none 0 0] 25 (0, 0))) := by
    have := C1.out
    rw [← heap_setCell_other wx ⟨w.heap.size, 1, none⟩ (w.heap.size + 1) (.slice A k1 c) (by simp)] at this
    exact hide this
  have Q2 := hide (Q1.out.setCell (p := ⟨w.heap.size, 1, none⟩) (Nat.le_refl _) (.slice A k1 c))
  clear C0 C1 Q1 y0 y1 y2 f1
  generalize wx.setCell ⟨w.heap.size, 1, none⟩ (.slice A k1 c) = wy at *
  go_simp
  refine wpAnyL_one (i := 16) (by kernel_rfl) ?_
  refine wpOp_do rfl rfl ?_
  go_simp
  refine ⟨keepsL_all (by kernel_rfl) (by kernel_rfl), ?_⟩
  go_simp
  refine wpAnyL_one (i := 17) (by kernel_rfl) ?_
  refine wpOp_do rfl rfl ?_
  obtain ⟨y0, y1, y2⟩ := three_cells C2.out
  have f1 : wy.frozen? ⟨w.heap.size, 2, none⟩ = false := by have := C2.out; simp [World.frozen?, this]
  go_simp
  refine ⟨keepsL_all (by kernel_rfl) (by kernel_rfl), ?_⟩
  have C3 : Hid ((wy.setCell ⟨w.heap.size, 2, none⟩ (.slice B k2 d)).heap[w.heap.size]? = some (.cells #[.int .i64 sz, .slice A k1 c, .slice B k2 d] 25 (0, 0))) := by
    have := heap_setCell_same wy w.heap.size 2 _ _ (.slice B k2 d) C2.out
    exact hide (by simpa using this)
  have D3 : Hid ((wy.setCell ⟨w.heap.size, 2, none⟩ (.slice B k2 d)).heap[w.heap.size + 1]? = some (.cells #[.int .i64 0, .slice none 0 0, .slice none 0 0] 25 (0, 0))) := by
    have := D2.out
    rw [← heap_setCell_other wy ⟨w.heap.size, 2, none⟩ (w.heap.size + 1) (.slice B k2 d) (by simp)] at this
    exact hide this
  have Q3 := hide (Q2.out.setCell (p := ⟨w.heap.size, 2, none⟩) (Nat.le_refl _) (.slice B k2 d))
  clear C2 D2 Q2 y0 y1 y2 f1
  generalize wy.setCell ⟨w.heap.size, 2, none⟩ (.slice B k2 d) = wz at *
  go_simp
  refine wpAnyL_done (by kernel_rfl) ?_ _
  obtain ⟨y0, y1, y2⟩ := three_cells C3.out
  have TH := hide (show wz.there (w.heap.size + 1) 0 3 from there_heap (cs := [.int .i64 0, .slice none 0 0, .slice none 0 0]) D3.out)
  go_wp2_with (refine wpList_store_hid (by rfl) 25 (.tmp 2) (.tmp 19) (by rfl) (w.heap.size + 1) 0 [.int .i64 sz, .slice A k1 c, .slice B k2 d] (by rfl) (by rfl) (by exact TH.out) (by kernel_rfl) (by simp [Value.oneCell']) ?_)
  intro w5 e5
  have D5 : w5.heap[w.heap.size + 1]? = some (.cells #[.int .i64 sz, .slice A k1 c, .slice B k2 d] 25 (0, 0)) := by
    rw [e5.out]
    exact whole_heap [.int .i64 sz, .slice A k1 c, .slice B k2 d] (xs := [_, _, _]) D3.out rfl
  have Q5 := hide (show Below w.heap.size w w5 by rw [e5.out]; exact Q3.out.trans (below_setCells (g := w.heap.size + 1) _ 0 _ (by omega)))
  obtain ⟨r0, r1, r2⟩ := three_cells D5
  clear e5 y0 y1 y2 C3 D3 Q3 D5
  go_wp2_with fail
  refine bodyPost_ret (v := .agg #[.int .i64 sz, .slice A k1 c, .slice B k2 d]) (by simp [results, Try.results10, go_sem, r0, r1, r2]) rfl ⟨rfl, Q5.out⟩
end Go.Proofs.Ytplpnnjjjfcibaa

/- The walk of campanilelaw15.alive. -/
namespace Go.Proofs.Ytplpnnjjjfcibaa
open Go.ChangeShapes Go.WideShapes Go.ChangeAt Go.RowKit
open SG PD

def aliveL : Ly := ⟨1, [⟨0, 4, false, false⟩], [7]⟩
theorem alive_right : rightB aliveL = true := by decide +kernel
theorem alive_pack : packF aliveL [5] [true] 0 = [133] := by decide +kernel
theorem alive_fit : fitAll aliveL [5] := by
  intro k hk
  have : k = 0 := by unfold aliveL at hk; simp at hk; exact hk
  subst this
  decide +kernel

set_option maxRecDepth 100000 in
set_option maxHeartbeats 4000000 in
theorem alive15_any (w : World) : Calls Try.prog 12 #[] w fun e w' => e = .returned (.bool true) ∧ Below w.heap.size w w' := by
  obtain ⟨w1, hw1⟩ : ∃ w1, w1 = w.alloc (.cells #[.int .i64 0, .int .i64 4, .bool false, .bool false] 36) := ⟨_, rfl⟩
  obtain ⟨w2, hw2⟩ : ∃ w2, w2 = w1.alloc (.cells #[.int .i64 7] 3) := ⟨_, rfl⟩
  obtain ⟨w3, hw3⟩ : ∃ w3, w3 = w2.alloc (.cells #[.int .i64 5] 2) := ⟨_, rfl⟩
  obtain ⟨w4, hw4⟩ : ∃ w4, w4 = w3.alloc (.cells #[.bool true] 4) := ⟨_, rfl⟩
  have step : ∀ (W : World) (o : Obj), Below W.heap.size W (W.alloc o) := fun W o => (Below.refl _ _).alloc (Nat.le_refl _) _
  have q1 : Below w.heap.size w w1 := by rw [hw1]; exact step _ _
  have q2 : Below w1.heap.size w1 w2 := by rw [hw2]; exact step _ _
  have q3 : Below w2.heap.size w2 w3 := by rw [hw3]; exact step _ _
  have q4 : Below w3.heap.size w3 w4 := by rw [hw4]; exact step _ _
  have a1 : w1.heap[w.heap.size]? = some (.cells #[.int .i64 0, .int .i64 4, .bool false, .bool false] 36 (0, 0)) := by rw [hw1]; exact World.alloc_heap_new w _
  have a2 : w2.heap[w1.heap.size]? = some (.cells #[.int .i64 7] 3 (0, 0)) := by rw [hw2]; exact World.alloc_heap_new w1 _
  have a3 : w3.heap[w2.heap.size]? = some (.cells #[.int .i64 5] 2 (0, 0)) := by rw [hw3]; exact World.alloc_heap_new w2 _
  have a4 : w4.heap[w3.heap.size]? = some (.cells #[.bool true] 4 (0, 0)) := by rw [hw4]; exact World.alloc_heap_new w3 _
  have z1 : w1.heap.size = w.heap.size + 1 := by rw [hw1]; simp
  have z2 : w2.heap.size = w.heap.size + 1 + 1 := by rw [hw2]; simp [z1]
  have z3 : w3.heap.size = w.heap.size + 1 + 1 + 1 := by rw [hw3]; simp [z2]
  have b1 := heap_below (heap_below (heap_below a1 q2) q3) q4
  have b2 := heap_below (heap_below a2 q3) q4
  have b3 := heap_below a3 q4
  have Q4 := hide (below_next (below_next (below_next q1 q1.size q2) (below_next q1 q1.size q2).size q3) (below_next (below_next q1 q1.size q2) (below_next q1 q1.size q2).size q3).size q4)
  have PK := pack_in aliveL (some ⟨w.heap.size, 0, none⟩) 1 (some ⟨w1.heap.size, 0, none⟩) 1 [5] [true] (some ⟨w2.heap.size, 0, none⟩) 1 (some ⟨w3.heap.size, 0, none⟩) 1 0 w4 (rd_row (cs := sgc ⟨0, 4, false, false⟩) b1) (rd_row (cs := [.int .i64 7]) b2) (by decide) (by decide) (by decide) (by decide)
    (rd_row (cs := [.int .i64 5]) b3) (rd_row (cs := [.bool true]) a4) (by intro v hv; rw [List.mem_singleton.1 hv]; omega) alive_right rfl rfl (by decide) (by decide)
  have PK2 : Calls Try.prog 11 #[.agg #[.int .i64 1, .slice (some ⟨w.heap.size, 0, none⟩) 1 1, .slice (some ⟨w.heap.size + 1, 0, none⟩) 1 1], .slice (some ⟨w.heap.size + 1 + 1, 0, none⟩) 1 1, .slice (some ⟨w.heap.size + 1 + 1 + 1, 0, none⟩) 1 1, .int .u8 0] w4 fun e w' => e = .returned (.tuple #[.string ⟨#[133]⟩, .int .i64 0]) ∧ Below w4.heap.size w4 w' := by
    rw [z1, z2, z3] at PK
    refine Calls.mono PK ?_
    rintro e w' ⟨⟨_, he⟩ | ⟨hn, _⟩, q⟩
    · refine ⟨?_, q⟩
      rw [he, alive_pack]
    · exact absurd alive_fit hn
  have PKH := hide PK2
  clear PK PK2 a1 a2 a3 a4 b1 b2 b3 q1 q2 q3 q4 step z1 z2 z3
  subst hw1 hw2 hw3
  go_enter Try.func12, Try.ntmps12
  go_wp2_with fail
  rw [← hw4]
  (with_reducible refine (PKH.out).mono ?_)
  rintro e1 w5 ⟨rfl, q5⟩
  have q := below_next Q4.out Q4.out.size q5
  clear hw4 q5
  go_wp2_with fail
  go_ret
  exact ⟨rfl, q⟩
end Go.Proofs.Ytplpnnjjjfcibaa
