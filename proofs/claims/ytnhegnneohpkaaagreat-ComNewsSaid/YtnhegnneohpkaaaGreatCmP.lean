/- ComNews: its walk. -/
import Derived.Test.YtnhegnneohpkaaaGreatMgCmO
namespace Go.Proofs.YtnhegnneohpkaaaGreat
open Go.ChangeShapes Go.WideShapes Go.ChangeAt Go.RowKit
open CM PD SG


set_option maxRecDepth 100000 in
set_option maxHeartbeats 64000000 in
theorem news_walk0 (x : Nat) (y0 : Int) (hx : x < 256) (w : World) :
    Calls Tryz.prog 3 #[.int .u8 x, .int .u8 y0, .bool false] w fun e w' => e = .returned (.bool true) ∧ Below w.heap.size w w' := by
  have n1 := nAll1_all false ⟨x, hx⟩
  have n2 := nAll2_all false ⟨x, hx⟩
  have n3 := nAll3_all false ⟨x, hx⟩
  unfold nAll1 at n1
  unfold nAll2 at n2
  unfold nAll3 at n3
  simp only [Bool.and_eq_true, decide_eq_true_eq, Bool.not_eq_true'] at n1 n2 n3
  obtain ⟨⟨⟨⟨⟨⟨p1, p2⟩, p3⟩, p4⟩, p5⟩, p6⟩, p7⟩ := n1
  obtain ⟨⟨q1, q2⟩, q3⟩ := n2
  obtain ⟨⟨⟨⟨⟨⟨r1, r2⟩, r3⟩, r4⟩, r5⟩, r6⟩, r7⟩ := n3
  replace p1 := hide p1
  replace p2 := hide p2
  replace p3 := hide p3
  replace p4 := hide p4
  replace p5 := hide p5
  replace p6 := hide p6
  replace p7 := hide p7
  replace q1 := hide q1
  replace q2 := hide q2
  replace q3 := hide q3
  replace r1 := hide r1
  replace r2 := hide r2
  replace r3 := hide r3
  replace r4 := hide r4
  replace r5 := hide r5
  replace r6 := hide r6
  replace r7 := hide r7
  have hx0 : (0 : Int) ≤ (x : Int) := by omega
  have hx1 : (x : Int) < 256 := by omega
  have AL := hide (fun W => alive20_ok W)
  have Q := hide (Below.refl w.heap.size w)
  go_enter Tryz.func3, Tryz.ntmps3
  have SG := heap_below (heap_below (World.alloc_heap_new w (.cells ([.int .i64 0, .int .i64 8, .bool false, .bool false, .int .i64 8, .int .i64 8, .bool false, .bool false]).toArray 23)) ((Below.refl _ _).alloc (Nat.le_refl _) (.cells ([.int .i64 16, .int .i64 17]).toArray 3))) ((Below.refl _ _).alloc (Nat.le_refl _) (.cells ([.int .i64 0, .slice none 0 0, .slice none 0 0]).toArray 27))
  have NW := heap_below (World.alloc_heap_new (w.alloc (.cells ([.int .i64 0, .int .i64 8, .bool false, .bool false, .int .i64 8, .int .i64 8, .bool false, .bool false]).toArray 23)) (.cells ([.int .i64 16, .int .i64 17]).toArray 3)) ((Below.refl _ _).alloc (Nat.le_refl _) (.cells ([.int .i64 0, .slice none 0 0, .slice none 0 0]).toArray 27))
  have LY := World.alloc_heap_new ((w.alloc (.cells ([.int .i64 0, .int .i64 8, .bool false, .bool false, .int .i64 8, .int .i64 8, .bool false, .bool false]).toArray 23)).alloc (.cells ([.int .i64 16, .int .i64 17]).toArray 3)) (.cells ([.int .i64 0, .slice none 0 0, .slice none 0 0]).toArray 27)
  simp only [World.size_alloc] at NW LY
  have zQy : w.heap.size ≤ w.heap.size := Q.out.size
  obtain ⟨w2', hw2'⟩ : ∃ wx, wx = ((w.alloc (.cells ([.int .i64 0, .int .i64 8, .bool false, .bool false, .int .i64 8, .int .i64 8, .bool false, .bool false]).toArray 23)).alloc (.cells ([.int .i64 16, .int .i64 17]).toArray 3)).alloc (.cells ([.int .i64 0, .slice none 0 0, .slice none 0 0]).toArray 27) := ⟨_, rfl⟩
  have q1' := hide (show Below w.heap.size w w2' by rw [hw2']; exact (((Below.refl _ _).alloc (Nat.le_refl _) _).alloc (by simp <;> omega) _).alloc (by simp <;> omega) _)
  rw [← hw2'] at SG NW LY
  replace SG := hide SG
  replace NW := hide NW
  replace LY := hide LY
  have Tw3' := hide (show (((w.alloc (.cells ([.int .i64 0, .int .i64 8, .bool false, .bool false, .int .i64 8, .int .i64 8, .bool false, .bool false]).toArray 23)).alloc (.cells ([.int .i64 16, .int .i64 17]).toArray 3)).alloc (.cells ([.int .i64 0, .slice none 0 0, .slice none 0 0]).toArray 27)).there (w.heap.size + 2) 0 3 by rw [← hw2']; exact there_heap (cs := [.int .i64 0, .slice none 0 0, .slice none 0 0]) LY.out)
  go_wp2_with (refine wpList_store_hid (by rfl) 27 (.tmp 7) (.tmp 41) (by rfl) (w.heap.size + 2) 0 ([.int .i64 3, .slice (some ⟨w.heap.size, 0, none⟩) 2 2, .slice (some ⟨w.heap.size + 1, 0, none⟩) 2 2]) (by rfl) (by rfl) (by exact Tw3'.out) (by kernel_rfl) (by simp [Value.oneCell', Lv.cs]) ?_)
  intro w3' ew3'
  replace ew3' : Hid (w3' = w2'.setCells (w.heap.size + 2) 0 ([.int .i64 3, .slice (some ⟨w.heap.size, 0, none⟩) 2 2, .slice (some ⟨w.heap.size + 1, 0, none⟩) 2 2])) := by rw [hw2']; exact ew3'
  replace SG := hide (show w3'.heap[w.heap.size]? = some (.cells ([.int .i64 0, .int .i64 8, .bool false, .bool false, .int .i64 8, .int .i64 8, .bool false, .bool false]).toArray 23 (0, 0)) by rw [ew3'.out]; exact other_heap (by omega) _ _ _ SG.out)
  replace NW := hide (show w3'.heap[w.heap.size + 1]? = some (.cells ([.int .i64 16, .int .i64 17]).toArray 3 (0, 0)) by rw [ew3'.out]; exact other_heap (by omega) _ _ _ NW.out)
  replace LY := hide (show w3'.heap[w.heap.size + 2]? = some (.cells ([.int .i64 3, .slice (some ⟨w.heap.size, 0, none⟩) 2 2, .slice (some ⟨w.heap.size + 1, 0, none⟩) 2 2]).toArray 27 (0, 0)) by rw [ew3'.out]; exact whole_heap ([.int .i64 3, .slice (some ⟨w.heap.size, 0, none⟩) 2 2, .slice (some ⟨w.heap.size + 1, 0, none⟩) 2 2]) (xs := [.int .i64 0, .slice none 0 0, .slice none 0 0]) LY.out rfl)
  replace q1' := hide (show Below w.heap.size w w3' by rw [ew3'.out]; exact q1'.out.trans (below_setCells _ _ _ (by omega)))
  clear ew3' Tw3' hw2'
  replace Q := hide (below_next Q.out Q.out.size q1'.out)
  clear q1'
  have FL := heap_below (World.alloc_heap_new w3' (.cells ([.int .i64 1, .int .i64 0, .int .i64 0, .int .i64 0, .int .i64 0, .int .i64 0, .int .i64 0, .int .i64 0, .int .i64 0, .int .i64 1, .int .i64 0, .int .i64 0, .int .i64 0, .int .i64 0, .int .i64 0, .int .i64 0, .int .i64 0, .int .i64 0]).toArray 29)) ((Below.refl _ _).alloc (Nat.le_refl _) (.cells ([.int .i64 0, .int .i64 0, .int .i64 0, .int .i64 0, .int .i64 0]).toArray 32))
  have WY := World.alloc_heap_new (w3'.alloc (.cells ([.int .i64 1, .int .i64 0, .int .i64 0, .int .i64 0, .int .i64 0, .int .i64 0, .int .i64 0, .int .i64 0, .int .i64 0, .int .i64 1, .int .i64 0, .int .i64 0, .int .i64 0, .int .i64 0, .int .i64 0, .int .i64 0, .int .i64 0, .int .i64 0]).toArray 29)) (.cells ([.int .i64 0, .int .i64 0, .int .i64 0, .int .i64 0, .int .i64 0]).toArray 32)
  simp only [World.size_alloc] at WY
  have zSGz : w.heap.size < w3'.heap.size := heap_lt SG.out
  have zNWz : w.heap.size + 1 < w3'.heap.size := heap_lt NW.out
  have zLYz : w.heap.size + 2 < w3'.heap.size := heap_lt LY.out
  have zQz : w.heap.size ≤ w3'.heap.size := Q.out.size
  obtain ⟨w5', hw5'⟩ : ∃ wx, wx = (w3'.alloc (.cells ([.int .i64 1, .int .i64 0, .int .i64 0, .int .i64 0, .int .i64 0, .int .i64 0, .int .i64 0, .int .i64 0, .int .i64 0, .int .i64 1, .int .i64 0, .int .i64 0, .int .i64 0, .int .i64 0, .int .i64 0, .int .i64 0, .int .i64 0, .int .i64 0]).toArray 29)).alloc (.cells ([.int .i64 0, .int .i64 0, .int .i64 0, .int .i64 0, .int .i64 0]).toArray 32) := ⟨_, rfl⟩
  have q4' := hide (show Below w3'.heap.size w3' w5' by rw [hw5']; exact ((Below.refl _ _).alloc (Nat.le_refl _) _).alloc (by simp <;> omega) _)
  rw [← hw5'] at FL WY
  replace FL := hide FL
  replace WY := hide WY
  have Tw6' := hide (show ((w3'.alloc (.cells ([.int .i64 1, .int .i64 0, .int .i64 0, .int .i64 0, .int .i64 0, .int .i64 0, .int .i64 0, .int .i64 0, .int .i64 0, .int .i64 1, .int .i64 0, .int .i64 0, .int .i64 0, .int .i64 0, .int .i64 0, .int .i64 0, .int .i64 0, .int .i64 0]).toArray 29)).alloc (.cells ([.int .i64 0, .int .i64 0, .int .i64 0, .int .i64 0, .int .i64 0]).toArray 32)).there (w3'.heap.size + 1) 0 5 by rw [← hw5']; exact there_heap (cs := [.int .i64 0, .int .i64 0, .int .i64 0, .int .i64 0, .int .i64 0]) WY.out)
  go_wp2_with (refine wpList_store_hid (by rfl) 32 (.tmp 9) (.tmp 45) (by rfl) (w3'.heap.size + 1) 0 (wycL aWy) (by rfl) (by rfl) (by exact Tw6'.out) (by kernel_rfl) (by simp [Value.oneCell', wycL]) ?_)
  intro w6' ew6'
  replace ew6' : Hid (w6' = w5'.setCells (w3'.heap.size + 1) 0 (wycL aWy)) := by rw [hw5']; exact ew6'
  replace FL := hide (show w6'.heap[w3'.heap.size]? = some (.cells ([.int .i64 1, .int .i64 0, .int .i64 0, .int .i64 0, .int .i64 0, .int .i64 0, .int .i64 0, .int .i64 0, .int .i64 0, .int .i64 1, .int .i64 0, .int .i64 0, .int .i64 0, .int .i64 0, .int .i64 0, .int .i64 0, .int .i64 0, .int .i64 0]).toArray 29 (0, 0)) by rw [ew6'.out]; exact other_heap (by omega) _ _ _ FL.out)
  replace WY := hide (show w6'.heap[w3'.heap.size + 1]? = some (.cells (wycL aWy).toArray 32 (0, 0)) by rw [ew6'.out]; exact whole_heap (wycL aWy) (xs := [.int .i64 0, .int .i64 0, .int .i64 0, .int .i64 0, .int .i64 0]) WY.out rfl)
  replace q4' := hide (show Below w3'.heap.size w3' w6' by rw [ew6'.out]; exact q4'.out.trans (below_setCells _ _ _ (by omega)))
  clear ew6' Tw6' hw5'
  replace SG := hide (heap_below SG.out q4'.out)
  replace NW := hide (heap_below NW.out q4'.out)
  replace LY := hide (heap_below LY.out q4'.out)
  replace Q := hide (below_next Q.out Q.out.size q4'.out)
  clear q4'
  generalize w3'.heap.size = z at *
  have LY0 := LY
  have WYa := hide (heap_below WY.out (show Below w6'.heap.size w6' (w6'.alloc (.cells ([.int .i64 1, .int .i64 2]).toArray 2)) from (Below.refl _ _).alloc (Nat.le_refl _) _))
  obtain ⟨w7', hw7'⟩ : ∃ wx, wx = w6'.alloc (.cells ([.int .i64 1, .int .i64 2]).toArray 2) := ⟨_, rfl⟩
  have F0 := hide (show w7'.heap[w6'.heap.size]? = some (.cells ([.int .i64 1, .int .i64 2]).toArray 2 (0, 0)) by rw [hw7']; exact World.alloc_heap_new _ _)
  have q8' : Below w6'.heap.size w6' w7' := by rw [hw7']; exact (Below.refl _ _).alloc (Nat.le_refl _) _
  have zm : w7'.heap.size = w6'.heap.size + 1 := by rw [hw7']; simp
  have ySGm : w.heap.size < w6'.heap.size := heap_lt SG.out
  have yNWm : w.heap.size + 1 < w6'.heap.size := heap_lt NW.out
  have yLYm : w.heap.size + 2 < w6'.heap.size := heap_lt LY.out
  have yFLm : z < w6'.heap.size := heap_lt FL.out
  have yWYm : z + 1 < w6'.heap.size := heap_lt WY.out
  replace SG := hide (heap_below SG.out q8')
  replace NW := hide (heap_below NW.out q8')
  replace LY := hide (heap_below LY.out q8')
  replace FL := hide (heap_below FL.out q8')
  replace WY := hide (heap_below WY.out q8')
  replace Q := hide (below_next Q.out Q.out.size q8')
  clear q8'
  have N1 := hide (show Calls Tryz.prog 5 #[.agg #[.int .i64 3, .slice (some ⟨w.heap.size, 0, none⟩) 2 2, .slice (some ⟨w.heap.size + 1, 0, none⟩) 2 2], .int .u8 0, .slice (some ⟨w6'.heap.size, 0, none⟩) 2 2, .slice (some ⟨z, 0, none⟩) 2 2, .agg (wycL aWy).toArray, .agg (wycL aWy).toArray, .int .i64 0] w7' _ from newOut_yes ⟨nL, some ⟨w.heap.size, 0, none⟩, 2, some ⟨w.heap.size + 1, 0, none⟩, 2⟩ 0 ⟨[1, 2], some ⟨w6'.heap.size, 0, none⟩, 2⟩ ⟨nFl, some ⟨z, 0, none⟩, 2⟩ aWy aWy 0 w7' ⟨rd_rows (rows := [sgc ⟨0, 8, false, false⟩, sgc ⟨8, 8, false, false⟩]) SG.out (by simp [sgc]), rd_rows (rows := [[.int .i64 16], [.int .i64 17]]) NW.out (by simp), by simp [nL], by simp [nL], by simp [nL], by simp [nL]⟩ ⟨rd_rows (rows := [flcL aFlt, flcL aFlt]) FL.out (by simp [flcL]), by simp [nFl]⟩ ⟨rd_rows (rows := [[.int .i64 1], [.int .i64 2]]) F0.out (by simp), (show ∀ v ∈ ([1, 2] : List Int), lim v by unfold lim; decide), by simp⟩ (show (mayG 2 && (comB nL nFl (gnL [1, 2]) (gnL [1, 2]) 0 && newSndB aWy aWy 0)) = true by decide +kernel))
  go_wp2_with (first | (refine wpList_load_row rfl 27 (.tmp 7) (by rfl) (w.heap.size + 2) (by rfl) 27 ([.int .i64 3, .slice (some ⟨w.heap.size, 0, none⟩) 2 2, .slice (some ⟨w.heap.size + 1, 0, none⟩) 2 2]).toArray (0, 0) _ (by exact LY0.out) Tryz.underlying27 (by rfl) (by kernel_rfl) ?_) | (refine wpList_load_row rfl 32 (.tmp 9) (by rfl) (z + 1) (by rfl) 32 (wycL aWy).toArray (0, 0) _ (by exact WYa.out) Tryz.underlying32 (by rfl) (by kernel_rfl) ?_))
  clear LY0 WYa
  rw [← hw7']
  clear hw7'
  (with_reducible refine (N1.out).mono ?_)
  rintro ew9' w9' ⟨⟨V, rfl, hV, hVn, hVi⟩, qw9'⟩
  replace SG := hide (heap_below SG.out qw9')
  replace NW := hide (heap_below NW.out qw9')
  replace LY := hide (heap_below LY.out qw9')
  replace FL := hide (heap_below FL.out qw9')
  replace WY := hide (heap_below WY.out qw9')
  replace F0 := hide (heap_below F0.out qw9')
  replace Q := hide (below_next Q.out Q.out.size qw9')
  clear qw9'
  clear N1
  obtain ⟨N, zN, AV⟩ : ∃ N, N ≤ w9'.heap.size ∧ V.Away (fun k => N ≤ k) := ⟨_, Nat.le_refl _, hV.away⟩
  replace AV := hide AV
  have iV := hide hVi
  clear hVi hVn
  replace hV := hide hV
  clear F0 
  clear WY 
  have VO := World.alloc_heap_new w9' (.cells Ou.zero.cs.toArray 40)
  have zSGb : w.heap.size < w9'.heap.size := heap_lt SG.out
  have zNWb : w.heap.size + 1 < w9'.heap.size := heap_lt NW.out
  have zLYb : w.heap.size + 2 < w9'.heap.size := heap_lt LY.out
  have zFLb : z < w9'.heap.size := heap_lt FL.out
  have zQb : w.heap.size ≤ w9'.heap.size := Q.out.size
  obtain ⟨w11', hw11'⟩ : ∃ wx, wx = w9'.alloc (.cells Ou.zero.cs.toArray 40) := ⟨_, rfl⟩
  have q10' := hide (show Below w9'.heap.size w9' w11' by rw [hw11']; exact (Below.refl _ _).alloc (Nat.le_refl _) _)
  rw [← hw11'] at VO
  replace VO := hide VO
  have Tw12' := hide (show (w9'.alloc (.cells Ou.zero.cs.toArray 40)).there w9'.heap.size 0 26 by rw [← hw11']; exact there_heap (cs := Ou.zero.cs) VO.out)
  go_wp2_with (refine wpList_store_hid (by rfl) 40 (.tmp 10) (.tmp 53) (by rfl) w9'.heap.size 0 V.cs (by rfl) (by rfl) (by exact Tw12'.out) (by kernel_rfl) (by simp [Value.oneCell', Ou.cs, Fv.v, Iv.v, Bv.v]) ?_)
  intro w12' ew12'
  replace ew12' : Hid (w12' = w11'.setCells w9'.heap.size 0 V.cs) := by rw [hw11']; exact ew12'
  replace VO := hide (show w12'.heap[w9'.heap.size]? = some (.cells V.cs.toArray 40 (0, 0)) by rw [ew12'.out]; exact whole_heap V.cs (xs := Ou.zero.cs) VO.out rfl)
  replace q10' := hide (show Below w9'.heap.size w9' w12' by rw [ew12'.out]; exact q10'.out.trans (below_setCells _ _ _ (by omega)))
  clear ew12' Tw12' hw11'
  replace SG := hide (heap_below SG.out q10'.out)
  replace NW := hide (heap_below NW.out q10'.out)
  replace LY := hide (heap_below LY.out q10'.out)
  replace FL := hide (heap_below FL.out q10'.out)
  replace hV := hide ((hV.out.next q10'.out))
  replace Q := hide (below_next Q.out Q.out.size q10'.out)
  clear q10'
  generalize w9'.heap.size = b at *
  have LY0 := LY
  obtain ⟨w13', hw13'⟩ : ∃ wx, wx = w12'.alloc (.cells ([.int .i64 7, .int .i64 8]).toArray 2) := ⟨_, rfl⟩
  have F1 := hide (show w13'.heap[w12'.heap.size]? = some (.cells ([.int .i64 7, .int .i64 8]).toArray 2 (0, 0)) by rw [hw13']; exact World.alloc_heap_new _ _)
  have q14' : Below w12'.heap.size w12' w13' := by rw [hw13']; exact (Below.refl _ _).alloc (Nat.le_refl _) _
  have zm1 : w13'.heap.size = w12'.heap.size + 1 := by rw [hw13']; simp
  have ySGm1 : w.heap.size < w12'.heap.size := heap_lt SG.out
  have yNWm1 : w.heap.size + 1 < w12'.heap.size := heap_lt NW.out
  have yLYm1 : w.heap.size + 2 < w12'.heap.size := heap_lt LY.out
  have yFLm1 : z < w12'.heap.size := heap_lt FL.out
  have yVOm1 : b < w12'.heap.size := heap_lt VO.out
  replace SG := hide (heap_below SG.out q14')
  replace NW := hide (heap_below NW.out q14')
  replace LY := hide (heap_below LY.out q14')
  replace FL := hide (heap_below FL.out q14')
  replace VO := hide (heap_below VO.out q14')
  replace hV := hide ((hV.out.next q14'))
  replace Q := hide (below_next Q.out Q.out.size q14')
  clear q14'
  obtain ⟨w15', hw15'⟩ : ∃ wx, wx = w13'.alloc (.cells ([.int .i64 0, .int .i64 0]).toArray 2) := ⟨_, rfl⟩
  have F2 := hide (show w15'.heap[w13'.heap.size]? = some (.cells ([.int .i64 0, .int .i64 0]).toArray 2 (0, 0)) by rw [hw15']; exact World.alloc_heap_new _ _)
  have q16' : Below w13'.heap.size w13' w15' := by rw [hw15']; exact (Below.refl _ _).alloc (Nat.le_refl _) _
  have zm2 : w15'.heap.size = w13'.heap.size + 1 := by rw [hw15']; simp
  have ySGm2 : w.heap.size < w13'.heap.size := heap_lt SG.out
  have yNWm2 : w.heap.size + 1 < w13'.heap.size := heap_lt NW.out
  have yLYm2 : w.heap.size + 2 < w13'.heap.size := heap_lt LY.out
  have yFLm2 : z < w13'.heap.size := heap_lt FL.out
  have yVOm2 : b < w13'.heap.size := heap_lt VO.out
  have yF1m2 : w12'.heap.size < w13'.heap.size := heap_lt F1.out
  replace SG := hide (heap_below SG.out q16')
  replace NW := hide (heap_below NW.out q16')
  replace LY := hide (heap_below LY.out q16')
  replace FL := hide (heap_below FL.out q16')
  replace VO := hide (heap_below VO.out q16')
  replace F1 := hide (heap_below F1.out q16')
  replace hV := hide ((hV.out.next q16'))
  replace Q := hide (below_next Q.out Q.out.size q16')
  clear q16'
  have N2 := hide (show Calls Tryz.prog 6 #[.agg #[.int .i64 3, .slice (some ⟨w.heap.size, 0, none⟩) 2 2, .slice (some ⟨w.heap.size + 1, 0, none⟩) 2 2], .slice (some ⟨w12'.heap.size, 0, none⟩) 2 2, .slice (some ⟨w13'.heap.size, 0, none⟩) 2 2, .slice (some ⟨z, 0, none⟩) 2 2, .agg #[.int .i64 0, .int .i64 0, .int .i64 0, .bool false, .bool false]] w15' _ from newIn_yes ⟨nL, some ⟨w.heap.size, 0, none⟩, 2, some ⟨w.heap.size + 1, 0, none⟩, 2⟩ ⟨nFl, some ⟨z, 0, none⟩, 2⟩ ⟨[7, 8], some ⟨w12'.heap.size, 0, none⟩, 2⟩ ⟨[0, 0], some ⟨w13'.heap.size, 0, none⟩, 2⟩ zWt w15' ⟨rd_rows (rows := [sgc ⟨0, 8, false, false⟩, sgc ⟨8, 8, false, false⟩]) SG.out (by simp [sgc]), rd_rows (rows := [[.int .i64 16], [.int .i64 17]]) NW.out (by simp), by simp [nL], by simp [nL], by simp [nL], by simp [nL]⟩ ⟨rd_rows (rows := [flcL aFlt, flcL aFlt]) FL.out (by simp [flcL]), by simp [nFl]⟩ ⟨rd_rows (rows := [[.int .i64 7], [.int .i64 8]]) F1.out (by simp), (show ∀ v ∈ ([7, 8] : List Int), lim v by unfold lim; decide), by simp⟩ ⟨rd_rows (rows := [[.int .i64 0], [.int .i64 0]]) F2.out (by simp), (show ∀ v ∈ ([0, 0] : List Int), lim v by unfold lim; decide), by simp⟩ (show (comB nL nFl (gnL [7, 8]) (gnL [7, 8]) 0 && (fitA nL [0, 0] && wtB zWt)) = true by decide +kernel) (show mayG 2 = true by decide))
  rw [zm1] at N2
  go_wp2_with (refine wpList_load_row rfl 27 (.tmp 7) (by rfl) (w.heap.size + 2) (by rfl) 27 ([.int .i64 3, .slice (some ⟨w.heap.size, 0, none⟩) 2 2, .slice (some ⟨w.heap.size + 1, 0, none⟩) 2 2]).toArray (0, 0) _ (by exact LY0.out) Tryz.underlying27 (by rfl) (by kernel_rfl) ?_)
  rw [← hw13', ← hw15']
  clear hw13' hw15' LY0
  (with_reducible refine (N2.out).mono ?_)
  rintro ew17' w17' ⟨⟨U, rfl, hU, hUn, hUi⟩, qw17'⟩
  replace SG := hide (heap_below SG.out qw17')
  replace NW := hide (heap_below NW.out qw17')
  replace LY := hide (heap_below LY.out qw17')
  replace FL := hide (heap_below FL.out qw17')
  replace VO := hide (heap_below VO.out qw17')
  replace F1 := hide (heap_below F1.out qw17')
  replace F2 := hide (heap_below F2.out qw17')
  replace hV := hide ((hV.out.next qw17'))
  replace Q := hide (below_next Q.out Q.out.size qw17')
  clear qw17'
  clear N2
  obtain ⟨N2, zN2, AU⟩ : ∃ N2, N2 ≤ w17'.heap.size ∧ U.Away (fun k => (k = b) ∨ N2 ≤ k) := ⟨_, Nat.le_refl _, Inn.Away.or (S := fun k => k = b) ⟨by rw [hUi.ly]; exact ⟨offS_at (show ¬ (w.heap.size = b) by omega), offS_at (show ¬ ((w.heap.size + 1) = b) by omega)⟩, by rw [hUi.fl]; exact offS_at (show ¬ (z = b) by omega), offS_fresh hUn.S (fun k h => by have : k = b := h; omega), offS_fresh hUn.G (fun k h => by have : k = b := h; omega), by rw [hUi.subs]; exact offS_at (show ¬ ((w12'.heap.size + 1) = b) by omega)⟩ hU.away⟩
  replace AU := hide AU
  have iU := hide hUi
  clear hUi hUn
  replace hU := hide hU
  clear F1 
  clear F2 
  clear LY 
  clear FL 
  clear SG 
  clear NW 
  have UI := World.alloc_heap_new w17' (.cells Inn.zero.cs.toArray 47)
  have zVOc : b < w17'.heap.size := heap_lt VO.out
  have zQc : w.heap.size ≤ w17'.heap.size := Q.out.size
  obtain ⟨w19', hw19'⟩ : ∃ wx, wx = w17'.alloc (.cells Inn.zero.cs.toArray 47) := ⟨_, rfl⟩
  have q18' := hide (show Below w17'.heap.size w17' w19' by rw [hw19']; exact (Below.refl _ _).alloc (Nat.le_refl _) _)
  rw [← hw19'] at UI
  replace UI := hide UI
  have Tw20' := hide (show (w17'.alloc (.cells Inn.zero.cs.toArray 47)).there w17'.heap.size 0 13 by rw [← hw19']; exact there_heap (cs := Inn.zero.cs) UI.out)
  go_wp2_with (refine wpList_store_hid (by rfl) 47 (.tmp 12) (.tmp 62) (by rfl) w17'.heap.size 0 U.cs (by rfl) (by rfl) (by exact Tw20'.out) (by kernel_rfl) (by simp [Value.oneCell', Inn.cs, Fv.v, Iv.v]) ?_)
  intro w20' ew20'
  replace ew20' : Hid (w20' = w19'.setCells w17'.heap.size 0 U.cs) := by rw [hw19']; exact ew20'
  replace UI := hide (show w20'.heap[w17'.heap.size]? = some (.cells U.cs.toArray 47 (0, 0)) by rw [ew20'.out]; exact whole_heap U.cs (xs := Inn.zero.cs) UI.out rfl)
  replace q18' := hide (show Below w17'.heap.size w17' w20' by rw [ew20'.out]; exact q18'.out.trans (below_setCells _ _ _ (by omega)))
  clear ew20' Tw20' hw19'
  replace VO := hide (heap_below VO.out q18'.out)
  replace hV := hide ((hV.out.next q18'.out))
  replace hU := hide ((hU.out.next q18'.out))
  replace Q := hide (below_next Q.out Q.out.size q18'.out)
  clear q18'
  generalize w17'.heap.size = c at *
  have zbc : b < c := by omega
  replace AV := hide (show V.Away (fun k => k = b ∨ k = c) from AV.out.mono (fun k h => show N ≤ k by have : k = b ∨ k = c := h; omega))
  replace AU := hide (show U.Away (fun k => k = b ∨ k = c) from AU.out.mono (fun k h => show k = b ∨ N2 ≤ k by have : k = b ∨ k = c := h; omega))
  have hr : U.right = true := by
      unfold Inn.right
      rw [iU.out.ly, iU.out.fl, iU.out.S, iU.out.G, iU.out.times, iU.out.subs, iU.out.w]
      show (comB nL nFl [7, 8] [7, 8] 0 && (fitA nL [0, 0] && wtB zWt)) = true
      decide +kernel
  have ST := hide (comStart_ok U w20' hU.out hr)
  clear hr
  go_wp2_with (refine wpList_load_row rfl 47 (.tmp 12) (by rfl) c (by rfl) 47 U.cs.toArray (0, 0) _ (by exact UI.out) Tryz.underlying47 (by rfl) (by kernel_rfl) ?_)
  (with_reducible refine (ST.out).mono ?_)
  rintro ew21' w21' ⟨rfl, qw21'⟩
  replace VO := hide (heap_below VO.out qw21')
  replace UI := hide (heap_below UI.out qw21')
  replace hV := hide ((hV.out.next qw21'))
  replace hU := hide ((hU.out.next qw21'))
  replace Q := hide (below_next Q.out Q.out.size qw21')
  clear qw21'
  clear ST
  have Tw22' := hide (show World.there _ c 0 13 from there_heap (cs := U.cs) UI.out)
  go_wp2_with (refine wpList_store_hid (by rfl) 47 (.tmp 12) (.tmp 67) (by rfl) c 0 (({ U with w := U.w.start } : Inn).cs) (by rfl) (by rfl) (by exact Tw22'.out) (by kernel_rfl) (by simp [Value.oneCell', Inn.cs, Fv.v, Iv.v]) ?_)
  intro w22' ew22'
  replace VO := hide (show w22'.heap[b]? = some (.cells V.cs.toArray 40 (0, 0)) by rw [ew22'.out]; exact other_heap (by omega) _ _ _ VO.out)
  replace hV := hide (show V.Ok w22' by rw [ew22'.out]; exact hV.out.set AV.out (show _ ∨ _ by omega) _ _)
  replace hU := hide (show U.Ok w22' by rw [ew22'.out]; exact hU.out.set AU.out (show _ ∨ _ by omega) _ _)
  replace Q := hide (show Below w.heap.size w w22' by rw [ew22'.out]; exact Q.out.trans (below_setCells _ _ _ (by have := Q.out.size; omega)))
  replace UI := hide (show w22'.heap[c]? = some (.cells (({ U with w := U.w.start } : Inn).cs).toArray 47 (0, 0)) by rw [ew22'.out]; exact whole_heap (({ U with w := U.w.start } : Inn).cs) (xs := U.cs) UI.out rfl)
  clear ew22' Tw22'
  obtain ⟨U0, hU0⟩ : ∃ U0, U0 = ({ U with w := U.w.start } : Inn) := ⟨_, rfl⟩
  have hU0k : Hid (U0.Ok w22') := hide (by rw [hU0]; exact ⟨hU.out.ly, hU.out.fl, hU.out.S, hU.out.G, hU.out.subs⟩)
  have AU0 : Hid (U0.Away (fun k => k = b ∨ k = c)) := hide (by rw [hU0]; exact ⟨AU.out.ly, AU.out.fl, AU.out.S, AU.out.G, AU.out.subs⟩)
  have i1 : Hid (U0.ly.L = nL) := hide (by rw [hU0]; show U.ly.L = nL; rw [iU.out.ly])
  have i2 : Hid (U0.fl.l = nFl) := hide (by rw [hU0]; show U.fl.l = nFl; rw [iU.out.fl])
  have i3 : Hid (U0.S.l = [7, 8]) := hide (by rw [hU0]; exact iU.out.S)
  have i4 : Hid (U0.G.l = [7, 8]) := hide (by rw [hU0]; exact iU.out.G)
  have i5 : Hid (U0.times = 0) := hide (by rw [hU0]; exact iU.out.times)
  have i6 : Hid (U0.subs.l = [0, 0]) := hide (by rw [hU0]; show U.subs.l = [0, 0]; rw [iU.out.subs])
  have i7 : Hid (U0.w = nWt) := hide (by rw [hU0]; show U.w.start = nWt; rw [iU.out.w]; rfl)
  rw [← hU0] at UI
  clear hU0
  clear hU
  have zq1 := Q.out.size
  have hr : V.right = true := by
      unfold Ou.right
      rw [iV.out.ly, iV.out.fl, iV.out.S, iV.out.G, iV.out.times, iV.out.news, iV.out.snd]
      show (comB nL nFl [1, 2] [1, 2] 0 && (decide ((List.replicate 2 false).length = nL.sgs.length) && sndB nSnd)) = true
      decide +kernel
  have hL : V.ly.L = nL := by rw [iV.out.ly]
  have hk : 0 < V.ly.L.sgs.length := by rw [hL]; decide
  have C1 := hide (show Calls Tryz.prog 8 #[.agg V.cs.toArray, .int .i64 0, .int .i64 x] w22' _ from comWrite_ok V 0 x w22' hV.out hr hk ⟨by omega, by omega⟩ (by simp only [hL]; exact p1.out))
  replace hL := hide hL
  clear hr hk
  have za := heap_lt VO.out
  have zb := heap_lt UI.out
  go_wp2_with (refine wpList_load_row rfl 40 (.tmp 10) (by rfl) b (by rfl) 40 V.cs.toArray (0, 0) _ (by exact VO.out) Tryz.underlying40 (by rfl) (by kernel_rfl) ?_)
  (with_reducible refine (C1.out).mono ?_)
  rintro ew23' w23' ⟨V1, rfl, hV1, iW, qw23'⟩
  replace VO := hide (heap_below VO.out qw23')
  replace UI := hide (heap_below UI.out qw23')
  replace hV := hide ((hV.out.next qw23'))
  replace hU0k := hide ((hU0k.out.next qw23'))
  replace Q := hide (below_next Q.out Q.out.size qw23')
  clear qw23'
  clear C1
  have AV1 := hide (iW.away AV.out (fun k h => by have : k = b ∨ k = c := h; omega))
  replace hV1 := hide hV1
  replace iW := hide iW
  clear hV
  have a1 := hide (show V1.ly.L = nL by rw [iW.out.ly]; exact hL.out)
  have a2 := hide (show V1.fl.l = nFl by rw [iW.out.fl, iV.out.fl])
  have a3 := hide (show V1.S.l = nVS false x by rw [iW.out.S, iV.out.S]; rfl)
  have a4 := hide (show V1.G.l = [1, 2] by rw [iW.out.G, iV.out.G])
  have a5 := hide (show V1.times = 0 by rw [iW.out.times, iV.out.times])
  have a6 := hide (show V1.news.l = nNB false by rw [iW.out.news, iV.out.news]; rfl)
  have a7 := hide (show V1.snd = nSnd by rw [iW.out.snd, iV.out.snd]; rfl)
  have a8 := hide (show V1.fill = 0 by rw [iW.out.fill, iV.out.fill])
  have Tw24' := hide (show World.there _ b 0 26 from there_heap (cs := V.cs) VO.out)
  go_wp2_with (refine wpList_store_hid (by rfl) 40 (.tmp 10) (.tmp 78) (by rfl) b 0 V1.cs (by rfl) (by rfl) (by exact Tw24'.out) (by kernel_rfl) (by simp [Value.oneCell', Ou.cs, Fv.v, Iv.v, Bv.v]) ?_)
  intro w24' ew24'
  replace UI := hide (show w24'.heap[c]? = some (.cells U0.cs.toArray 47 (0, 0)) by rw [ew24'.out]; exact other_heap (by omega) _ _ _ UI.out)
  replace hU0k := hide (show U0.Ok w24' by rw [ew24'.out]; exact hU0k.out.set AU0.out (show _ ∨ _ by omega) _ _)
  replace hV1 := hide (show V1.Ok w24' by rw [ew24'.out]; exact hV1.out.set AV1.out (show _ ∨ _ by omega) _ _)
  replace Q := hide (show Below w.heap.size w w24' by rw [ew24'.out]; exact Q.out.trans (below_setCells _ _ _ (by have := Q.out.size; omega)))
  replace VO := hide (show w24'.heap[b]? = some (.cells V1.cs.toArray 40 (0, 0)) by rw [ew24'.out]; exact whole_heap V1.cs (xs := V.cs) VO.out rfl)
  clear ew24' Tw24'
  have hr : V1.right = true := by
      unfold Ou.right
      rw [a1.out, a2.out, a3.out, a4.out, a5.out, a6.out, a7.out]
      show (comB nL nFl (nVS false x) [1, 2] 0 && (decide ((nNB false).length = nL.sgs.length) && sndB nSnd)) = true
      rw [p2.out, p3.out]; rfl
  have hE : V1.gvE = true := by
      unfold Ou.gvE
      rw [a2.out, a3.out, a6.out]
      exact p4.out
  have hF : V1.gvF = nF1 false x := by
      unfold Ou.gvF
      rw [a2.out, a3.out, a6.out]
      rfl
  have hS : V1.gvS = nS1 false x := by
      unfold Ou.gvS
      rw [hF, a3.out, a7.out]
      unfold Ou.gvE
      rw [a2.out, a3.out, a6.out]
      rfl
  have C2 := hide (comGive_ok V1 w24' hV1.out hr (by rw [a5.out]; decide))
  rw [hE] at C2
  replace hF := hide hF
  replace hS := hide hS
  clear hr hE
  have zc := heap_lt VO.out
  have zd := heap_lt UI.out
  go_wp2_with (refine wpList_load_row rfl 40 (.tmp 10) (by rfl) b (by rfl) 40 V1.cs.toArray (0, 0) _ (by exact VO.out) Tryz.underlying40 (by rfl) (by kernel_rfl) ?_)
  (with_reducible refine (C2.out).mono ?_)
  rintro ew25' w25' ⟨V2, rfl, hV2, iG, qw25'⟩
  replace VO := hide (heap_below VO.out qw25')
  replace UI := hide (heap_below UI.out qw25')
  replace hU0k := hide ((hU0k.out.next qw25'))
  replace hV1 := hide ((hV1.out.next qw25'))
  replace Q := hide (below_next Q.out Q.out.size qw25')
  clear qw25'
  clear C2
  have AV2 := hide (iG.away AV1.out (fun k h => by have : k = b ∨ k = c := h; omega))
  replace hV2 := hide hV2
  replace iG := hide iG
  clear hV1
  have b1 := hide (show V2.ly.L = nL by rw [iG.out.ly]; exact a1.out)
  have b2 := hide (show V2.fl.l = nF1 false x by rw [iG.out.fl]; exact hF.out)
  have b3 := hide (show V2.S.l = nVS false x by rw [iG.out.S]; exact a3.out)
  have b4 := hide (show V2.G.l = nVS false x by rw [iG.out.G]; exact a3.out)
  have b5 := hide (show V2.times = 1 by rw [iG.out.times, a5.out]; rfl)
  have b6 := hide (show V2.news.l = nNB false by rw [iG.out.news]; exact a6.out)
  have b7 := hide (show V2.snd = nS1 false x by rw [iG.out.snd]; exact hS.out)
  have b8 := hide (show V2.fill = 0 by rw [iG.out.fill]; exact a8.out)
  have Tw26' := hide (show World.there _ b 0 26 from there_heap (cs := V1.cs) VO.out)
  go_wp2_with (refine wpList_store_hid (by rfl) 40 (.tmp 10) (.tmp 83) (by rfl) b 0 V2.cs (by rfl) (by rfl) (by exact Tw26'.out) (by kernel_rfl) (by simp [Value.oneCell', Ou.cs, Fv.v, Iv.v, Bv.v]) ?_)
  intro w26' ew26'
  replace UI := hide (show w26'.heap[c]? = some (.cells U0.cs.toArray 47 (0, 0)) by rw [ew26'.out]; exact other_heap (by omega) _ _ _ UI.out)
  replace hU0k := hide (show U0.Ok w26' by rw [ew26'.out]; exact hU0k.out.set AU0.out (show _ ∨ _ by omega) _ _)
  replace hV2 := hide (show V2.Ok w26' by rw [ew26'.out]; exact hV2.out.set AV2.out (show _ ∨ _ by omega) _ _)
  replace Q := hide (show Below w.heap.size w w26' by rw [ew26'.out]; exact Q.out.trans (below_setCells _ _ _ (by have := Q.out.size; omega)))
  replace VO := hide (show w26'.heap[b]? = some (.cells V2.cs.toArray 40 (0, 0)) by rw [ew26'.out]; exact whole_heap V2.cs (xs := V1.cs) VO.out rfl)
  clear ew26' Tw26'
  have hr : V2.right = true := by
      unfold Ou.right
      rw [b1.out, b2.out, b3.out, b4.out, b5.out, b6.out, b7.out]
      show (comB nL (nF1 false x) (nVS false x) (nVS false x) 1 && (decide ((nNB false).length = nL.sgs.length) && sndB (nS1 false x))) = true
      rw [p5.out, p6.out]; rfl
  have hT : V2.snd.tickE = true := by rw [b7.out]; exact p7.out
  have hB : V2.tkS 0 = nStr false x := by
      unfold Ou.tkS
      rw [hT, b1.out, b4.out, b6.out]
      rfl
  have C3 := hide (comTickOut_ok V2 0 w26' hV2.out hr b8.out)
  rw [hT, hB] at C3
  replace hT := hide hT
  clear hr hB
  have ze := heap_lt VO.out
  have zf := heap_lt UI.out
  go_wp2_with (refine wpList_load_row rfl 40 (.tmp 10) (by rfl) b (by rfl) 40 V2.cs.toArray (0, 0) _ (by exact VO.out) Tryz.underlying40 (by rfl) (by kernel_rfl) ?_)
  (with_reducible refine (C3.out).mono ?_)
  rintro ew27' w27' ⟨V3, rfl, hV3, iT, qw27'⟩
  replace VO := hide (heap_below VO.out qw27')
  replace UI := hide (heap_below UI.out qw27')
  replace hU0k := hide ((hU0k.out.next qw27'))
  replace hV2 := hide ((hV2.out.next qw27'))
  replace Q := hide (below_next Q.out Q.out.size qw27')
  clear qw27'
  clear C3
  have AV3 := hide (iT.away AV2.out (fun k h => by have : k = b ∨ k = c := h; omega))
  replace hV3 := hide hV3
  replace iT := hide iT
  clear hV2
  have c1 := hide (show V3.ly.L = nL by rw [iT.out.ly]; exact b1.out)
  have c2 := hide (show V3.fl.l = nF1 false x by rw [iT.out.fl]; exact b2.out)
  have c3 := hide (show V3.S.l = nVS false x by rw [iT.out.S]; exact b3.out)
  have c4 := hide (show V3.G.l = nVS false x by rw [iT.out.G]; exact b4.out)
  have c5 := hide (show V3.times = 1 by rw [iT.out.times]; exact b5.out)
  have c7 := hide (show V3.snd = (nS1 false x).tick by rw [iT.out.snd, b7.out])
  have c8 := hide (show V3.fill = 0 by rw [iT.out.fill]; exact b8.out)
  have c6 : Hid (V3.news.l = [false, false]) := hide (by
      rcases iT.out.news with ⟨_, h⟩ | ⟨h, _⟩
      · rw [hT.out] at h; cases h
      · rw [h, b6.out]; rfl)
  have Tw28' := hide (show World.there _ b 0 26 from there_heap (cs := V2.cs) VO.out)
  go_wp2_with (refine wpList_store_hid (by rfl) 40 (.tmp 10) (.tmp 89) (by rfl) b 0 V3.cs (by rfl) (by rfl) (by exact Tw28'.out) (by kernel_rfl) (by simp [Value.oneCell', Ou.cs, Fv.v, Iv.v, Bv.v]) ?_)
  intro w28' ew28'
  replace UI := hide (show w28'.heap[c]? = some (.cells U0.cs.toArray 47 (0, 0)) by rw [ew28'.out]; exact other_heap (by omega) _ _ _ UI.out)
  replace hU0k := hide (show U0.Ok w28' by rw [ew28'.out]; exact hU0k.out.set AU0.out (show _ ∨ _ by omega) _ _)
  replace hV3 := hide (show V3.Ok w28' by rw [ew28'.out]; exact hV3.out.set AV3.out (show _ ∨ _ by omega) _ _)
  replace Q := hide (show Below w.heap.size w w28' by rw [ew28'.out]; exact Q.out.trans (below_setCells _ _ _ (by have := Q.out.size; omega)))
  replace VO := hide (show w28'.heap[b]? = some (.cells V3.cs.toArray 40 (0, 0)) by rw [ew28'.out]; exact whole_heap V3.cs (xs := V2.cs) VO.out rfl)
  clear ew28' Tw28'
  have hr : U0.right = true := by
      unfold Inn.right
      rw [i1.out, i2.out, i3.out, i4.out, i5.out, i6.out, i7.out]
      show (comB nL nFl [7, 8] [7, 8] 0 && (fitA nL [0, 0] && wtB nWt)) = true
      decide +kernel
  have hO : U0.cmO (nStr false x).data.toList = nO1 false x := by
      unfold Inn.cmO
      rw [i1.out, i2.out, q2.out, q3.out]
      rfl
  have hC : U0.cmE (nStr false x).data.toList = true := by
      unfold Inn.cmE
      rw [hO]
      exact p4.out
  have hM : U0.cmV (nStr false x).data.toList = nMix false x := by
      unfold Inn.cmV
      rw [hO, i1.out, i2.out, i4.out, q2.out]
      exact r1.out
  have C4 := hide (comCome_ok U0 (nStr false x) w28' hU0k.out hr (by rw [i5.out]; decide) (by rw [i1.out, q1.out]; rfl) (by rw [i7.out]; rfl) (by rw [q1.out]; decide) (by rw [i1.out, q2.out]; intro v hv; unfold nVS at hv; simp at hv; rcases hv with rfl | rfl <;> exact ⟨by omega, by omega⟩))
  rw [hC] at C4
  replace hM := hide hM
  replace hC := hide hC
  clear hr hO
  have zg := heap_lt VO.out
  have zh := heap_lt UI.out
  go_wp2_with (refine wpList_load_row rfl 47 (.tmp 12) (by rfl) c (by rfl) 47 U0.cs.toArray (0, 0) _ (by exact UI.out) Tryz.underlying47 (by rfl) (by kernel_rfl) ?_)
  (with_reducible refine (C4.out).mono ?_)
  rintro ew29' w29' ⟨U1, rfl, hU1, iC, qw29'⟩
  replace VO := hide (heap_below VO.out qw29')
  replace UI := hide (heap_below UI.out qw29')
  replace hU0k := hide ((hU0k.out.next qw29'))
  replace hV3 := hide ((hV3.out.next qw29'))
  replace Q := hide (below_next Q.out Q.out.size qw29')
  clear qw29'
  clear C4
  have AU1 := hide (iC.away AU0.out (fun k h => by have : k = b ∨ k = c := h; omega))
  replace hU1 := hide hU1
  replace iC := hide iC
  clear hU0k
  have Tw30' := hide (show World.there _ c 0 13 from there_heap (cs := U0.cs) UI.out)
  go_wp2_with (refine wpList_store_hid (by rfl) 47 (.tmp 12) (.tmp 97) (by rfl) c 0 U1.cs (by rfl) (by rfl) (by exact Tw30'.out) (by kernel_rfl) (by simp [Value.oneCell', Inn.cs, Fv.v, Iv.v]) ?_)
  intro w30' ew30'
  replace VO := hide (show w30'.heap[b]? = some (.cells V3.cs.toArray 40 (0, 0)) by rw [ew30'.out]; exact other_heap (by omega) _ _ _ VO.out)
  replace hV3 := hide (show V3.Ok w30' by rw [ew30'.out]; exact hV3.out.set AV3.out (show _ ∨ _ by omega) _ _)
  replace hU1 := hide (show U1.Ok w30' by rw [ew30'.out]; exact hU1.out.set AU1.out (show _ ∨ _ by omega) _ _)
  replace Q := hide (show Below w.heap.size w w30' by rw [ew30'.out]; exact Q.out.trans (below_setCells _ _ _ (by have := Q.out.size; omega)))
  replace UI := hide (show w30'.heap[c]? = some (.cells U1.cs.toArray 47 (0, 0)) by rw [ew30'.out]; exact whole_heap U1.cs (xs := U0.cs) UI.out rfl)
  clear ew30' Tw30'
  have hG : U1.S.l = nMix false x ∧ U1.G.l = nMix false x ∧ U1.times = 1 ∧ U1.w = nWt.got := by
      rcases iC.out.rest with ⟨_, _, _, _, h⟩ | ⟨r1, r2, r3, r4, _, _, _⟩
      · rw [hC.out] at h
        cases h
      · exact ⟨r1.trans hM.out, r2.trans hM.out, by rw [r3, i5.out]; rfl, by rw [r4, i7.out]⟩
  obtain ⟨g1, g2, g3, g4⟩ := hG
  have g5 : U1.fl.l = nF1 false x := by
      rw [iC.out.fl, i1.out, i2.out, q2.out, q3.out]
      rfl
  have hr : U1.right = true := by
      unfold Inn.right
      rw [iC.out.ly, i1.out, g5, g1, g2, g3, g4, iC.out.subs, i6.out]
      show (comB nL (nF1 false x) (nMix false x) (nMix false x) 1 && (fitA nL [0, 0] && wtB nWt.got)) = true
      rw [r2.out]
      decide +kernel
  have D1k : 0 < U1.G.l.length := by rw [g2]; exact (show 0 < 2 by decide)
  have D1v : U1.G.l[0] = (x : Int) := by simp only [g2]; rfl
  have D1 := fun W (q : Below w30'.heap.size w30' W) => show Calls Tryz.prog 12 #[.agg U1.cs.toArray, .int .i64 0] W _ from comRead_ok U1 0 W (hU1.out.next q) hr D1k
  rw [D1v] at D1
  replace D1 := hide D1
  clear D1k D1v
  have D2k : 1 < U1.G.l.length := by rw [g2]; exact (show 1 < 2 by decide)
  have D2v : U1.G.l[1] = 8 := by simp only [g2]; rfl
  have D2 := fun W (q : Below w30'.heap.size w30' W) => show Calls Tryz.prog 12 #[.agg U1.cs.toArray, .int .i64 1] W _ from comRead_ok U1 1 W (hU1.out.next q) hr D2k
  rw [D2v] at D2
  replace D2 := hide D2
  clear D2k D2v
  clear hr g1 g2 g3 g4 g5
  have D1a := hide (D1.out w30' (Below.refl _ _))
  have QU := hide (Below.refl w30'.heap.size w30')
  go_wp2_with (refine wpList_load_row rfl 47 (.tmp 12) (by rfl) c (by rfl) 47 U1.cs.toArray (0, 0) _ (by exact UI.out) Tryz.underlying47 (by rfl) (by kernel_rfl) ?_)
  (with_reducible refine (D1a.out).mono ?_)
  rintro ew31' w31' ⟨rfl, qw31'⟩
  replace VO := hide (heap_below VO.out qw31')
  replace UI := hide (heap_below UI.out qw31')
  replace hV3 := hide ((hV3.out.next qw31'))
  replace hU1 := hide ((hU1.out.next qw31'))
  replace QU := hide ((QU.out.trans (qw31'.mono QU.out.size)))
  replace Q := hide (below_next Q.out Q.out.size qw31')
  clear qw31'
  clear D1a
  have D2a := hide (D2.out _ QU.out)
  go_wp2_with (refine wpList_load_row rfl 47 (.tmp 12) (by rfl) c (by rfl) 47 U1.cs.toArray (0, 0) _ (by exact UI.out) Tryz.underlying47 (by rfl) (by kernel_rfl) ?_)
  (with_reducible refine (D2a.out).mono ?_)
  rintro ew32' w32' ⟨rfl, qw32'⟩
  replace VO := hide (heap_below VO.out qw32')
  replace UI := hide (heap_below UI.out qw32')
  replace hV3 := hide ((hV3.out.next qw32'))
  replace hU1 := hide ((hU1.out.next qw32'))
  replace QU := hide ((QU.out.trans (qw32'.mono QU.out.size)))
  replace Q := hide (below_next Q.out Q.out.size qw32')
  clear qw32'
  clear D2a
  clear D1 D2 QU
  have hr : V3.right = true := by
      unfold Ou.right
      rw [c1.out, c2.out, c3.out, c4.out, c5.out, c6.out, c7.out]
      show (comB nL (nF1 false x) (nVS false x) (nVS false x) 1 && (decide (([false, false] : List Bool).length = nL.sgs.length) && sndB (nS1 false x).tick)) = true
      rw [p5.out, r3.out]; rfl
  have hE : V3.gvE = false := by
      unfold Ou.gvE
      rw [c2.out, c3.out, c6.out]
      have := r4.out
      have hl : (nF1 false x).length = 2 := stF_len _ _ _ _
      rw [hl]
      exact this
  have hF : V3.gvF = nF2 false x := by
      unfold Ou.gvF
      rw [c2.out, c3.out, c6.out]
      have hl : (nF1 false x).length = 2 := stF_len _ _ _ _
      rw [hl]
      rfl
  have hS : V3.gvS = nS2 false x := by
      unfold Ou.gvS
      rw [hF, hE, c3.out, c7.out]
      unfold nS2
      rw [r4.out]
  have C6 := hide (comGive_ok V3 w32' hV3.out hr (by rw [c5.out]; decide))
  rw [hE] at C6
  replace hF := hide hF
  replace hS := hide hS
  clear hr hE
  have zi := heap_lt VO.out
  have zj := heap_lt UI.out
  go_wp2_with (refine wpList_load_row rfl 40 (.tmp 10) (by rfl) b (by rfl) 40 V3.cs.toArray (0, 0) _ (by exact VO.out) Tryz.underlying40 (by rfl) (by kernel_rfl) ?_)
  (with_reducible refine (C6.out).mono ?_)
  rintro ew33' w33' ⟨V4, rfl, hV4, iH, qw33'⟩
  replace VO := hide (heap_below VO.out qw33')
  replace UI := hide (heap_below UI.out qw33')
  replace hV3 := hide ((hV3.out.next qw33'))
  replace hU1 := hide ((hU1.out.next qw33'))
  replace Q := hide (below_next Q.out Q.out.size qw33')
  clear qw33'
  clear C6
  have AV4 := hide (iH.away AV3.out (fun k h => by have : k = b ∨ k = c := h; omega))
  replace hV4 := hide hV4
  replace iH := hide iH
  clear hV3
  have Tw34' := hide (show World.there _ b 0 26 from there_heap (cs := V3.cs) VO.out)
  go_wp2_with (refine wpList_store_hid (by rfl) 40 (.tmp 10) (.tmp 149) (by rfl) b 0 V4.cs (by rfl) (by rfl) (by exact Tw34'.out) (by kernel_rfl) (by simp [Value.oneCell', Ou.cs, Fv.v, Iv.v, Bv.v]) ?_)
  intro w34' ew34'
  replace UI := hide (show w34'.heap[c]? = some (.cells U1.cs.toArray 47 (0, 0)) by rw [ew34'.out]; exact other_heap (by omega) _ _ _ UI.out)
  replace hU1 := hide (show U1.Ok w34' by rw [ew34'.out]; exact hU1.out.set AU1.out (show _ ∨ _ by omega) _ _)
  replace hV4 := hide (show V4.Ok w34' by rw [ew34'.out]; exact hV4.out.set AV4.out (show _ ∨ _ by omega) _ _)
  replace Q := hide (show Below w.heap.size w w34' by rw [ew34'.out]; exact Q.out.trans (below_setCells _ _ _ (by have := Q.out.size; omega)))
  replace VO := hide (show w34'.heap[b]? = some (.cells V4.cs.toArray 40 (0, 0)) by rw [ew34'.out]; exact whole_heap V4.cs (xs := V3.cs) VO.out rfl)
  clear ew34' Tw34'
  have d8 : V4.fill = 0 := by rw [iH.out.fill]; exact c8.out
  have dT : V4.snd.tickE = false := by rw [iH.out.snd, hS.out]; exact r7.out
  have hr : V4.right = true := by
      unfold Ou.right
      rw [iH.out.ly, c1.out, iH.out.fl, hF.out, iH.out.S, iH.out.G, c3.out, iH.out.times, c5.out, iH.out.news, c6.out, iH.out.snd, hS.out]
      show (comB nL (nF2 false x) (nVS false x) (nVS false x) 2 && (decide (([false, false] : List Bool).length = nL.sgs.length) && sndB (nS2 false x))) = true
      rw [r5.out, r6.out]; rfl
  have C7 := hide (comTickOut_ok V4 0 w34' hV4.out hr d8)
  rw [dT] at C7
  clear hr dT d8
  go_wp2_with (refine wpList_load_row rfl 40 (.tmp 10) (by rfl) b (by rfl) 40 V4.cs.toArray (0, 0) _ (by exact VO.out) Tryz.underlying40 (by rfl) (by kernel_rfl) ?_)
  (with_reducible refine (C7.out).mono ?_)
  rintro ew35' w35' ⟨V5, rfl, hV5, iJ, qw35'⟩
  replace VO := hide (heap_below VO.out qw35')
  replace UI := hide (heap_below UI.out qw35')
  replace hU1 := hide ((hU1.out.next qw35'))
  replace hV4 := hide ((hV4.out.next qw35'))
  replace Q := hide (below_next Q.out Q.out.size qw35')
  clear qw35'
  clear C7
  clear hV5 iJ
  clear hV4
  clear hU1
  have TT := World.alloc_heap_new w35' (.cells Ou.zero.cs.toArray 40)
  have zVOd : b < w35'.heap.size := heap_lt VO.out
  have zUId : c < w35'.heap.size := heap_lt UI.out
  have zQd : w.heap.size ≤ w35'.heap.size := Q.out.size
  obtain ⟨w37', hw37'⟩ : ∃ wx, wx = w35'.alloc (.cells Ou.zero.cs.toArray 40) := ⟨_, rfl⟩
  have q36' := hide (show Below w35'.heap.size w35' w37' by rw [hw37']; exact (Below.refl _ _).alloc (Nat.le_refl _) _)
  rw [← hw37'] at TT
  replace TT := hide TT
  have Tw38' := hide (show (w35'.alloc (.cells Ou.zero.cs.toArray 40)).there w35'.heap.size 0 26 by rw [← hw37']; exact there_heap (cs := Ou.zero.cs) TT.out)
  go_wp2_with (refine wpList_store_hid (by rfl) 40 (.tmp 33) (.tmp 155) (by rfl) w35'.heap.size 0 V5.cs (by rfl) (by rfl) (by exact Tw38'.out) (by kernel_rfl) (by simp [Value.oneCell', Ou.cs, Fv.v, Iv.v, Bv.v]) ?_)
  intro w38' ew38'
  replace ew38' : Hid (w38' = w37'.setCells w35'.heap.size 0 V5.cs) := by rw [hw37']; exact ew38'
  replace TT := hide (show w38'.heap[w35'.heap.size]? = some (.cells V5.cs.toArray 40 (0, 0)) by rw [ew38'.out]; exact whole_heap V5.cs (xs := Ou.zero.cs) TT.out rfl)
  replace q36' := hide (show Below w35'.heap.size w35' w38' by rw [ew38'.out]; exact q36'.out.trans (below_setCells _ _ _ (by omega)))
  clear ew38' Tw38' hw37'
  replace VO := hide (heap_below VO.out q36'.out)
  replace UI := hide (heap_below UI.out q36'.out)
  replace Q := hide (below_next Q.out Q.out.size q36'.out)
  clear q36'
  generalize w35'.heap.size = d at *
  go_wp2_with fail
  (with_reducible refine (AL.out _).mono ?_)
  rintro ew39' w39' ⟨rfl, qw39'⟩
  replace VO := hide (heap_below VO.out qw39')
  replace UI := hide (heap_below UI.out qw39')
  replace TT := hide (heap_below TT.out qw39')
  replace Q := hide (below_next Q.out Q.out.size qw39')
  clear qw39'
  clear AL
  go_wp2_with fail
  go_ret
  exact ⟨rfl, Q.out⟩

set_option maxRecDepth 100000 in
set_option maxHeartbeats 64000000 in
theorem news_walk1 (x : Nat) (y0 : Int) (hx : x < 256) (w : World) :
    Calls Tryz.prog 3 #[.int .u8 y0, .int .u8 x, .bool true] w fun e w' => e = .returned (.bool true) ∧ Below w.heap.size w w' := by
  have n1 := nAll1_all true ⟨x, hx⟩
  have n2 := nAll2_all true ⟨x, hx⟩
  have n3 := nAll3_all true ⟨x, hx⟩
  unfold nAll1 at n1
  unfold nAll2 at n2
  unfold nAll3 at n3
  simp only [Bool.and_eq_true, decide_eq_true_eq, Bool.not_eq_true'] at n1 n2 n3
  obtain ⟨⟨⟨⟨⟨⟨p1, p2⟩, p3⟩, p4⟩, p5⟩, p6⟩, p7⟩ := n1
  obtain ⟨⟨q1, q2⟩, q3⟩ := n2
  obtain ⟨⟨⟨⟨⟨⟨r1, r2⟩, r3⟩, r4⟩, r5⟩, r6⟩, r7⟩ := n3
  replace p1 := hide p1
  replace p2 := hide p2
  replace p3 := hide p3
  replace p4 := hide p4
  replace p5 := hide p5
  replace p6 := hide p6
  replace p7 := hide p7
  replace q1 := hide q1
  replace q2 := hide q2
  replace q3 := hide q3
  replace r1 := hide r1
  replace r2 := hide r2
  replace r3 := hide r3
  replace r4 := hide r4
  replace r5 := hide r5
  replace r6 := hide r6
  replace r7 := hide r7
  have hx0 : (0 : Int) ≤ (x : Int) := by omega
  have hx1 : (x : Int) < 256 := by omega
  have AL := hide (fun W => alive20_ok W)
  have Q := hide (Below.refl w.heap.size w)
  go_enter Tryz.func3, Tryz.ntmps3
  have SG := heap_below (heap_below (World.alloc_heap_new w (.cells ([.int .i64 0, .int .i64 8, .bool false, .bool false, .int .i64 8, .int .i64 8, .bool false, .bool false]).toArray 23)) ((Below.refl _ _).alloc (Nat.le_refl _) (.cells ([.int .i64 16, .int .i64 17]).toArray 3))) ((Below.refl _ _).alloc (Nat.le_refl _) (.cells ([.int .i64 0, .slice none 0 0, .slice none 0 0]).toArray 27))
  have NW := heap_below (World.alloc_heap_new (w.alloc (.cells ([.int .i64 0, .int .i64 8, .bool false, .bool false, .int .i64 8, .int .i64 8, .bool false, .bool false]).toArray 23)) (.cells ([.int .i64 16, .int .i64 17]).toArray 3)) ((Below.refl _ _).alloc (Nat.le_refl _) (.cells ([.int .i64 0, .slice none 0 0, .slice none 0 0]).toArray 27))
  have LY := World.alloc_heap_new ((w.alloc (.cells ([.int .i64 0, .int .i64 8, .bool false, .bool false, .int .i64 8, .int .i64 8, .bool false, .bool false]).toArray 23)).alloc (.cells ([.int .i64 16, .int .i64 17]).toArray 3)) (.cells ([.int .i64 0, .slice none 0 0, .slice none 0 0]).toArray 27)
  simp only [World.size_alloc] at NW LY
  have zQy : w.heap.size ≤ w.heap.size := Q.out.size
  obtain ⟨w2', hw2'⟩ : ∃ wx, wx = ((w.alloc (.cells ([.int .i64 0, .int .i64 8, .bool false, .bool false, .int .i64 8, .int .i64 8, .bool false, .bool false]).toArray 23)).alloc (.cells ([.int .i64 16, .int .i64 17]).toArray 3)).alloc (.cells ([.int .i64 0, .slice none 0 0, .slice none 0 0]).toArray 27) := ⟨_, rfl⟩
  have q1' := hide (show Below w.heap.size w w2' by rw [hw2']; exact (((Below.refl _ _).alloc (Nat.le_refl _) _).alloc (by simp <;> omega) _).alloc (by simp <;> omega) _)
  rw [← hw2'] at SG NW LY
  replace SG := hide SG
  replace NW := hide NW
  replace LY := hide LY
  have Tw3' := hide (show (((w.alloc (.cells ([.int .i64 0, .int .i64 8, .bool false, .bool false, .int .i64 8, .int .i64 8, .bool false, .bool false]).toArray 23)).alloc (.cells ([.int .i64 16, .int .i64 17]).toArray 3)).alloc (.cells ([.int .i64 0, .slice none 0 0, .slice none 0 0]).toArray 27)).there (w.heap.size + 2) 0 3 by rw [← hw2']; exact there_heap (cs := [.int .i64 0, .slice none 0 0, .slice none 0 0]) LY.out)
  go_wp2_with (refine wpList_store_hid (by rfl) 27 (.tmp 7) (.tmp 41) (by rfl) (w.heap.size + 2) 0 ([.int .i64 3, .slice (some ⟨w.heap.size, 0, none⟩) 2 2, .slice (some ⟨w.heap.size + 1, 0, none⟩) 2 2]) (by rfl) (by rfl) (by exact Tw3'.out) (by kernel_rfl) (by simp [Value.oneCell', Lv.cs]) ?_)
  intro w3' ew3'
  replace ew3' : Hid (w3' = w2'.setCells (w.heap.size + 2) 0 ([.int .i64 3, .slice (some ⟨w.heap.size, 0, none⟩) 2 2, .slice (some ⟨w.heap.size + 1, 0, none⟩) 2 2])) := by rw [hw2']; exact ew3'
  replace SG := hide (show w3'.heap[w.heap.size]? = some (.cells ([.int .i64 0, .int .i64 8, .bool false, .bool false, .int .i64 8, .int .i64 8, .bool false, .bool false]).toArray 23 (0, 0)) by rw [ew3'.out]; exact other_heap (by omega) _ _ _ SG.out)
  replace NW := hide (show w3'.heap[w.heap.size + 1]? = some (.cells ([.int .i64 16, .int .i64 17]).toArray 3 (0, 0)) by rw [ew3'.out]; exact other_heap (by omega) _ _ _ NW.out)
  replace LY := hide (show w3'.heap[w.heap.size + 2]? = some (.cells ([.int .i64 3, .slice (some ⟨w.heap.size, 0, none⟩) 2 2, .slice (some ⟨w.heap.size + 1, 0, none⟩) 2 2]).toArray 27 (0, 0)) by rw [ew3'.out]; exact whole_heap ([.int .i64 3, .slice (some ⟨w.heap.size, 0, none⟩) 2 2, .slice (some ⟨w.heap.size + 1, 0, none⟩) 2 2]) (xs := [.int .i64 0, .slice none 0 0, .slice none 0 0]) LY.out rfl)
  replace q1' := hide (show Below w.heap.size w w3' by rw [ew3'.out]; exact q1'.out.trans (below_setCells _ _ _ (by omega)))
  clear ew3' Tw3' hw2'
  replace Q := hide (below_next Q.out Q.out.size q1'.out)
  clear q1'
  have FL := heap_below (World.alloc_heap_new w3' (.cells ([.int .i64 1, .int .i64 0, .int .i64 0, .int .i64 0, .int .i64 0, .int .i64 0, .int .i64 0, .int .i64 0, .int .i64 0, .int .i64 1, .int .i64 0, .int .i64 0, .int .i64 0, .int .i64 0, .int .i64 0, .int .i64 0, .int .i64 0, .int .i64 0]).toArray 29)) ((Below.refl _ _).alloc (Nat.le_refl _) (.cells ([.int .i64 0, .int .i64 0, .int .i64 0, .int .i64 0, .int .i64 0]).toArray 32))
  have WY := World.alloc_heap_new (w3'.alloc (.cells ([.int .i64 1, .int .i64 0, .int .i64 0, .int .i64 0, .int .i64 0, .int .i64 0, .int .i64 0, .int .i64 0, .int .i64 0, .int .i64 1, .int .i64 0, .int .i64 0, .int .i64 0, .int .i64 0, .int .i64 0, .int .i64 0, .int .i64 0, .int .i64 0]).toArray 29)) (.cells ([.int .i64 0, .int .i64 0, .int .i64 0, .int .i64 0, .int .i64 0]).toArray 32)
  simp only [World.size_alloc] at WY
  have zSGz : w.heap.size < w3'.heap.size := heap_lt SG.out
  have zNWz : w.heap.size + 1 < w3'.heap.size := heap_lt NW.out
  have zLYz : w.heap.size + 2 < w3'.heap.size := heap_lt LY.out
  have zQz : w.heap.size ≤ w3'.heap.size := Q.out.size
  obtain ⟨w5', hw5'⟩ : ∃ wx, wx = (w3'.alloc (.cells ([.int .i64 1, .int .i64 0, .int .i64 0, .int .i64 0, .int .i64 0, .int .i64 0, .int .i64 0, .int .i64 0, .int .i64 0, .int .i64 1, .int .i64 0, .int .i64 0, .int .i64 0, .int .i64 0, .int .i64 0, .int .i64 0, .int .i64 0, .int .i64 0]).toArray 29)).alloc (.cells ([.int .i64 0, .int .i64 0, .int .i64 0, .int .i64 0, .int .i64 0]).toArray 32) := ⟨_, rfl⟩
  have q4' := hide (show Below w3'.heap.size w3' w5' by rw [hw5']; exact ((Below.refl _ _).alloc (Nat.le_refl _) _).alloc (by simp <;> omega) _)
  rw [← hw5'] at FL WY
  replace FL := hide FL
  replace WY := hide WY
  have Tw6' := hide (show ((w3'.alloc (.cells ([.int .i64 1, .int .i64 0, .int .i64 0, .int .i64 0, .int .i64 0, .int .i64 0, .int .i64 0, .int .i64 0, .int .i64 0, .int .i64 1, .int .i64 0, .int .i64 0, .int .i64 0, .int .i64 0, .int .i64 0, .int .i64 0, .int .i64 0, .int .i64 0]).toArray 29)).alloc (.cells ([.int .i64 0, .int .i64 0, .int .i64 0, .int .i64 0, .int .i64 0]).toArray 32)).there (w3'.heap.size + 1) 0 5 by rw [← hw5']; exact there_heap (cs := [.int .i64 0, .int .i64 0, .int .i64 0, .int .i64 0, .int .i64 0]) WY.out)
  go_wp2_with (refine wpList_store_hid (by rfl) 32 (.tmp 9) (.tmp 45) (by rfl) (w3'.heap.size + 1) 0 (wycL aWy) (by rfl) (by rfl) (by exact Tw6'.out) (by kernel_rfl) (by simp [Value.oneCell', wycL]) ?_)
  intro w6' ew6'
  replace ew6' : Hid (w6' = w5'.setCells (w3'.heap.size + 1) 0 (wycL aWy)) := by rw [hw5']; exact ew6'
  replace FL := hide (show w6'.heap[w3'.heap.size]? = some (.cells ([.int .i64 1, .int .i64 0, .int .i64 0, .int .i64 0, .int .i64 0, .int .i64 0, .int .i64 0, .int .i64 0, .int .i64 0, .int .i64 1, .int .i64 0, .int .i64 0, .int .i64 0, .int .i64 0, .int .i64 0, .int .i64 0, .int .i64 0, .int .i64 0]).toArray 29 (0, 0)) by rw [ew6'.out]; exact other_heap (by omega) _ _ _ FL.out)
  replace WY := hide (show w6'.heap[w3'.heap.size + 1]? = some (.cells (wycL aWy).toArray 32 (0, 0)) by rw [ew6'.out]; exact whole_heap (wycL aWy) (xs := [.int .i64 0, .int .i64 0, .int .i64 0, .int .i64 0, .int .i64 0]) WY.out rfl)
  replace q4' := hide (show Below w3'.heap.size w3' w6' by rw [ew6'.out]; exact q4'.out.trans (below_setCells _ _ _ (by omega)))
  clear ew6' Tw6' hw5'
  replace SG := hide (heap_below SG.out q4'.out)
  replace NW := hide (heap_below NW.out q4'.out)
  replace LY := hide (heap_below LY.out q4'.out)
  replace Q := hide (below_next Q.out Q.out.size q4'.out)
  clear q4'
  generalize w3'.heap.size = z at *
  have LY0 := LY
  have WYa := hide (heap_below WY.out (show Below w6'.heap.size w6' (w6'.alloc (.cells ([.int .i64 1, .int .i64 2]).toArray 2)) from (Below.refl _ _).alloc (Nat.le_refl _) _))
  obtain ⟨w7', hw7'⟩ : ∃ wx, wx = w6'.alloc (.cells ([.int .i64 1, .int .i64 2]).toArray 2) := ⟨_, rfl⟩
  have F0 := hide (show w7'.heap[w6'.heap.size]? = some (.cells ([.int .i64 1, .int .i64 2]).toArray 2 (0, 0)) by rw [hw7']; exact World.alloc_heap_new _ _)
  have q8' : Below w6'.heap.size w6' w7' := by rw [hw7']; exact (Below.refl _ _).alloc (Nat.le_refl _) _
  have zm : w7'.heap.size = w6'.heap.size + 1 := by rw [hw7']; simp
  have ySGm : w.heap.size < w6'.heap.size := heap_lt SG.out
  have yNWm : w.heap.size + 1 < w6'.heap.size := heap_lt NW.out
  have yLYm : w.heap.size + 2 < w6'.heap.size := heap_lt LY.out
  have yFLm : z < w6'.heap.size := heap_lt FL.out
  have yWYm : z + 1 < w6'.heap.size := heap_lt WY.out
  replace SG := hide (heap_below SG.out q8')
  replace NW := hide (heap_below NW.out q8')
  replace LY := hide (heap_below LY.out q8')
  replace FL := hide (heap_below FL.out q8')
  replace WY := hide (heap_below WY.out q8')
  replace Q := hide (below_next Q.out Q.out.size q8')
  clear q8'
  have N1 := hide (show Calls Tryz.prog 5 #[.agg #[.int .i64 3, .slice (some ⟨w.heap.size, 0, none⟩) 2 2, .slice (some ⟨w.heap.size + 1, 0, none⟩) 2 2], .int .u8 0, .slice (some ⟨w6'.heap.size, 0, none⟩) 2 2, .slice (some ⟨z, 0, none⟩) 2 2, .agg (wycL aWy).toArray, .agg (wycL aWy).toArray, .int .i64 0] w7' _ from newOut_yes ⟨nL, some ⟨w.heap.size, 0, none⟩, 2, some ⟨w.heap.size + 1, 0, none⟩, 2⟩ 0 ⟨[1, 2], some ⟨w6'.heap.size, 0, none⟩, 2⟩ ⟨nFl, some ⟨z, 0, none⟩, 2⟩ aWy aWy 0 w7' ⟨rd_rows (rows := [sgc ⟨0, 8, false, false⟩, sgc ⟨8, 8, false, false⟩]) SG.out (by simp [sgc]), rd_rows (rows := [[.int .i64 16], [.int .i64 17]]) NW.out (by simp), by simp [nL], by simp [nL], by simp [nL], by simp [nL]⟩ ⟨rd_rows (rows := [flcL aFlt, flcL aFlt]) FL.out (by simp [flcL]), by simp [nFl]⟩ ⟨rd_rows (rows := [[.int .i64 1], [.int .i64 2]]) F0.out (by simp), (show ∀ v ∈ ([1, 2] : List Int), lim v by unfold lim; decide), by simp⟩ (show (mayG 2 && (comB nL nFl (gnL [1, 2]) (gnL [1, 2]) 0 && newSndB aWy aWy 0)) = true by decide +kernel))
  go_wp2_with (first | (refine wpList_load_row rfl 27 (.tmp 7) (by rfl) (w.heap.size + 2) (by rfl) 27 ([.int .i64 3, .slice (some ⟨w.heap.size, 0, none⟩) 2 2, .slice (some ⟨w.heap.size + 1, 0, none⟩) 2 2]).toArray (0, 0) _ (by exact LY0.out) Tryz.underlying27 (by rfl) (by kernel_rfl) ?_) | (refine wpList_load_row rfl 32 (.tmp 9) (by rfl) (z + 1) (by rfl) 32 (wycL aWy).toArray (0, 0) _ (by exact WYa.out) Tryz.underlying32 (by rfl) (by kernel_rfl) ?_))
  clear LY0 WYa
  rw [← hw7']
  clear hw7'
  (with_reducible refine (N1.out).mono ?_)
  rintro ew9' w9' ⟨⟨V, rfl, hV, hVn, hVi⟩, qw9'⟩
  replace SG := hide (heap_below SG.out qw9')
  replace NW := hide (heap_below NW.out qw9')
  replace LY := hide (heap_below LY.out qw9')
  replace FL := hide (heap_below FL.out qw9')
  replace WY := hide (heap_below WY.out qw9')
  replace F0 := hide (heap_below F0.out qw9')
  replace Q := hide (below_next Q.out Q.out.size qw9')
  clear qw9'
  clear N1
  obtain ⟨N, zN, AV⟩ : ∃ N, N ≤ w9'.heap.size ∧ V.Away (fun k => N ≤ k) := ⟨_, Nat.le_refl _, hV.away⟩
  replace AV := hide AV
  have iV := hide hVi
  clear hVi hVn
  replace hV := hide hV
  clear F0 
  clear WY 
  have VO := World.alloc_heap_new w9' (.cells Ou.zero.cs.toArray 40)
  have zSGb : w.heap.size < w9'.heap.size := heap_lt SG.out
  have zNWb : w.heap.size + 1 < w9'.heap.size := heap_lt NW.out
  have zLYb : w.heap.size + 2 < w9'.heap.size := heap_lt LY.out
  have zFLb : z < w9'.heap.size := heap_lt FL.out
  have zQb : w.heap.size ≤ w9'.heap.size := Q.out.size
  obtain ⟨w11', hw11'⟩ : ∃ wx, wx = w9'.alloc (.cells Ou.zero.cs.toArray 40) := ⟨_, rfl⟩
  have q10' := hide (show Below w9'.heap.size w9' w11' by rw [hw11']; exact (Below.refl _ _).alloc (Nat.le_refl _) _)
  rw [← hw11'] at VO
  replace VO := hide VO
  have Tw12' := hide (show (w9'.alloc (.cells Ou.zero.cs.toArray 40)).there w9'.heap.size 0 26 by rw [← hw11']; exact there_heap (cs := Ou.zero.cs) VO.out)
  go_wp2_with (refine wpList_store_hid (by rfl) 40 (.tmp 10) (.tmp 53) (by rfl) w9'.heap.size 0 V.cs (by rfl) (by rfl) (by exact Tw12'.out) (by kernel_rfl) (by simp [Value.oneCell', Ou.cs, Fv.v, Iv.v, Bv.v]) ?_)
  intro w12' ew12'
  replace ew12' : Hid (w12' = w11'.setCells w9'.heap.size 0 V.cs) := by rw [hw11']; exact ew12'
  replace VO := hide (show w12'.heap[w9'.heap.size]? = some (.cells V.cs.toArray 40 (0, 0)) by rw [ew12'.out]; exact whole_heap V.cs (xs := Ou.zero.cs) VO.out rfl)
  replace q10' := hide (show Below w9'.heap.size w9' w12' by rw [ew12'.out]; exact q10'.out.trans (below_setCells _ _ _ (by omega)))
  clear ew12' Tw12' hw11'
  replace SG := hide (heap_below SG.out q10'.out)
  replace NW := hide (heap_below NW.out q10'.out)
  replace LY := hide (heap_below LY.out q10'.out)
  replace FL := hide (heap_below FL.out q10'.out)
  replace hV := hide ((hV.out.next q10'.out))
  replace Q := hide (below_next Q.out Q.out.size q10'.out)
  clear q10'
  generalize w9'.heap.size = b at *
  have LY0 := LY
  obtain ⟨w13', hw13'⟩ : ∃ wx, wx = w12'.alloc (.cells ([.int .i64 7, .int .i64 8]).toArray 2) := ⟨_, rfl⟩
  have F1 := hide (show w13'.heap[w12'.heap.size]? = some (.cells ([.int .i64 7, .int .i64 8]).toArray 2 (0, 0)) by rw [hw13']; exact World.alloc_heap_new _ _)
  have q14' : Below w12'.heap.size w12' w13' := by rw [hw13']; exact (Below.refl _ _).alloc (Nat.le_refl _) _
  have zm1 : w13'.heap.size = w12'.heap.size + 1 := by rw [hw13']; simp
  have ySGm1 : w.heap.size < w12'.heap.size := heap_lt SG.out
  have yNWm1 : w.heap.size + 1 < w12'.heap.size := heap_lt NW.out
  have yLYm1 : w.heap.size + 2 < w12'.heap.size := heap_lt LY.out
  have yFLm1 : z < w12'.heap.size := heap_lt FL.out
  have yVOm1 : b < w12'.heap.size := heap_lt VO.out
  replace SG := hide (heap_below SG.out q14')
  replace NW := hide (heap_below NW.out q14')
  replace LY := hide (heap_below LY.out q14')
  replace FL := hide (heap_below FL.out q14')
  replace VO := hide (heap_below VO.out q14')
  replace hV := hide ((hV.out.next q14'))
  replace Q := hide (below_next Q.out Q.out.size q14')
  clear q14'
  obtain ⟨w15', hw15'⟩ : ∃ wx, wx = w13'.alloc (.cells ([.int .i64 0, .int .i64 0]).toArray 2) := ⟨_, rfl⟩
  have F2 := hide (show w15'.heap[w13'.heap.size]? = some (.cells ([.int .i64 0, .int .i64 0]).toArray 2 (0, 0)) by rw [hw15']; exact World.alloc_heap_new _ _)
  have q16' : Below w13'.heap.size w13' w15' := by rw [hw15']; exact (Below.refl _ _).alloc (Nat.le_refl _) _
  have zm2 : w15'.heap.size = w13'.heap.size + 1 := by rw [hw15']; simp
  have ySGm2 : w.heap.size < w13'.heap.size := heap_lt SG.out
  have yNWm2 : w.heap.size + 1 < w13'.heap.size := heap_lt NW.out
  have yLYm2 : w.heap.size + 2 < w13'.heap.size := heap_lt LY.out
  have yFLm2 : z < w13'.heap.size := heap_lt FL.out
  have yVOm2 : b < w13'.heap.size := heap_lt VO.out
  have yF1m2 : w12'.heap.size < w13'.heap.size := heap_lt F1.out
  replace SG := hide (heap_below SG.out q16')
  replace NW := hide (heap_below NW.out q16')
  replace LY := hide (heap_below LY.out q16')
  replace FL := hide (heap_below FL.out q16')
  replace VO := hide (heap_below VO.out q16')
  replace F1 := hide (heap_below F1.out q16')
  replace hV := hide ((hV.out.next q16'))
  replace Q := hide (below_next Q.out Q.out.size q16')
  clear q16'
  have N2 := hide (show Calls Tryz.prog 6 #[.agg #[.int .i64 3, .slice (some ⟨w.heap.size, 0, none⟩) 2 2, .slice (some ⟨w.heap.size + 1, 0, none⟩) 2 2], .slice (some ⟨w12'.heap.size, 0, none⟩) 2 2, .slice (some ⟨w13'.heap.size, 0, none⟩) 2 2, .slice (some ⟨z, 0, none⟩) 2 2, .agg #[.int .i64 0, .int .i64 0, .int .i64 0, .bool false, .bool false]] w15' _ from newIn_yes ⟨nL, some ⟨w.heap.size, 0, none⟩, 2, some ⟨w.heap.size + 1, 0, none⟩, 2⟩ ⟨nFl, some ⟨z, 0, none⟩, 2⟩ ⟨[7, 8], some ⟨w12'.heap.size, 0, none⟩, 2⟩ ⟨[0, 0], some ⟨w13'.heap.size, 0, none⟩, 2⟩ zWt w15' ⟨rd_rows (rows := [sgc ⟨0, 8, false, false⟩, sgc ⟨8, 8, false, false⟩]) SG.out (by simp [sgc]), rd_rows (rows := [[.int .i64 16], [.int .i64 17]]) NW.out (by simp), by simp [nL], by simp [nL], by simp [nL], by simp [nL]⟩ ⟨rd_rows (rows := [flcL aFlt, flcL aFlt]) FL.out (by simp [flcL]), by simp [nFl]⟩ ⟨rd_rows (rows := [[.int .i64 7], [.int .i64 8]]) F1.out (by simp), (show ∀ v ∈ ([7, 8] : List Int), lim v by unfold lim; decide), by simp⟩ ⟨rd_rows (rows := [[.int .i64 0], [.int .i64 0]]) F2.out (by simp), (show ∀ v ∈ ([0, 0] : List Int), lim v by unfold lim; decide), by simp⟩ (show (comB nL nFl (gnL [7, 8]) (gnL [7, 8]) 0 && (fitA nL [0, 0] && wtB zWt)) = true by decide +kernel) (show mayG 2 = true by decide))
  rw [zm1] at N2
  go_wp2_with (refine wpList_load_row rfl 27 (.tmp 7) (by rfl) (w.heap.size + 2) (by rfl) 27 ([.int .i64 3, .slice (some ⟨w.heap.size, 0, none⟩) 2 2, .slice (some ⟨w.heap.size + 1, 0, none⟩) 2 2]).toArray (0, 0) _ (by exact LY0.out) Tryz.underlying27 (by rfl) (by kernel_rfl) ?_)
  rw [← hw13', ← hw15']
  clear hw13' hw15' LY0
  (with_reducible refine (N2.out).mono ?_)
  rintro ew17' w17' ⟨⟨U, rfl, hU, hUn, hUi⟩, qw17'⟩
  replace SG := hide (heap_below SG.out qw17')
  replace NW := hide (heap_below NW.out qw17')
  replace LY := hide (heap_below LY.out qw17')
  replace FL := hide (heap_below FL.out qw17')
  replace VO := hide (heap_below VO.out qw17')
  replace F1 := hide (heap_below F1.out qw17')
  replace F2 := hide (heap_below F2.out qw17')
  replace hV := hide ((hV.out.next qw17'))
  replace Q := hide (below_next Q.out Q.out.size qw17')
  clear qw17'
  clear N2
  obtain ⟨N2, zN2, AU⟩ : ∃ N2, N2 ≤ w17'.heap.size ∧ U.Away (fun k => (k = b) ∨ N2 ≤ k) := ⟨_, Nat.le_refl _, Inn.Away.or (S := fun k => k = b) ⟨by rw [hUi.ly]; exact ⟨offS_at (show ¬ (w.heap.size = b) by omega), offS_at (show ¬ ((w.heap.size + 1) = b) by omega)⟩, by rw [hUi.fl]; exact offS_at (show ¬ (z = b) by omega), offS_fresh hUn.S (fun k h => by have : k = b := h; omega), offS_fresh hUn.G (fun k h => by have : k = b := h; omega), by rw [hUi.subs]; exact offS_at (show ¬ ((w12'.heap.size + 1) = b) by omega)⟩ hU.away⟩
  replace AU := hide AU
  have iU := hide hUi
  clear hUi hUn
  replace hU := hide hU
  clear F1 
  clear F2 
  clear LY 
  clear FL 
  clear SG 
  clear NW 
  have UI := World.alloc_heap_new w17' (.cells Inn.zero.cs.toArray 47)
  have zVOc : b < w17'.heap.size := heap_lt VO.out
  have zQc : w.heap.size ≤ w17'.heap.size := Q.out.size
  obtain ⟨w19', hw19'⟩ : ∃ wx, wx = w17'.alloc (.cells Inn.zero.cs.toArray 47) := ⟨_, rfl⟩
  have q18' := hide (show Below w17'.heap.size w17' w19' by rw [hw19']; exact (Below.refl _ _).alloc (Nat.le_refl _) _)
  rw [← hw19'] at UI
  replace UI := hide UI
  have Tw20' := hide (show (w17'.alloc (.cells Inn.zero.cs.toArray 47)).there w17'.heap.size 0 13 by rw [← hw19']; exact there_heap (cs := Inn.zero.cs) UI.out)
  go_wp2_with (refine wpList_store_hid (by rfl) 47 (.tmp 12) (.tmp 62) (by rfl) w17'.heap.size 0 U.cs (by rfl) (by rfl) (by exact Tw20'.out) (by kernel_rfl) (by simp [Value.oneCell', Inn.cs, Fv.v, Iv.v]) ?_)
  intro w20' ew20'
  replace ew20' : Hid (w20' = w19'.setCells w17'.heap.size 0 U.cs) := by rw [hw19']; exact ew20'
  replace UI := hide (show w20'.heap[w17'.heap.size]? = some (.cells U.cs.toArray 47 (0, 0)) by rw [ew20'.out]; exact whole_heap U.cs (xs := Inn.zero.cs) UI.out rfl)
  replace q18' := hide (show Below w17'.heap.size w17' w20' by rw [ew20'.out]; exact q18'.out.trans (below_setCells _ _ _ (by omega)))
  clear ew20' Tw20' hw19'
  replace VO := hide (heap_below VO.out q18'.out)
  replace hV := hide ((hV.out.next q18'.out))
  replace hU := hide ((hU.out.next q18'.out))
  replace Q := hide (below_next Q.out Q.out.size q18'.out)
  clear q18'
  generalize w17'.heap.size = c at *
  have zbc : b < c := by omega
  replace AV := hide (show V.Away (fun k => k = b ∨ k = c) from AV.out.mono (fun k h => show N ≤ k by have : k = b ∨ k = c := h; omega))
  replace AU := hide (show U.Away (fun k => k = b ∨ k = c) from AU.out.mono (fun k h => show k = b ∨ N2 ≤ k by have : k = b ∨ k = c := h; omega))
  have hr : U.right = true := by
      unfold Inn.right
      rw [iU.out.ly, iU.out.fl, iU.out.S, iU.out.G, iU.out.times, iU.out.subs, iU.out.w]
      show (comB nL nFl [7, 8] [7, 8] 0 && (fitA nL [0, 0] && wtB zWt)) = true
      decide +kernel
  have ST := hide (comStart_ok U w20' hU.out hr)
  clear hr
  go_wp2_with (refine wpList_load_row rfl 47 (.tmp 12) (by rfl) c (by rfl) 47 U.cs.toArray (0, 0) _ (by exact UI.out) Tryz.underlying47 (by rfl) (by kernel_rfl) ?_)
  (with_reducible refine (ST.out).mono ?_)
  rintro ew21' w21' ⟨rfl, qw21'⟩
  replace VO := hide (heap_below VO.out qw21')
  replace UI := hide (heap_below UI.out qw21')
  replace hV := hide ((hV.out.next qw21'))
  replace hU := hide ((hU.out.next qw21'))
  replace Q := hide (below_next Q.out Q.out.size qw21')
  clear qw21'
  clear ST
  have Tw22' := hide (show World.there _ c 0 13 from there_heap (cs := U.cs) UI.out)
  go_wp2_with (refine wpList_store_hid (by rfl) 47 (.tmp 12) (.tmp 67) (by rfl) c 0 (({ U with w := U.w.start } : Inn).cs) (by rfl) (by rfl) (by exact Tw22'.out) (by kernel_rfl) (by simp [Value.oneCell', Inn.cs, Fv.v, Iv.v]) ?_)
  intro w22' ew22'
  replace VO := hide (show w22'.heap[b]? = some (.cells V.cs.toArray 40 (0, 0)) by rw [ew22'.out]; exact other_heap (by omega) _ _ _ VO.out)
  replace hV := hide (show V.Ok w22' by rw [ew22'.out]; exact hV.out.set AV.out (show _ ∨ _ by omega) _ _)
  replace hU := hide (show U.Ok w22' by rw [ew22'.out]; exact hU.out.set AU.out (show _ ∨ _ by omega) _ _)
  replace Q := hide (show Below w.heap.size w w22' by rw [ew22'.out]; exact Q.out.trans (below_setCells _ _ _ (by have := Q.out.size; omega)))
  replace UI := hide (show w22'.heap[c]? = some (.cells (({ U with w := U.w.start } : Inn).cs).toArray 47 (0, 0)) by rw [ew22'.out]; exact whole_heap (({ U with w := U.w.start } : Inn).cs) (xs := U.cs) UI.out rfl)
  clear ew22' Tw22'
  obtain ⟨U0, hU0⟩ : ∃ U0, U0 = ({ U with w := U.w.start } : Inn) := ⟨_, rfl⟩
  have hU0k : Hid (U0.Ok w22') := hide (by rw [hU0]; exact ⟨hU.out.ly, hU.out.fl, hU.out.S, hU.out.G, hU.out.subs⟩)
  have AU0 : Hid (U0.Away (fun k => k = b ∨ k = c)) := hide (by rw [hU0]; exact ⟨AU.out.ly, AU.out.fl, AU.out.S, AU.out.G, AU.out.subs⟩)
  have i1 : Hid (U0.ly.L = nL) := hide (by rw [hU0]; show U.ly.L = nL; rw [iU.out.ly])
  have i2 : Hid (U0.fl.l = nFl) := hide (by rw [hU0]; show U.fl.l = nFl; rw [iU.out.fl])
  have i3 : Hid (U0.S.l = [7, 8]) := hide (by rw [hU0]; exact iU.out.S)
  have i4 : Hid (U0.G.l = [7, 8]) := hide (by rw [hU0]; exact iU.out.G)
  have i5 : Hid (U0.times = 0) := hide (by rw [hU0]; exact iU.out.times)
  have i6 : Hid (U0.subs.l = [0, 0]) := hide (by rw [hU0]; show U.subs.l = [0, 0]; rw [iU.out.subs])
  have i7 : Hid (U0.w = nWt) := hide (by rw [hU0]; show U.w.start = nWt; rw [iU.out.w]; rfl)
  rw [← hU0] at UI
  clear hU0
  clear hU
  have zq1 := Q.out.size
  have hr : V.right = true := by
      unfold Ou.right
      rw [iV.out.ly, iV.out.fl, iV.out.S, iV.out.G, iV.out.times, iV.out.news, iV.out.snd]
      show (comB nL nFl [1, 2] [1, 2] 0 && (decide ((List.replicate 2 false).length = nL.sgs.length) && sndB nSnd)) = true
      decide +kernel
  have hL : V.ly.L = nL := by rw [iV.out.ly]
  have hk : 1 < V.ly.L.sgs.length := by rw [hL]; decide
  have C1 := hide (show Calls Tryz.prog 8 #[.agg V.cs.toArray, .int .i64 1, .int .i64 x] w22' _ from comWrite_ok V 1 x w22' hV.out hr hk ⟨by omega, by omega⟩ (by simp only [hL]; exact p1.out))
  replace hL := hide hL
  clear hr hk
  have za := heap_lt VO.out
  have zb := heap_lt UI.out
  go_wp2_with (refine wpList_load_row rfl 40 (.tmp 10) (by rfl) b (by rfl) 40 V.cs.toArray (0, 0) _ (by exact VO.out) Tryz.underlying40 (by rfl) (by kernel_rfl) ?_)
  (with_reducible refine (C1.out).mono ?_)
  rintro ew23' w23' ⟨V1, rfl, hV1, iW, qw23'⟩
  replace VO := hide (heap_below VO.out qw23')
  replace UI := hide (heap_below UI.out qw23')
  replace hV := hide ((hV.out.next qw23'))
  replace hU0k := hide ((hU0k.out.next qw23'))
  replace Q := hide (below_next Q.out Q.out.size qw23')
  clear qw23'
  clear C1
  have AV1 := hide (iW.away AV.out (fun k h => by have : k = b ∨ k = c := h; omega))
  replace hV1 := hide hV1
  replace iW := hide iW
  clear hV
  have a1 := hide (show V1.ly.L = nL by rw [iW.out.ly]; exact hL.out)
  have a2 := hide (show V1.fl.l = nFl by rw [iW.out.fl, iV.out.fl])
  have a3 := hide (show V1.S.l = nVS true x by rw [iW.out.S, iV.out.S]; rfl)
  have a4 := hide (show V1.G.l = [1, 2] by rw [iW.out.G, iV.out.G])
  have a5 := hide (show V1.times = 0 by rw [iW.out.times, iV.out.times])
  have a6 := hide (show V1.news.l = nNB true by rw [iW.out.news, iV.out.news]; rfl)
  have a7 := hide (show V1.snd = nSnd by rw [iW.out.snd, iV.out.snd]; rfl)
  have a8 := hide (show V1.fill = 0 by rw [iW.out.fill, iV.out.fill])
  have Tw24' := hide (show World.there _ b 0 26 from there_heap (cs := V.cs) VO.out)
  go_wp2_with (refine wpList_store_hid (by rfl) 40 (.tmp 10) (.tmp 78) (by rfl) b 0 V1.cs (by rfl) (by rfl) (by exact Tw24'.out) (by kernel_rfl) (by simp [Value.oneCell', Ou.cs, Fv.v, Iv.v, Bv.v]) ?_)
  intro w24' ew24'
  replace UI := hide (show w24'.heap[c]? = some (.cells U0.cs.toArray 47 (0, 0)) by rw [ew24'.out]; exact other_heap (by omega) _ _ _ UI.out)
  replace hU0k := hide (show U0.Ok w24' by rw [ew24'.out]; exact hU0k.out.set AU0.out (show _ ∨ _ by omega) _ _)
  replace hV1 := hide (show V1.Ok w24' by rw [ew24'.out]; exact hV1.out.set AV1.out (show _ ∨ _ by omega) _ _)
  replace Q := hide (show Below w.heap.size w w24' by rw [ew24'.out]; exact Q.out.trans (below_setCells _ _ _ (by have := Q.out.size; omega)))
  replace VO := hide (show w24'.heap[b]? = some (.cells V1.cs.toArray 40 (0, 0)) by rw [ew24'.out]; exact whole_heap V1.cs (xs := V.cs) VO.out rfl)
  clear ew24' Tw24'
  have hr : V1.right = true := by
      unfold Ou.right
      rw [a1.out, a2.out, a3.out, a4.out, a5.out, a6.out, a7.out]
      show (comB nL nFl (nVS true x) [1, 2] 0 && (decide ((nNB true).length = nL.sgs.length) && sndB nSnd)) = true
      rw [p2.out, p3.out]; rfl
  have hE : V1.gvE = true := by
      unfold Ou.gvE
      rw [a2.out, a3.out, a6.out]
      exact p4.out
  have hF : V1.gvF = nF1 true x := by
      unfold Ou.gvF
      rw [a2.out, a3.out, a6.out]
      rfl
  have hS : V1.gvS = nS1 true x := by
      unfold Ou.gvS
      rw [hF, a3.out, a7.out]
      unfold Ou.gvE
      rw [a2.out, a3.out, a6.out]
      rfl
  have C2 := hide (comGive_ok V1 w24' hV1.out hr (by rw [a5.out]; decide))
  rw [hE] at C2
  replace hF := hide hF
  replace hS := hide hS
  clear hr hE
  have zc := heap_lt VO.out
  have zd := heap_lt UI.out
  go_wp2_with (refine wpList_load_row rfl 40 (.tmp 10) (by rfl) b (by rfl) 40 V1.cs.toArray (0, 0) _ (by exact VO.out) Tryz.underlying40 (by rfl) (by kernel_rfl) ?_)
  (with_reducible refine (C2.out).mono ?_)
  rintro ew25' w25' ⟨V2, rfl, hV2, iG, qw25'⟩
  replace VO := hide (heap_below VO.out qw25')
  replace UI := hide (heap_below UI.out qw25')
  replace hU0k := hide ((hU0k.out.next qw25'))
  replace hV1 := hide ((hV1.out.next qw25'))
  replace Q := hide (below_next Q.out Q.out.size qw25')
  clear qw25'
  clear C2
  have AV2 := hide (iG.away AV1.out (fun k h => by have : k = b ∨ k = c := h; omega))
  replace hV2 := hide hV2
  replace iG := hide iG
  clear hV1
  have b1 := hide (show V2.ly.L = nL by rw [iG.out.ly]; exact a1.out)
  have b2 := hide (show V2.fl.l = nF1 true x by rw [iG.out.fl]; exact hF.out)
  have b3 := hide (show V2.S.l = nVS true x by rw [iG.out.S]; exact a3.out)
  have b4 := hide (show V2.G.l = nVS true x by rw [iG.out.G]; exact a3.out)
  have b5 := hide (show V2.times = 1 by rw [iG.out.times, a5.out]; rfl)
  have b6 := hide (show V2.news.l = nNB true by rw [iG.out.news]; exact a6.out)
  have b7 := hide (show V2.snd = nS1 true x by rw [iG.out.snd]; exact hS.out)
  have b8 := hide (show V2.fill = 0 by rw [iG.out.fill]; exact a8.out)
  have Tw26' := hide (show World.there _ b 0 26 from there_heap (cs := V1.cs) VO.out)
  go_wp2_with (refine wpList_store_hid (by rfl) 40 (.tmp 10) (.tmp 83) (by rfl) b 0 V2.cs (by rfl) (by rfl) (by exact Tw26'.out) (by kernel_rfl) (by simp [Value.oneCell', Ou.cs, Fv.v, Iv.v, Bv.v]) ?_)
  intro w26' ew26'
  replace UI := hide (show w26'.heap[c]? = some (.cells U0.cs.toArray 47 (0, 0)) by rw [ew26'.out]; exact other_heap (by omega) _ _ _ UI.out)
  replace hU0k := hide (show U0.Ok w26' by rw [ew26'.out]; exact hU0k.out.set AU0.out (show _ ∨ _ by omega) _ _)
  replace hV2 := hide (show V2.Ok w26' by rw [ew26'.out]; exact hV2.out.set AV2.out (show _ ∨ _ by omega) _ _)
  replace Q := hide (show Below w.heap.size w w26' by rw [ew26'.out]; exact Q.out.trans (below_setCells _ _ _ (by have := Q.out.size; omega)))
  replace VO := hide (show w26'.heap[b]? = some (.cells V2.cs.toArray 40 (0, 0)) by rw [ew26'.out]; exact whole_heap V2.cs (xs := V1.cs) VO.out rfl)
  clear ew26' Tw26'
  have hr : V2.right = true := by
      unfold Ou.right
      rw [b1.out, b2.out, b3.out, b4.out, b5.out, b6.out, b7.out]
      show (comB nL (nF1 true x) (nVS true x) (nVS true x) 1 && (decide ((nNB true).length = nL.sgs.length) && sndB (nS1 true x))) = true
      rw [p5.out, p6.out]; rfl
  have hT : V2.snd.tickE = true := by rw [b7.out]; exact p7.out
  have hB : V2.tkS 0 = nStr true x := by
      unfold Ou.tkS
      rw [hT, b1.out, b4.out, b6.out]
      rfl
  have C3 := hide (comTickOut_ok V2 0 w26' hV2.out hr b8.out)
  rw [hT, hB] at C3
  replace hT := hide hT
  clear hr hB
  have ze := heap_lt VO.out
  have zf := heap_lt UI.out
  go_wp2_with (refine wpList_load_row rfl 40 (.tmp 10) (by rfl) b (by rfl) 40 V2.cs.toArray (0, 0) _ (by exact VO.out) Tryz.underlying40 (by rfl) (by kernel_rfl) ?_)
  (with_reducible refine (C3.out).mono ?_)
  rintro ew27' w27' ⟨V3, rfl, hV3, iT, qw27'⟩
  replace VO := hide (heap_below VO.out qw27')
  replace UI := hide (heap_below UI.out qw27')
  replace hU0k := hide ((hU0k.out.next qw27'))
  replace hV2 := hide ((hV2.out.next qw27'))
  replace Q := hide (below_next Q.out Q.out.size qw27')
  clear qw27'
  clear C3
  have AV3 := hide (iT.away AV2.out (fun k h => by have : k = b ∨ k = c := h; omega))
  replace hV3 := hide hV3
  replace iT := hide iT
  clear hV2
  have c1 := hide (show V3.ly.L = nL by rw [iT.out.ly]; exact b1.out)
  have c2 := hide (show V3.fl.l = nF1 true x by rw [iT.out.fl]; exact b2.out)
  have c3 := hide (show V3.S.l = nVS true x by rw [iT.out.S]; exact b3.out)
  have c4 := hide (show V3.G.l = nVS true x by rw [iT.out.G]; exact b4.out)
  have c5 := hide (show V3.times = 1 by rw [iT.out.times]; exact b5.out)
  have c7 := hide (show V3.snd = (nS1 true x).tick by rw [iT.out.snd, b7.out])
  have c8 := hide (show V3.fill = 0 by rw [iT.out.fill]; exact b8.out)
  have c6 : Hid (V3.news.l = [false, false]) := hide (by
      rcases iT.out.news with ⟨_, h⟩ | ⟨h, _⟩
      · rw [hT.out] at h; cases h
      · rw [h, b6.out]; rfl)
  have Tw28' := hide (show World.there _ b 0 26 from there_heap (cs := V2.cs) VO.out)
  go_wp2_with (refine wpList_store_hid (by rfl) 40 (.tmp 10) (.tmp 89) (by rfl) b 0 V3.cs (by rfl) (by rfl) (by exact Tw28'.out) (by kernel_rfl) (by simp [Value.oneCell', Ou.cs, Fv.v, Iv.v, Bv.v]) ?_)
  intro w28' ew28'
  replace UI := hide (show w28'.heap[c]? = some (.cells U0.cs.toArray 47 (0, 0)) by rw [ew28'.out]; exact other_heap (by omega) _ _ _ UI.out)
  replace hU0k := hide (show U0.Ok w28' by rw [ew28'.out]; exact hU0k.out.set AU0.out (show _ ∨ _ by omega) _ _)
  replace hV3 := hide (show V3.Ok w28' by rw [ew28'.out]; exact hV3.out.set AV3.out (show _ ∨ _ by omega) _ _)
  replace Q := hide (show Below w.heap.size w w28' by rw [ew28'.out]; exact Q.out.trans (below_setCells _ _ _ (by have := Q.out.size; omega)))
  replace VO := hide (show w28'.heap[b]? = some (.cells V3.cs.toArray 40 (0, 0)) by rw [ew28'.out]; exact whole_heap V3.cs (xs := V2.cs) VO.out rfl)
  clear ew28' Tw28'
  have hr : U0.right = true := by
      unfold Inn.right
      rw [i1.out, i2.out, i3.out, i4.out, i5.out, i6.out, i7.out]
      show (comB nL nFl [7, 8] [7, 8] 0 && (fitA nL [0, 0] && wtB nWt)) = true
      decide +kernel
  have hO : U0.cmO (nStr true x).data.toList = nO1 true x := by
      unfold Inn.cmO
      rw [i1.out, i2.out, q2.out, q3.out]
      rfl
  have hC : U0.cmE (nStr true x).data.toList = true := by
      unfold Inn.cmE
      rw [hO]
      exact p4.out
  have hM : U0.cmV (nStr true x).data.toList = nMix true x := by
      unfold Inn.cmV
      rw [hO, i1.out, i2.out, i4.out, q2.out]
      exact r1.out
  have C4 := hide (comCome_ok U0 (nStr true x) w28' hU0k.out hr (by rw [i5.out]; decide) (by rw [i1.out, q1.out]; rfl) (by rw [i7.out]; rfl) (by rw [q1.out]; decide) (by rw [i1.out, q2.out]; intro v hv; unfold nVS at hv; simp at hv; rcases hv with rfl | rfl <;> exact ⟨by omega, by omega⟩))
  rw [hC] at C4
  replace hM := hide hM
  replace hC := hide hC
  clear hr hO
  have zg := heap_lt VO.out
  have zh := heap_lt UI.out
  go_wp2_with (refine wpList_load_row rfl 47 (.tmp 12) (by rfl) c (by rfl) 47 U0.cs.toArray (0, 0) _ (by exact UI.out) Tryz.underlying47 (by rfl) (by kernel_rfl) ?_)
  (with_reducible refine (C4.out).mono ?_)
  rintro ew29' w29' ⟨U1, rfl, hU1, iC, qw29'⟩
  replace VO := hide (heap_below VO.out qw29')
  replace UI := hide (heap_below UI.out qw29')
  replace hU0k := hide ((hU0k.out.next qw29'))
  replace hV3 := hide ((hV3.out.next qw29'))
  replace Q := hide (below_next Q.out Q.out.size qw29')
  clear qw29'
  clear C4
  have AU1 := hide (iC.away AU0.out (fun k h => by have : k = b ∨ k = c := h; omega))
  replace hU1 := hide hU1
  replace iC := hide iC
  clear hU0k
  have Tw30' := hide (show World.there _ c 0 13 from there_heap (cs := U0.cs) UI.out)
  go_wp2_with (refine wpList_store_hid (by rfl) 47 (.tmp 12) (.tmp 97) (by rfl) c 0 U1.cs (by rfl) (by rfl) (by exact Tw30'.out) (by kernel_rfl) (by simp [Value.oneCell', Inn.cs, Fv.v, Iv.v]) ?_)
  intro w30' ew30'
  replace VO := hide (show w30'.heap[b]? = some (.cells V3.cs.toArray 40 (0, 0)) by rw [ew30'.out]; exact other_heap (by omega) _ _ _ VO.out)
  replace hV3 := hide (show V3.Ok w30' by rw [ew30'.out]; exact hV3.out.set AV3.out (show _ ∨ _ by omega) _ _)
  replace hU1 := hide (show U1.Ok w30' by rw [ew30'.out]; exact hU1.out.set AU1.out (show _ ∨ _ by omega) _ _)
  replace Q := hide (show Below w.heap.size w w30' by rw [ew30'.out]; exact Q.out.trans (below_setCells _ _ _ (by have := Q.out.size; omega)))
  replace UI := hide (show w30'.heap[c]? = some (.cells U1.cs.toArray 47 (0, 0)) by rw [ew30'.out]; exact whole_heap U1.cs (xs := U0.cs) UI.out rfl)
  clear ew30' Tw30'
  have hG : U1.S.l = nMix true x ∧ U1.G.l = nMix true x ∧ U1.times = 1 ∧ U1.w = nWt.got := by
      rcases iC.out.rest with ⟨_, _, _, _, h⟩ | ⟨r1, r2, r3, r4, _, _, _⟩
      · rw [hC.out] at h
        cases h
      · exact ⟨r1.trans hM.out, r2.trans hM.out, by rw [r3, i5.out]; rfl, by rw [r4, i7.out]⟩
  obtain ⟨g1, g2, g3, g4⟩ := hG
  have g5 : U1.fl.l = nF1 true x := by
      rw [iC.out.fl, i1.out, i2.out, q2.out, q3.out]
      rfl
  have hr : U1.right = true := by
      unfold Inn.right
      rw [iC.out.ly, i1.out, g5, g1, g2, g3, g4, iC.out.subs, i6.out]
      show (comB nL (nF1 true x) (nMix true x) (nMix true x) 1 && (fitA nL [0, 0] && wtB nWt.got)) = true
      rw [r2.out]
      decide +kernel
  have D1k : 1 < U1.G.l.length := by rw [g2]; exact (show 1 < 2 by decide)
  have D1v : U1.G.l[1] = (x : Int) := by simp only [g2]; rfl
  have D1 := fun W (q : Below w30'.heap.size w30' W) => show Calls Tryz.prog 12 #[.agg U1.cs.toArray, .int .i64 1] W _ from comRead_ok U1 1 W (hU1.out.next q) hr D1k
  rw [D1v] at D1
  replace D1 := hide D1
  clear D1k D1v
  have D2k : 0 < U1.G.l.length := by rw [g2]; exact (show 0 < 2 by decide)
  have D2v : U1.G.l[0] = 7 := by simp only [g2]; rfl
  have D2 := fun W (q : Below w30'.heap.size w30' W) => show Calls Tryz.prog 12 #[.agg U1.cs.toArray, .int .i64 0] W _ from comRead_ok U1 0 W (hU1.out.next q) hr D2k
  rw [D2v] at D2
  replace D2 := hide D2
  clear D2k D2v
  clear hr g1 g2 g3 g4 g5
  have D1a := hide (D1.out w30' (Below.refl _ _))
  have QU := hide (Below.refl w30'.heap.size w30')
  go_wp2_with (refine wpList_load_row rfl 47 (.tmp 12) (by rfl) c (by rfl) 47 U1.cs.toArray (0, 0) _ (by exact UI.out) Tryz.underlying47 (by rfl) (by kernel_rfl) ?_)
  (with_reducible refine (D1a.out).mono ?_)
  rintro ew31' w31' ⟨rfl, qw31'⟩
  replace VO := hide (heap_below VO.out qw31')
  replace UI := hide (heap_below UI.out qw31')
  replace hV3 := hide ((hV3.out.next qw31'))
  replace hU1 := hide ((hU1.out.next qw31'))
  replace QU := hide ((QU.out.trans (qw31'.mono QU.out.size)))
  replace Q := hide (below_next Q.out Q.out.size qw31')
  clear qw31'
  clear D1a
  have D2a := hide (D2.out _ QU.out)
  go_wp2_with (refine wpList_load_row rfl 47 (.tmp 12) (by rfl) c (by rfl) 47 U1.cs.toArray (0, 0) _ (by exact UI.out) Tryz.underlying47 (by rfl) (by kernel_rfl) ?_)
  (with_reducible refine (D2a.out).mono ?_)
  rintro ew32' w32' ⟨rfl, qw32'⟩
  replace VO := hide (heap_below VO.out qw32')
  replace UI := hide (heap_below UI.out qw32')
  replace hV3 := hide ((hV3.out.next qw32'))
  replace hU1 := hide ((hU1.out.next qw32'))
  replace QU := hide ((QU.out.trans (qw32'.mono QU.out.size)))
  replace Q := hide (below_next Q.out Q.out.size qw32')
  clear qw32'
  clear D2a
  clear D1 D2 QU
  have hr : V3.right = true := by
      unfold Ou.right
      rw [c1.out, c2.out, c3.out, c4.out, c5.out, c6.out, c7.out]
      show (comB nL (nF1 true x) (nVS true x) (nVS true x) 1 && (decide (([false, false] : List Bool).length = nL.sgs.length) && sndB (nS1 true x).tick)) = true
      rw [p5.out, r3.out]; rfl
  have hE : V3.gvE = false := by
      unfold Ou.gvE
      rw [c2.out, c3.out, c6.out]
      have := r4.out
      have hl : (nF1 true x).length = 2 := stF_len _ _ _ _
      rw [hl]
      exact this
  have hF : V3.gvF = nF2 true x := by
      unfold Ou.gvF
      rw [c2.out, c3.out, c6.out]
      have hl : (nF1 true x).length = 2 := stF_len _ _ _ _
      rw [hl]
      rfl
  have hS : V3.gvS = nS2 true x := by
      unfold Ou.gvS
      rw [hF, hE, c3.out, c7.out]
      unfold nS2
      rw [r4.out]
  have C6 := hide (comGive_ok V3 w32' hV3.out hr (by rw [c5.out]; decide))
  rw [hE] at C6
  replace hF := hide hF
  replace hS := hide hS
  clear hr hE
  have zi := heap_lt VO.out
  have zj := heap_lt UI.out
  go_wp2_with (refine wpList_load_row rfl 40 (.tmp 10) (by rfl) b (by rfl) 40 V3.cs.toArray (0, 0) _ (by exact VO.out) Tryz.underlying40 (by rfl) (by kernel_rfl) ?_)
  (with_reducible refine (C6.out).mono ?_)
  rintro ew33' w33' ⟨V4, rfl, hV4, iH, qw33'⟩
  replace VO := hide (heap_below VO.out qw33')
  replace UI := hide (heap_below UI.out qw33')
  replace hV3 := hide ((hV3.out.next qw33'))
  replace hU1 := hide ((hU1.out.next qw33'))
  replace Q := hide (below_next Q.out Q.out.size qw33')
  clear qw33'
  clear C6
  have AV4 := hide (iH.away AV3.out (fun k h => by have : k = b ∨ k = c := h; omega))
  replace hV4 := hide hV4
  replace iH := hide iH
  clear hV3
  have Tw34' := hide (show World.there _ b 0 26 from there_heap (cs := V3.cs) VO.out)
  go_wp2_with (refine wpList_store_hid (by rfl) 40 (.tmp 10) (.tmp 149) (by rfl) b 0 V4.cs (by rfl) (by rfl) (by exact Tw34'.out) (by kernel_rfl) (by simp [Value.oneCell', Ou.cs, Fv.v, Iv.v, Bv.v]) ?_)
  intro w34' ew34'
  replace UI := hide (show w34'.heap[c]? = some (.cells U1.cs.toArray 47 (0, 0)) by rw [ew34'.out]; exact other_heap (by omega) _ _ _ UI.out)
  replace hU1 := hide (show U1.Ok w34' by rw [ew34'.out]; exact hU1.out.set AU1.out (show _ ∨ _ by omega) _ _)
  replace hV4 := hide (show V4.Ok w34' by rw [ew34'.out]; exact hV4.out.set AV4.out (show _ ∨ _ by omega) _ _)
  replace Q := hide (show Below w.heap.size w w34' by rw [ew34'.out]; exact Q.out.trans (below_setCells _ _ _ (by have := Q.out.size; omega)))
  replace VO := hide (show w34'.heap[b]? = some (.cells V4.cs.toArray 40 (0, 0)) by rw [ew34'.out]; exact whole_heap V4.cs (xs := V3.cs) VO.out rfl)
  clear ew34' Tw34'
  have d8 : V4.fill = 0 := by rw [iH.out.fill]; exact c8.out
  have dT : V4.snd.tickE = false := by rw [iH.out.snd, hS.out]; exact r7.out
  have hr : V4.right = true := by
      unfold Ou.right
      rw [iH.out.ly, c1.out, iH.out.fl, hF.out, iH.out.S, iH.out.G, c3.out, iH.out.times, c5.out, iH.out.news, c6.out, iH.out.snd, hS.out]
      show (comB nL (nF2 true x) (nVS true x) (nVS true x) 2 && (decide (([false, false] : List Bool).length = nL.sgs.length) && sndB (nS2 true x))) = true
      rw [r5.out, r6.out]; rfl
  have C7 := hide (comTickOut_ok V4 0 w34' hV4.out hr d8)
  rw [dT] at C7
  clear hr dT d8
  go_wp2_with (refine wpList_load_row rfl 40 (.tmp 10) (by rfl) b (by rfl) 40 V4.cs.toArray (0, 0) _ (by exact VO.out) Tryz.underlying40 (by rfl) (by kernel_rfl) ?_)
  (with_reducible refine (C7.out).mono ?_)
  rintro ew35' w35' ⟨V5, rfl, hV5, iJ, qw35'⟩
  replace VO := hide (heap_below VO.out qw35')
  replace UI := hide (heap_below UI.out qw35')
  replace hU1 := hide ((hU1.out.next qw35'))
  replace hV4 := hide ((hV4.out.next qw35'))
  replace Q := hide (below_next Q.out Q.out.size qw35')
  clear qw35'
  clear C7
  clear hV5 iJ
  clear hV4
  clear hU1
  have TT := World.alloc_heap_new w35' (.cells Ou.zero.cs.toArray 40)
  have zVOd : b < w35'.heap.size := heap_lt VO.out
  have zUId : c < w35'.heap.size := heap_lt UI.out
  have zQd : w.heap.size ≤ w35'.heap.size := Q.out.size
  obtain ⟨w37', hw37'⟩ : ∃ wx, wx = w35'.alloc (.cells Ou.zero.cs.toArray 40) := ⟨_, rfl⟩
  have q36' := hide (show Below w35'.heap.size w35' w37' by rw [hw37']; exact (Below.refl _ _).alloc (Nat.le_refl _) _)
  rw [← hw37'] at TT
  replace TT := hide TT
  have Tw38' := hide (show (w35'.alloc (.cells Ou.zero.cs.toArray 40)).there w35'.heap.size 0 26 by rw [← hw37']; exact there_heap (cs := Ou.zero.cs) TT.out)
  go_wp2_with (refine wpList_store_hid (by rfl) 40 (.tmp 33) (.tmp 155) (by rfl) w35'.heap.size 0 V5.cs (by rfl) (by rfl) (by exact Tw38'.out) (by kernel_rfl) (by simp [Value.oneCell', Ou.cs, Fv.v, Iv.v, Bv.v]) ?_)
  intro w38' ew38'
  replace ew38' : Hid (w38' = w37'.setCells w35'.heap.size 0 V5.cs) := by rw [hw37']; exact ew38'
  replace TT := hide (show w38'.heap[w35'.heap.size]? = some (.cells V5.cs.toArray 40 (0, 0)) by rw [ew38'.out]; exact whole_heap V5.cs (xs := Ou.zero.cs) TT.out rfl)
  replace q36' := hide (show Below w35'.heap.size w35' w38' by rw [ew38'.out]; exact q36'.out.trans (below_setCells _ _ _ (by omega)))
  clear ew38' Tw38' hw37'
  replace VO := hide (heap_below VO.out q36'.out)
  replace UI := hide (heap_below UI.out q36'.out)
  replace Q := hide (below_next Q.out Q.out.size q36'.out)
  clear q36'
  generalize w35'.heap.size = d at *
  go_wp2_with fail
  (with_reducible refine (AL.out _).mono ?_)
  rintro ew39' w39' ⟨rfl, qw39'⟩
  replace VO := hide (heap_below VO.out qw39')
  replace UI := hide (heap_below UI.out qw39')
  replace TT := hide (heap_below TT.out qw39')
  replace Q := hide (below_next Q.out Q.out.size qw39')
  clear qw39'
  clear AL
  go_wp2_with fail
  go_ret
  exact ⟨rfl, Q.out⟩
end Go.Proofs.YtnhegnneohpkaaaGreat
