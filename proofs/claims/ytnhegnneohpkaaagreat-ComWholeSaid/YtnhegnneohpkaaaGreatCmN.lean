/- com.NewOut, NewIn of what may be; campanilelaw20.pair. -/
import Derived.Test.YtnhegnneohpkaaaGreatMgCmL
namespace Go.Proofs.YtnhegnneohpkaaaGreat
open Go.ChangeShapes Go.WideShapes Go.ChangeAt Go.RowKit
open CM PD SG

structure Ou.Is (V : Ou) (ly : Lv) (fill : Int) (fl : Fv) (first : List Int) (s : Snd) : Prop where
  ly : V.ly = ly
  fill : V.fill = fill
  fl : V.fl = fl
  S : V.S.l = first
  G : V.G.l = first
  times : V.times = 0
  news : V.news.l = List.replicate first.length false
  snd : V.snd = s
structure Inn.Is (V : Inn) (ly : Lv) (fl : Fv) (first : List Int) (subs : Iv) (t : Wt) : Prop where
  ly : V.ly = ly
  fl : V.fl = fl
  S : V.S.l = first
  G : V.G.l = first
  times : V.times = 0
  subs : V.subs = subs
  w : V.w = t
theorem newOut_yes (ly : Lv) (fill : Int) (first : Iv) (fl : Fv) (yes no : Wy) (delay : Int) (w : World) (hly : ly.Ok w) (hfl : fl.Ok w) (hfi : first.Ok w) (h : newOutB ly fl first.l yes no delay = true) :
    Calls Tryz.prog 5 #[.agg ly.cs.toArray, .int .u8 fill, first.v, fl.v, .agg (wycL yes).toArray, .agg (wycL no).toArray, .int .i64 delay] w fun e w' => (∃ V : Ou, e = .returned (.tuple #[.agg V.cs.toArray, .int .i64 0]) ∧ V.Ok w' ∧ V.New w.heap.size ∧ V.Is ly fill fl first.l (sndNew yes no (passA fl.l first.l) delay)) ∧ Below w.heap.size w w' := by
  refine (newOut_any ly fill first fl yes no delay w hly hfl hfi).mono ?_
  rintro e w' ⟨⟨V, E, rfl, ok, nw, hv | hv⟩, q⟩
  · obtain ⟨_, rfl, a, b, c, d, e, f, g, i⟩ := hv
    exact ⟨⟨V, rfl, ok, nw, ⟨a, b, c, d, e, f, g, i⟩⟩, q⟩
  · rw [h] at hv
    exact absurd hv.1 (by decide)
theorem newIn_yes (ly : Lv) (fl : Fv) (first subs : Iv) (wt : Wt) (w : World) (hly : ly.Ok w) (hfl : fl.Ok w) (hfi : first.Ok w) (hsu : subs.Ok w) (h : newInB ly fl first.l subs.l wt = true) (hm : mayG first.l.length = true) :
    Calls Tryz.prog 6 #[.agg ly.cs.toArray, first.v, subs.v, fl.v, .agg (wtcL wt).toArray] w fun e w' => (∃ V : Inn, e = .returned (.tuple #[.agg V.cs.toArray, .int .i64 0]) ∧ V.Ok w' ∧ V.New w.heap.size ∧ V.Is ly fl first.l subs wt) ∧ Below w.heap.size w w' := by
  refine (newIn_any ly fl first subs wt w hly hfl hfi hsu).mono ?_
  have hg : gnL first.l = first.l := by unfold gnL; rw [if_pos hm]
  rintro e w' ⟨⟨V, E, rfl, ok, nw, hv | hv⟩, q⟩
  · obtain ⟨_, rfl, a, b, c, d, e, f, g⟩ := hv
    exact ⟨⟨V, rfl, ok, nw, ⟨a, b, by rw [c, hg], by rw [d, hg], e, f, g⟩⟩, q⟩
  · rw [h] at hv
    exact absurd hv.1 (by decide)
theorem rd_rows {W : World} {x sz : Nat} {rows : List (List Value)} {t : TypeId} {fz : Nat × Nat} (h : W.heap[x]? = some (.cells rows.flatten.toArray t fz)) (hs : ∀ r ∈ rows, r.length = sz) : Rd W W.heap.size (some ⟨x, 0, none⟩) sz rows := fun _ => by
  refine ⟨x, 0, rfl, heap_lt h, fun k row j v hk hj => ?_⟩
  have := flatten_get rows sz hs k row j v hk hj
  simp [World.cell?, h, this]
def aFlt : Flt := ⟨1, 0, 0, 0, 0, 0, 0, 0, 0⟩
def aWy : Wy := ⟨1, 0, 0, 0, 0⟩
def pL : Ly := ⟨1, [⟨0, 8, false, false⟩], [-1]⟩
def pSnd : Snd := sndNew aWy aWy (passA [aFlt] [0]) 0
def pWt : Wt := ⟨5, 5, 0, false, false⟩

set_option maxRecDepth 100000 in
set_option maxHeartbeats 32000000 in
theorem pair_ok (w : World) :
    Calls Tryz.prog 40 #[] w fun e w' => (∃ (V : Ou) (U : Inn) (ly : Lv) (fl : Fv) (su : Iv), e = .returned (.tuple #[.agg V.cs.toArray, .agg U.cs.toArray, .bool true]) ∧ V.Ok w' ∧ U.Ok w' ∧ ly.L = pL ∧ fl.l = [aFlt] ∧ su.l = [9] ∧ V.Is ly 0 fl [0] pSnd ∧ U.Is ly fl [0] su pWt.start) ∧ Below w.heap.size w w' := by
  obtain ⟨w0, hw0⟩ : ∃ w0, w0 = (w.alloc (.cells Ou.zero.cs.toArray 40)).alloc (.cells Inn.zero.cs.toArray 47) := ⟨_, rfl⟩
  have O := hide (heap_below (World.alloc_heap_new w (.cells Ou.zero.cs.toArray 40)) ((Below.refl _ (w.alloc (.cells Ou.zero.cs.toArray 40))).alloc (Nat.le_refl _) (.cells Inn.zero.cs.toArray 47)))
  have I := hide (World.alloc_heap_new (w.alloc (.cells Ou.zero.cs.toArray 40)) (.cells Inn.zero.cs.toArray 47))
  have Q : Hid (Below w.heap.size w w0) := by rw [hw0]; exact hide (((Below.refl w.heap.size w).alloc (Nat.le_refl _) (.cells Ou.zero.cs.toArray 40)).alloc (by simp; try omega) (.cells Inn.zero.cs.toArray 47))
  rw [← hw0] at O I
  simp only [World.size_alloc] at I
  go_enter Tryz.func40, Tryz.ntmps40
  go_upto_region 1 with fail
  change Code.wp _ _ _ _ ((w.alloc (.cells Ou.zero.cs.toArray 40)).alloc (.cells Inn.zero.cs.toArray 47))
  rw [← hw0]
  clear hw0
  have SG := heap_below (heap_below (World.alloc_heap_new w0 (.cells ([.int .i64 0, .int .i64 8, .bool false, .bool false]).toArray 23)) ((Below.refl _ _).alloc (Nat.le_refl _) (.cells ([.int .i64 (-1)]).toArray 3))) ((Below.refl _ _).alloc (Nat.le_refl _) (.cells ([.int .i64 0, .slice none 0 0, .slice none 0 0]).toArray 27))
  have NW := heap_below (World.alloc_heap_new (w0.alloc (.cells ([.int .i64 0, .int .i64 8, .bool false, .bool false]).toArray 23)) (.cells ([.int .i64 (-1)]).toArray 3)) ((Below.refl _ _).alloc (Nat.le_refl _) (.cells ([.int .i64 0, .slice none 0 0, .slice none 0 0]).toArray 27))
  have LY := World.alloc_heap_new ((w0.alloc (.cells ([.int .i64 0, .int .i64 8, .bool false, .bool false]).toArray 23)).alloc (.cells ([.int .i64 (-1)]).toArray 3)) (.cells ([.int .i64 0, .slice none 0 0, .slice none 0 0]).toArray 27)
  simp only [World.size_alloc] at NW LY
  have zOy : w.heap.size < w0.heap.size := heap_lt O.out
  have zIy : w.heap.size + 1 < w0.heap.size := heap_lt I.out
  have zQy : w.heap.size ≤ w0.heap.size := Q.out.size
  obtain ⟨w2', hw2'⟩ : ∃ wx, wx = ((w0.alloc (.cells ([.int .i64 0, .int .i64 8, .bool false, .bool false]).toArray 23)).alloc (.cells ([.int .i64 (-1)]).toArray 3)).alloc (.cells ([.int .i64 0, .slice none 0 0, .slice none 0 0]).toArray 27) := ⟨_, rfl⟩
  have q1' := hide (show Below w0.heap.size w0 w2' by rw [hw2']; exact (((Below.refl _ _).alloc (Nat.le_refl _) _).alloc (by simp <;> omega) _).alloc (by simp <;> omega) _)
  rw [← hw2'] at SG NW LY
  replace SG := hide SG
  replace NW := hide NW
  replace LY := hide LY
  have Tw3' := hide (show (((w0.alloc (.cells ([.int .i64 0, .int .i64 8, .bool false, .bool false]).toArray 23)).alloc (.cells ([.int .i64 (-1)]).toArray 3)).alloc (.cells ([.int .i64 0, .slice none 0 0, .slice none 0 0]).toArray 27)).there (w0.heap.size + 2) 0 3 by rw [← hw2']; exact there_heap (cs := [.int .i64 0, .slice none 0 0, .slice none 0 0]) LY.out)
  go_wp2_with (refine wpList_store_hid (by rfl) 27 (.tmp 3) (.tmp 14) (by rfl) (w0.heap.size + 2) 0 ([.int .i64 1, .slice (some ⟨w0.heap.size, 0, none⟩) 1 1, .slice (some ⟨w0.heap.size + 1, 0, none⟩) 1 1]) (by rfl) (by rfl) (by exact Tw3'.out) (by kernel_rfl) (by simp [Value.oneCell', Lv.cs]) ?_)
  intro w3' ew3'
  replace ew3' : Hid (w3' = w2'.setCells (w0.heap.size + 2) 0 ([.int .i64 1, .slice (some ⟨w0.heap.size, 0, none⟩) 1 1, .slice (some ⟨w0.heap.size + 1, 0, none⟩) 1 1])) := by rw [hw2']; exact ew3'
  replace SG := hide (show w3'.heap[w0.heap.size]? = some (.cells ([.int .i64 0, .int .i64 8, .bool false, .bool false]).toArray 23 (0, 0)) by rw [ew3'.out]; exact other_heap (by omega) _ _ _ SG.out)
  replace NW := hide (show w3'.heap[w0.heap.size + 1]? = some (.cells ([.int .i64 (-1)]).toArray 3 (0, 0)) by rw [ew3'.out]; exact other_heap (by omega) _ _ _ NW.out)
  replace LY := hide (show w3'.heap[w0.heap.size + 2]? = some (.cells ([.int .i64 1, .slice (some ⟨w0.heap.size, 0, none⟩) 1 1, .slice (some ⟨w0.heap.size + 1, 0, none⟩) 1 1]).toArray 27 (0, 0)) by rw [ew3'.out]; exact whole_heap ([.int .i64 1, .slice (some ⟨w0.heap.size, 0, none⟩) 1 1, .slice (some ⟨w0.heap.size + 1, 0, none⟩) 1 1]) (xs := [.int .i64 0, .slice none 0 0, .slice none 0 0]) LY.out rfl)
  replace q1' := hide (show Below w0.heap.size w0 w3' by rw [ew3'.out]; exact q1'.out.trans (below_setCells _ _ _ (by omega)))
  clear ew3' Tw3' hw2'
  replace O := hide (heap_below O.out q1'.out)
  replace I := hide (heap_below I.out q1'.out)
  replace Q := hide (below_next Q.out Q.out.size q1'.out)
  clear q1'
  generalize w0.heap.size = y at *
  have FL := heap_below (World.alloc_heap_new w3' (.cells ([.int .i64 1, .int .i64 0, .int .i64 0, .int .i64 0, .int .i64 0, .int .i64 0, .int .i64 0, .int .i64 0, .int .i64 0]).toArray 29)) ((Below.refl _ _).alloc (Nat.le_refl _) (.cells ([.int .i64 0, .int .i64 0, .int .i64 0, .int .i64 0, .int .i64 0]).toArray 32))
  have WY := World.alloc_heap_new (w3'.alloc (.cells ([.int .i64 1, .int .i64 0, .int .i64 0, .int .i64 0, .int .i64 0, .int .i64 0, .int .i64 0, .int .i64 0, .int .i64 0]).toArray 29)) (.cells ([.int .i64 0, .int .i64 0, .int .i64 0, .int .i64 0, .int .i64 0]).toArray 32)
  simp only [World.size_alloc] at WY
  have zOz : w.heap.size < w3'.heap.size := heap_lt O.out
  have zIz : w.heap.size + 1 < w3'.heap.size := heap_lt I.out
  have zSGz : y < w3'.heap.size := heap_lt SG.out
  have zNWz : y + 1 < w3'.heap.size := heap_lt NW.out
  have zLYz : y + 2 < w3'.heap.size := heap_lt LY.out
  have zQz : w.heap.size ≤ w3'.heap.size := Q.out.size
  obtain ⟨w5', hw5'⟩ : ∃ wx, wx = (w3'.alloc (.cells ([.int .i64 1, .int .i64 0, .int .i64 0, .int .i64 0, .int .i64 0, .int .i64 0, .int .i64 0, .int .i64 0, .int .i64 0]).toArray 29)).alloc (.cells ([.int .i64 0, .int .i64 0, .int .i64 0, .int .i64 0, .int .i64 0]).toArray 32) := ⟨_, rfl⟩
  have q4' := hide (show Below w3'.heap.size w3' w5' by rw [hw5']; exact ((Below.refl _ _).alloc (Nat.le_refl _) _).alloc (by simp <;> omega) _)
  rw [← hw5'] at FL WY
  replace FL := hide FL
  replace WY := hide WY
  have Tw6' := hide (show ((w3'.alloc (.cells ([.int .i64 1, .int .i64 0, .int .i64 0, .int .i64 0, .int .i64 0, .int .i64 0, .int .i64 0, .int .i64 0, .int .i64 0]).toArray 29)).alloc (.cells ([.int .i64 0, .int .i64 0, .int .i64 0, .int .i64 0, .int .i64 0]).toArray 32)).there (w3'.heap.size + 1) 0 5 by rw [← hw5']; exact there_heap (cs := [.int .i64 0, .int .i64 0, .int .i64 0, .int .i64 0, .int .i64 0]) WY.out)
  go_wp2_with (refine wpList_store_hid (by rfl) 32 (.tmp 5) (.tmp 17) (by rfl) (w3'.heap.size + 1) 0 (wycL aWy) (by rfl) (by rfl) (by exact Tw6'.out) (by kernel_rfl) (by simp [Value.oneCell', wycL]) ?_)
  intro w6' ew6'
  replace ew6' : Hid (w6' = w5'.setCells (w3'.heap.size + 1) 0 (wycL aWy)) := by rw [hw5']; exact ew6'
  replace FL := hide (show w6'.heap[w3'.heap.size]? = some (.cells ([.int .i64 1, .int .i64 0, .int .i64 0, .int .i64 0, .int .i64 0, .int .i64 0, .int .i64 0, .int .i64 0, .int .i64 0]).toArray 29 (0, 0)) by rw [ew6'.out]; exact other_heap (by omega) _ _ _ FL.out)
  replace WY := hide (show w6'.heap[w3'.heap.size + 1]? = some (.cells (wycL aWy).toArray 32 (0, 0)) by rw [ew6'.out]; exact whole_heap (wycL aWy) (xs := [.int .i64 0, .int .i64 0, .int .i64 0, .int .i64 0, .int .i64 0]) WY.out rfl)
  replace q4' := hide (show Below w3'.heap.size w3' w6' by rw [ew6'.out]; exact q4'.out.trans (below_setCells _ _ _ (by omega)))
  clear ew6' Tw6' hw5'
  replace O := hide (heap_below O.out q4'.out)
  replace I := hide (heap_below I.out q4'.out)
  replace SG := hide (heap_below SG.out q4'.out)
  replace NW := hide (heap_below NW.out q4'.out)
  replace LY := hide (heap_below LY.out q4'.out)
  replace Q := hide (below_next Q.out Q.out.size q4'.out)
  clear q4'
  generalize w3'.heap.size = z at *
  have LY0 := LY
  have WYa := hide (heap_below WY.out (show Below w6'.heap.size w6' (w6'.alloc (.cells ([.int .i64 0]).toArray 2)) from (Below.refl _ _).alloc (Nat.le_refl _) _))
  obtain ⟨w7', hw7'⟩ : ∃ wx, wx = w6'.alloc (.cells ([.int .i64 0]).toArray 2) := ⟨_, rfl⟩
  have F0 := hide (show w7'.heap[w6'.heap.size]? = some (.cells ([.int .i64 0]).toArray 2 (0, 0)) by rw [hw7']; exact World.alloc_heap_new _ _)
  have q8' : Below w6'.heap.size w6' w7' := by rw [hw7']; exact (Below.refl _ _).alloc (Nat.le_refl _) _
  have zm : w7'.heap.size = w6'.heap.size + 1 := by rw [hw7']; simp
  have yOm : w.heap.size < w6'.heap.size := heap_lt O.out
  have yIm : w.heap.size + 1 < w6'.heap.size := heap_lt I.out
  have ySGm : y < w6'.heap.size := heap_lt SG.out
  have yNWm : y + 1 < w6'.heap.size := heap_lt NW.out
  have yLYm : y + 2 < w6'.heap.size := heap_lt LY.out
  have yFLm : z < w6'.heap.size := heap_lt FL.out
  have yWYm : z + 1 < w6'.heap.size := heap_lt WY.out
  replace O := hide (heap_below O.out q8')
  replace I := hide (heap_below I.out q8')
  replace SG := hide (heap_below SG.out q8')
  replace NW := hide (heap_below NW.out q8')
  replace LY := hide (heap_below LY.out q8')
  replace FL := hide (heap_below FL.out q8')
  replace WY := hide (heap_below WY.out q8')
  replace Q := hide (below_next Q.out Q.out.size q8')
  clear q8'
  have N1 := hide (show Calls Tryz.prog 5 #[.agg #[.int .i64 1, .slice (some ⟨y, 0, none⟩) 1 1, .slice (some ⟨y + 1, 0, none⟩) 1 1], .int .u8 0, .slice (some ⟨w6'.heap.size, 0, none⟩) 1 1, .slice (some ⟨z, 0, none⟩) 1 1, .agg (wycL aWy).toArray, .agg (wycL aWy).toArray, .int .i64 0] w7' _ from newOut_yes ⟨pL, some ⟨y, 0, none⟩, 1, some ⟨y + 1, 0, none⟩, 1⟩ 0 ⟨[0], some ⟨w6'.heap.size, 0, none⟩, 1⟩ ⟨[aFlt], some ⟨z, 0, none⟩, 1⟩ aWy aWy 0 w7' ⟨rd_rows (rows := [sgc ⟨0, 8, false, false⟩]) SG.out (by simp [sgc]), rd_rows (rows := [[.int .i64 (-1)]]) NW.out (by simp), by simp [pL], by simp [pL], by simp [pL], by simp [pL]⟩ ⟨rd_rows (rows := [flcL aFlt]) FL.out (by simp [flcL]), by simp⟩ ⟨rd_rows (rows := [[.int .i64 0]]) F0.out (by simp), by intro v hv; rw [List.mem_singleton.1 hv]; exact ⟨by decide, by decide⟩, by simp⟩ (show (mayG 1 && (comB pL [aFlt] (gnL [0]) (gnL [0]) 0 && newSndB aWy aWy 0)) = true by decide +kernel))
  go_wp2_with (first | (refine wpList_load_row rfl 27 (.tmp 3) (by rfl) (y + 2) (by rfl) 27 ([.int .i64 1, .slice (some ⟨y, 0, none⟩) 1 1, .slice (some ⟨y + 1, 0, none⟩) 1 1]).toArray (0, 0) _ (by exact LY0.out) Tryz.underlying27 (by rfl) (by kernel_rfl) ?_) | (refine wpList_load_row rfl 32 (.tmp 5) (by rfl) (z + 1) (by rfl) 32 (wycL aWy).toArray (0, 0) _ (by exact WYa.out) Tryz.underlying32 (by rfl) (by kernel_rfl) ?_))
  clear LY0 WYa
  rw [← hw7']
  clear hw7'
  (with_reducible refine (N1.out).mono ?_)
  rintro ew9' w9' ⟨⟨V, rfl, hV, hVn, hVi⟩, qw9'⟩
  replace O := hide (heap_below O.out qw9')
  replace I := hide (heap_below I.out qw9')
  replace SG := hide (heap_below SG.out qw9')
  replace NW := hide (heap_below NW.out qw9')
  replace LY := hide (heap_below LY.out qw9')
  replace FL := hide (heap_below FL.out qw9')
  replace WY := hide (heap_below WY.out qw9')
  replace F0 := hide (heap_below F0.out qw9')
  replace Q := hide (below_next Q.out Q.out.size qw9')
  clear qw9'
  clear N1
  have zq := Q.out.size
  obtain ⟨NV, zNV, AV⟩ : ∃ N, N ≤ w9'.heap.size ∧ V.Away (fun k => (k = w.heap.size ∨ k = w.heap.size + 1) ∨ N ≤ k) := ⟨_, Nat.le_refl _, Ou.Away.or (S := fun k => k = w.heap.size ∨ k = w.heap.size + 1) ⟨by rw [hVi.ly]; exact ⟨offS_at (show ¬ (y = w.heap.size ∨ y = w.heap.size + 1) by omega), offS_at (show ¬ ((y + 1) = w.heap.size ∨ (y + 1) = w.heap.size + 1) by omega)⟩, by rw [hVi.fl]; exact offS_at (show ¬ (z = w.heap.size ∨ z = w.heap.size + 1) by omega), offS_fresh hVn.S (fun k h => by have : k = w.heap.size ∨ k = w.heap.size + 1 := h; omega), offS_fresh hVn.G (fun k h => by have : k = w.heap.size ∨ k = w.heap.size + 1 := h; omega), offS_fresh hVn.news (fun k h => by have : k = w.heap.size ∨ k = w.heap.size + 1 := h; omega)⟩ hV.away⟩
  replace AV := hide AV
  have HVI := hide hVi
  clear hVi hVn
  replace hV := hide hV
  clear F0 
  clear WY 
  have VO := World.alloc_heap_new w9' (.cells Ou.zero.cs.toArray 40)
  have zOb : w.heap.size < w9'.heap.size := heap_lt O.out
  have zIb : w.heap.size + 1 < w9'.heap.size := heap_lt I.out
  have zSGb : y < w9'.heap.size := heap_lt SG.out
  have zNWb : y + 1 < w9'.heap.size := heap_lt NW.out
  have zLYb : y + 2 < w9'.heap.size := heap_lt LY.out
  have zFLb : z < w9'.heap.size := heap_lt FL.out
  have zQb : w.heap.size ≤ w9'.heap.size := Q.out.size
  obtain ⟨w11', hw11'⟩ : ∃ wx, wx = w9'.alloc (.cells Ou.zero.cs.toArray 40) := ⟨_, rfl⟩
  have q10' := hide (show Below w9'.heap.size w9' w11' by rw [hw11']; exact (Below.refl _ _).alloc (Nat.le_refl _) _)
  rw [← hw11'] at VO
  replace VO := hide VO
  have Tw12' := hide (show (w9'.alloc (.cells Ou.zero.cs.toArray 40)).there w9'.heap.size 0 26 by rw [← hw11']; exact there_heap (cs := Ou.zero.cs) VO.out)
  go_wp2_with (refine wpList_store_hid (by rfl) 40 (.tmp 6) (.tmp 25) (by rfl) w9'.heap.size 0 V.cs (by rfl) (by rfl) (by exact Tw12'.out) (by kernel_rfl) (by simp [Value.oneCell', Ou.cs, Fv.v, Iv.v, Bv.v]) ?_)
  intro w12' ew12'
  replace ew12' : Hid (w12' = w11'.setCells w9'.heap.size 0 V.cs) := by rw [hw11']; exact ew12'
  replace VO := hide (show w12'.heap[w9'.heap.size]? = some (.cells V.cs.toArray 40 (0, 0)) by rw [ew12'.out]; exact whole_heap V.cs (xs := Ou.zero.cs) VO.out rfl)
  replace q10' := hide (show Below w9'.heap.size w9' w12' by rw [ew12'.out]; exact q10'.out.trans (below_setCells _ _ _ (by omega)))
  clear ew12' Tw12' hw11'
  replace O := hide (heap_below O.out q10'.out)
  replace I := hide (heap_below I.out q10'.out)
  replace SG := hide (heap_below SG.out q10'.out)
  replace NW := hide (heap_below NW.out q10'.out)
  replace LY := hide (heap_below LY.out q10'.out)
  replace FL := hide (heap_below FL.out q10'.out)
  replace hV := hide ((hV.out.next q10'.out))
  replace Q := hide (below_next Q.out Q.out.size q10'.out)
  clear q10'
  generalize w9'.heap.size = b at *
  have LY0 := LY
  obtain ⟨w13', hw13'⟩ : ∃ wx, wx = w12'.alloc (.cells ([.int .i64 0]).toArray 2) := ⟨_, rfl⟩
  have F1 := hide (show w13'.heap[w12'.heap.size]? = some (.cells ([.int .i64 0]).toArray 2 (0, 0)) by rw [hw13']; exact World.alloc_heap_new _ _)
  have q14' : Below w12'.heap.size w12' w13' := by rw [hw13']; exact (Below.refl _ _).alloc (Nat.le_refl _) _
  have zm1 : w13'.heap.size = w12'.heap.size + 1 := by rw [hw13']; simp
  have yOm1 : w.heap.size < w12'.heap.size := heap_lt O.out
  have yIm1 : w.heap.size + 1 < w12'.heap.size := heap_lt I.out
  have ySGm1 : y < w12'.heap.size := heap_lt SG.out
  have yNWm1 : y + 1 < w12'.heap.size := heap_lt NW.out
  have yLYm1 : y + 2 < w12'.heap.size := heap_lt LY.out
  have yFLm1 : z < w12'.heap.size := heap_lt FL.out
  have yVOm1 : b < w12'.heap.size := heap_lt VO.out
  replace O := hide (heap_below O.out q14')
  replace I := hide (heap_below I.out q14')
  replace SG := hide (heap_below SG.out q14')
  replace NW := hide (heap_below NW.out q14')
  replace LY := hide (heap_below LY.out q14')
  replace FL := hide (heap_below FL.out q14')
  replace VO := hide (heap_below VO.out q14')
  replace hV := hide ((hV.out.next q14'))
  replace Q := hide (below_next Q.out Q.out.size q14')
  clear q14'
  obtain ⟨w15', hw15'⟩ : ∃ wx, wx = w13'.alloc (.cells ([.int .i64 9]).toArray 2) := ⟨_, rfl⟩
  have F2 := hide (show w15'.heap[w13'.heap.size]? = some (.cells ([.int .i64 9]).toArray 2 (0, 0)) by rw [hw15']; exact World.alloc_heap_new _ _)
  have q16' : Below w13'.heap.size w13' w15' := by rw [hw15']; exact (Below.refl _ _).alloc (Nat.le_refl _) _
  have zm2 : w15'.heap.size = w13'.heap.size + 1 := by rw [hw15']; simp
  have yOm2 : w.heap.size < w13'.heap.size := heap_lt O.out
  have yIm2 : w.heap.size + 1 < w13'.heap.size := heap_lt I.out
  have ySGm2 : y < w13'.heap.size := heap_lt SG.out
  have yNWm2 : y + 1 < w13'.heap.size := heap_lt NW.out
  have yLYm2 : y + 2 < w13'.heap.size := heap_lt LY.out
  have yFLm2 : z < w13'.heap.size := heap_lt FL.out
  have yVOm2 : b < w13'.heap.size := heap_lt VO.out
  have yF1m2 : w12'.heap.size < w13'.heap.size := heap_lt F1.out
  replace O := hide (heap_below O.out q16')
  replace I := hide (heap_below I.out q16')
  replace SG := hide (heap_below SG.out q16')
  replace NW := hide (heap_below NW.out q16')
  replace LY := hide (heap_below LY.out q16')
  replace FL := hide (heap_below FL.out q16')
  replace VO := hide (heap_below VO.out q16')
  replace F1 := hide (heap_below F1.out q16')
  replace hV := hide ((hV.out.next q16'))
  replace Q := hide (below_next Q.out Q.out.size q16')
  clear q16'
  have N2 := hide (show Calls Tryz.prog 6 #[.agg #[.int .i64 1, .slice (some ⟨y, 0, none⟩) 1 1, .slice (some ⟨y + 1, 0, none⟩) 1 1], .slice (some ⟨w12'.heap.size, 0, none⟩) 1 1, .slice (some ⟨w13'.heap.size, 0, none⟩) 1 1, .slice (some ⟨z, 0, none⟩) 1 1, .agg #[.int .i64 5, .int .i64 5, .int .i64 0, .bool false, .bool false]] w15' _ from newIn_yes ⟨pL, some ⟨y, 0, none⟩, 1, some ⟨y + 1, 0, none⟩, 1⟩ ⟨[aFlt], some ⟨z, 0, none⟩, 1⟩ ⟨[0], some ⟨w12'.heap.size, 0, none⟩, 1⟩ ⟨[9], some ⟨w13'.heap.size, 0, none⟩, 1⟩ pWt w15' ⟨rd_rows (rows := [sgc ⟨0, 8, false, false⟩]) SG.out (by simp [sgc]), rd_rows (rows := [[.int .i64 (-1)]]) NW.out (by simp), by simp [pL], by simp [pL], by simp [pL], by simp [pL]⟩ ⟨rd_rows (rows := [flcL aFlt]) FL.out (by simp [flcL]), by simp⟩ ⟨rd_rows (rows := [[.int .i64 0]]) F1.out (by simp), by intro v hv; rw [List.mem_singleton.1 hv]; exact ⟨by decide, by decide⟩, by simp⟩ ⟨rd_rows (rows := [[.int .i64 9]]) F2.out (by simp), by intro v hv; rw [List.mem_singleton.1 hv]; exact ⟨by decide, by decide⟩, by simp⟩ (show (comB pL [aFlt] (gnL [0]) (gnL [0]) 0 && (fitA pL [9] && wtB pWt)) = true by decide +kernel) (show mayG 1 = true by decide))
  rw [zm1] at N2
  go_wp2_with (refine wpList_load_row rfl 27 (.tmp 3) (by rfl) (y + 2) (by rfl) 27 ([.int .i64 1, .slice (some ⟨y, 0, none⟩) 1 1, .slice (some ⟨y + 1, 0, none⟩) 1 1]).toArray (0, 0) _ (by exact LY0.out) Tryz.underlying27 (by rfl) (by kernel_rfl) ?_)
  rw [← hw13', ← hw15']
  clear hw13' hw15' LY0
  (with_reducible refine (N2.out).mono ?_)
  rintro ew17' w17' ⟨⟨U, rfl, hU, hUn, hUi⟩, qw17'⟩
  replace O := hide (heap_below O.out qw17')
  replace I := hide (heap_below I.out qw17')
  replace SG := hide (heap_below SG.out qw17')
  replace NW := hide (heap_below NW.out qw17')
  replace LY := hide (heap_below LY.out qw17')
  replace FL := hide (heap_below FL.out qw17')
  replace VO := hide (heap_below VO.out qw17')
  replace F1 := hide (heap_below F1.out qw17')
  replace F2 := hide (heap_below F2.out qw17')
  replace hV := hide ((hV.out.next qw17'))
  replace Q := hide (below_next Q.out Q.out.size qw17')
  clear qw17'
  clear N2
  obtain ⟨NU, zNU, AU⟩ : ∃ N, N ≤ w17'.heap.size ∧ U.Away (fun k => (k = w.heap.size ∨ k = w.heap.size + 1) ∨ N ≤ k) := ⟨_, Nat.le_refl _, Inn.Away.or (S := fun k => k = w.heap.size ∨ k = w.heap.size + 1) ⟨by rw [hUi.ly]; exact ⟨offS_at (show ¬ (y = w.heap.size ∨ y = w.heap.size + 1) by omega), offS_at (show ¬ ((y + 1) = w.heap.size ∨ (y + 1) = w.heap.size + 1) by omega)⟩, by rw [hUi.fl]; exact offS_at (show ¬ (z = w.heap.size ∨ z = w.heap.size + 1) by omega), offS_fresh hUn.S (fun k h => by have : k = w.heap.size ∨ k = w.heap.size + 1 := h; omega), offS_fresh hUn.G (fun k h => by have : k = w.heap.size ∨ k = w.heap.size + 1 := h; omega), by rw [hUi.subs]; exact offS_at (show ¬ ((w12'.heap.size + 1) = w.heap.size ∨ (w12'.heap.size + 1) = w.heap.size + 1) by omega)⟩ hU.away⟩
  replace AU := hide AU
  have HUI := hide hUi
  clear hUi hUn
  replace hU := hide hU
  clear F1 
  clear F2 
  clear LY 
  clear FL 
  clear SG 
  clear NW 
  have UI := World.alloc_heap_new w17' (.cells Inn.zero.cs.toArray 47)
  have zOc : w.heap.size < w17'.heap.size := heap_lt O.out
  have zIc : w.heap.size + 1 < w17'.heap.size := heap_lt I.out
  have zVOc : b < w17'.heap.size := heap_lt VO.out
  have zQc : w.heap.size ≤ w17'.heap.size := Q.out.size
  obtain ⟨w19', hw19'⟩ : ∃ wx, wx = w17'.alloc (.cells Inn.zero.cs.toArray 47) := ⟨_, rfl⟩
  have q18' := hide (show Below w17'.heap.size w17' w19' by rw [hw19']; exact (Below.refl _ _).alloc (Nat.le_refl _) _)
  rw [← hw19'] at UI
  replace UI := hide UI
  have Tw20' := hide (show (w17'.alloc (.cells Inn.zero.cs.toArray 47)).there w17'.heap.size 0 13 by rw [← hw19']; exact there_heap (cs := Inn.zero.cs) UI.out)
  go_wp2_with (refine wpList_store_hid (by rfl) 47 (.tmp 8) (.tmp 34) (by rfl) w17'.heap.size 0 U.cs (by rfl) (by rfl) (by exact Tw20'.out) (by kernel_rfl) (by simp [Value.oneCell', Inn.cs, Fv.v, Iv.v]) ?_)
  intro w20' ew20'
  replace ew20' : Hid (w20' = w19'.setCells w17'.heap.size 0 U.cs) := by rw [hw19']; exact ew20'
  replace UI := hide (show w20'.heap[w17'.heap.size]? = some (.cells U.cs.toArray 47 (0, 0)) by rw [ew20'.out]; exact whole_heap U.cs (xs := Inn.zero.cs) UI.out rfl)
  replace q18' := hide (show Below w17'.heap.size w17' w20' by rw [ew20'.out]; exact q18'.out.trans (below_setCells _ _ _ (by omega)))
  clear ew20' Tw20' hw19'
  replace O := hide (heap_below O.out q18'.out)
  replace I := hide (heap_below I.out q18'.out)
  replace VO := hide (heap_below VO.out q18'.out)
  replace hV := hide ((hV.out.next q18'.out))
  replace hU := hide ((hU.out.next q18'.out))
  replace Q := hide (below_next Q.out Q.out.size q18'.out)
  clear q18'
  generalize w17'.heap.size = c at *
  have hr : U.right = true := by
      unfold Inn.right
      rw [HUI.out.ly, HUI.out.fl, HUI.out.S, HUI.out.G, HUI.out.times, HUI.out.subs, HUI.out.w]
      show (comB pL [aFlt] [0] [0] 0 && (fitA pL [9] && wtB pWt)) = true
      decide +kernel
  have ST := hide (comStart_ok U w20' hU.out hr)
  clear hr
  go_wp2_with (refine wpList_load_row rfl 47 (.tmp 8) (by rfl) c (by rfl) 47 U.cs.toArray (0, 0) _ (by exact UI.out) Tryz.underlying47 (by rfl) (by kernel_rfl) ?_)
  (with_reducible refine (ST.out).mono ?_)
  rintro ew21' w21' ⟨rfl, qw21'⟩
  replace O := hide (heap_below O.out qw21')
  replace I := hide (heap_below I.out qw21')
  replace VO := hide (heap_below VO.out qw21')
  replace UI := hide (heap_below UI.out qw21')
  replace hV := hide ((hV.out.next qw21'))
  replace hU := hide ((hU.out.next qw21'))
  replace Q := hide (below_next Q.out Q.out.size qw21')
  clear qw21'
  clear ST
  have zO9 := heap_lt O.out
  have zI9 := heap_lt I.out
  have Tw22' := hide (show World.there _ c 0 13 from there_heap (cs := U.cs) UI.out)
  go_wp2_with (refine wpList_store_hid (by rfl) 47 (.tmp 8) (.tmp 39) (by rfl) c 0 (({ U with w := U.w.start } : Inn).cs) (by rfl) (by rfl) (by exact Tw22'.out) (by kernel_rfl) (by simp [Value.oneCell', Inn.cs, Fv.v, Iv.v]) ?_)
  intro w22' ew22'
  replace O := hide (show w22'.heap[w.heap.size]? = some (.cells Ou.zero.cs.toArray 40 (0, 0)) by rw [ew22'.out]; exact other_heap (by omega) _ _ _ O.out)
  replace I := hide (show w22'.heap[w.heap.size + 1]? = some (.cells Inn.zero.cs.toArray 47 (0, 0)) by rw [ew22'.out]; exact other_heap (by omega) _ _ _ I.out)
  replace VO := hide (show w22'.heap[b]? = some (.cells V.cs.toArray 40 (0, 0)) by rw [ew22'.out]; exact other_heap (by omega) _ _ _ VO.out)
  replace hV := hide (show V.Ok w22' by rw [ew22'.out]; exact hV.out.set AV.out (show (_ ∨ _) ∨ _ by omega) _ _)
  replace hU := hide (show U.Ok w22' by rw [ew22'.out]; exact hU.out.set AU.out (show (_ ∨ _) ∨ _ by omega) _ _)
  replace Q := hide (show Below w.heap.size w w22' by rw [ew22'.out]; exact Q.out.trans (below_setCells _ _ _ (by have := Q.out.size; omega)))
  replace UI := hide (show w22'.heap[c]? = some (.cells (({ U with w := U.w.start } : Inn).cs).toArray 47 (0, 0)) by rw [ew22'.out]; exact whole_heap (({ U with w := U.w.start } : Inn).cs) (xs := U.cs) UI.out rfl)
  clear ew22' Tw22'
  go_upto_region 7 with fail
  refine wp_region_L [0, 1, 2, 3, 4, 5, 6, 7, 8, 9, 10, 11] [(0, fun W => W.rangeAt b 0 V.cs), (1, fun W => W.rangeAt c 0 ({ U with w := U.w.start } : Inn).cs)] (by kernel_rfl) ?_
  replace O := hide (show w22'.drew.heap[w.heap.size]? = some (.cells Ou.zero.cs.toArray 40 (0, 0)) from O.out)
  replace I := hide (show w22'.drew.heap[w.heap.size + 1]? = some (.cells Inn.zero.cs.toArray 47 (0, 0)) from I.out)
  replace VO := hide (show w22'.drew.heap[b]? = some (.cells V.cs.toArray 40 (0, 0)) from VO.out)
  replace UI := hide (show w22'.drew.heap[c]? = some (.cells (({ U with w := U.w.start } : Inn).cs).toArray 47 (0, 0)) from UI.out)
  replace hV := hide (show V.Ok (w22'.drew) from (hV.out.next ((Below.refl w22'.heap.size w22').drew)))
  replace hU := hide (show U.Ok (w22'.drew) from (hU.out.next ((Below.refl w22'.heap.size w22').drew)))
  replace Q := hide (show Below w.heap.size w w22'.drew from Q.out.drew)
  generalize w22'.drew = w23' at *
  refine wpAnyL_load (i := 0) (v := .agg V.cs.toArray) rfl rfl (by kernel_rfl) (by kernel_rfl) (by kernel_rfl) (by kernel_rfl) (by kernel_rfl) (fun _ _ _ h => h) rfl (fun W h => exec_load W b 0 40 V.cs _ h Tryz.underlying40 rfl (by kernel_rfl) _ _ (.tmp 6) (by rfl) (by rfl)) (range_heap VO.out) ?_
  go_simp
  refine wpAnyL_load (i := 1) (v := .agg ({ U with w := U.w.start } : Inn).cs.toArray) rfl rfl (by kernel_rfl) (by kernel_rfl) (by kernel_rfl) (by kernel_rfl) (by kernel_rfl) (fun _ _ _ h => h) rfl (fun W h => exec_load W c 0 47 ({ U with w := U.w.start } : Inn).cs _ h Tryz.underlying47 rfl (by kernel_rfl) _ _ (.tmp 8) (by rfl) (by rfl)) (range_heap UI.out) ?_
  go_simp
  refine wpAnyL_pure (i := 2) (v := .int .i64 0) rfl rfl (by kernel_rfl) (by kernel_rfl) (by kernel_rfl) (by kernel_rfl) (by kernel_rfl) (fun _ _ _ h => h) rfl (fun W => by go_simp) ?_
  go_simp
  refine wpAnyL_pure (i := 3) (v := .bool true) rfl rfl (by kernel_rfl) (by kernel_rfl) (by kernel_rfl) (by kernel_rfl) (by kernel_rfl) (fun _ _ _ h => h) rfl (fun W => by go_simp) ?_
  go_simp
  refine wpAnyL_pure (i := 4) (v := .bool true) rfl rfl (by kernel_rfl) (by kernel_rfl) (by kernel_rfl) (by kernel_rfl) (by kernel_rfl) (fun _ _ _ h => h) rfl (fun W => by go_simp) ?_
  go_simp
  refine wpAnyL_pureG (i := 5) (v := .int .i64 0) rfl rfl (by kernel_rfl) (by kernel_rfl) (by kernel_rfl) (by kernel_rfl) (by kernel_rfl) (fun _ _ _ h => h) (by kernel_rfl) (fun W => by go_simp) ?_
  go_simp
  refine wpAnyL_pureG (i := 6) (v := .bool true) rfl rfl (by kernel_rfl) (by kernel_rfl) (by kernel_rfl) (by kernel_rfl) (by kernel_rfl) (fun _ _ _ h => h) (by kernel_rfl) (fun W => by go_simp) ?_
  go_simp
  refine wpAnyL_pure (i := 7) (v := .bool true) rfl rfl (by kernel_rfl) (by kernel_rfl) (by kernel_rfl) (by kernel_rfl) (by kernel_rfl) (fun _ _ _ h => h) rfl (fun W => by go_simp) ?_
  go_simp
  refine wpAnyL_pure (i := 8) (v := .bool true) rfl rfl (by kernel_rfl) (by kernel_rfl) (by kernel_rfl) (by kernel_rfl) (by kernel_rfl) (fun _ _ _ h => h) rfl (fun W => by go_simp) ?_
  go_simp
  refine wpAnyL_pureG (i := 9) (v := .int .i64 0) rfl rfl (by kernel_rfl) (by kernel_rfl) (by kernel_rfl) (by kernel_rfl) (by kernel_rfl) (fun _ _ _ h => h) (by kernel_rfl) (fun W => by go_simp) ?_
  go_simp
  refine wpAnyL_pureG (i := 10) (v := .bool true) rfl rfl (by kernel_rfl) (by kernel_rfl) (by kernel_rfl) (by kernel_rfl) (by kernel_rfl) (fun _ _ _ h => h) (by kernel_rfl) (fun W => by go_simp) ?_
  go_simp
  refine wpAnyL_pure (i := 11) (v := .bool true) rfl rfl (by kernel_rfl) (by kernel_rfl) (by kernel_rfl) (by kernel_rfl) (by kernel_rfl) (fun _ _ _ h => h) rfl (fun W => by go_simp) ?_
  go_simp
  refine wpAnyL_one (i := 12) (by kernel_rfl) ?_
  refine wpOp_do rfl rfl ?_
  have Tw24' := hide (show World.there _ w.heap.size 0 26 from there_heap (cs := Ou.zero.cs) O.out)
  refine wp_store_as 40 (.tmp 0) (.tmp 41) rfl w.heap.size 0 V.cs (by rfl) (by rfl) (by exact Tw24'.out) (by kernel_rfl) (by simp [Value.oneCell', Ou.cs, Fv.v, Iv.v, Bv.v]) ?_
  intro w24' ew24'
  replace I := hide (show w24'.heap[w.heap.size + 1]? = some (.cells Inn.zero.cs.toArray 47 (0, 0)) by rw [ew24']; exact other_heap (by omega) _ _ _ I.out)
  replace VO := hide (show w24'.heap[b]? = some (.cells V.cs.toArray 40 (0, 0)) by rw [ew24']; exact other_heap (by omega) _ _ _ VO.out)
  replace UI := hide (show w24'.heap[c]? = some (.cells (({ U with w := U.w.start } : Inn).cs).toArray 47 (0, 0)) by rw [ew24']; exact other_heap (by omega) _ _ _ UI.out)
  replace hV := hide (show V.Ok w24' by rw [ew24']; exact hV.out.set AV.out (show (_ ∨ _) ∨ _ by omega) _ _)
  replace hU := hide (show U.Ok w24' by rw [ew24']; exact hU.out.set AU.out (show (_ ∨ _) ∨ _ by omega) _ _)
  replace Q := hide (show Below w.heap.size w w24' by rw [ew24']; exact Q.out.trans (below_setCells _ _ _ (by have := Q.out.size; omega)))
  replace O := hide (show w24'.heap[w.heap.size]? = some (.cells V.cs.toArray 40 (0, 0)) by rw [ew24']; exact whole_heap V.cs (xs := Ou.zero.cs) O.out rfl)
  clear ew24' Tw24'
  refine ⟨keepsL_mk (by kernel_rfl) (.cons (range_heap VO.out) (.cons (range_heap UI.out) .nil)), ?_⟩
  go_simp
  refine wpAnyL_one (i := 13) (by kernel_rfl) ?_
  refine wpOp_do rfl rfl ?_
  have Tw25' := hide (show World.there _ (w.heap.size + 1) 0 13 from there_heap (cs := Inn.zero.cs) I.out)
  refine wp_store_as 47 (.tmp 1) (.tmp 42) rfl (w.heap.size + 1) 0 (({ U with w := U.w.start } : Inn).cs) (by rfl) (by rfl) (by exact Tw25'.out) (by kernel_rfl) (by simp [Value.oneCell', Inn.cs, Fv.v, Iv.v]) ?_
  intro w25' ew25'
  replace O := hide (show w25'.heap[w.heap.size]? = some (.cells V.cs.toArray 40 (0, 0)) by rw [ew25']; exact other_heap (by omega) _ _ _ O.out)
  replace VO := hide (show w25'.heap[b]? = some (.cells V.cs.toArray 40 (0, 0)) by rw [ew25']; exact other_heap (by omega) _ _ _ VO.out)
  replace UI := hide (show w25'.heap[c]? = some (.cells (({ U with w := U.w.start } : Inn).cs).toArray 47 (0, 0)) by rw [ew25']; exact other_heap (by omega) _ _ _ UI.out)
  replace hV := hide (show V.Ok w25' by rw [ew25']; exact hV.out.set AV.out (show (_ ∨ _) ∨ _ by omega) _ _)
  replace hU := hide (show U.Ok w25' by rw [ew25']; exact hU.out.set AU.out (show (_ ∨ _) ∨ _ by omega) _ _)
  replace Q := hide (show Below w.heap.size w w25' by rw [ew25']; exact Q.out.trans (below_setCells _ _ _ (by have := Q.out.size; omega)))
  replace I := hide (show w25'.heap[w.heap.size + 1]? = some (.cells (({ U with w := U.w.start } : Inn).cs).toArray 47 (0, 0)) by rw [ew25']; exact whole_heap (({ U with w := U.w.start } : Inn).cs) (xs := Inn.zero.cs) I.out rfl)
  clear ew25' Tw25'
  refine ⟨keepsL_mk (by kernel_rfl) (.cons (range_heap VO.out) (.cons (range_heap UI.out) .nil)), ?_⟩
  go_simp
  refine wpAnyL_one (i := 14) (by kernel_rfl) ?_
  refine wpOp_do rfl rfl ?_
  go_simp
  refine ⟨keepsL_mk (by kernel_rfl) (.cons (range_heap VO.out) (.cons (range_heap UI.out) .nil)), ?_⟩
  go_simp
  refine wpAnyL_done (by kernel_rfl) ?_ _
  go_wp2_with fail
  refine bodyPost_ret (results_cell2_tmp (by rfl) _ w25' (w.heap.size) (w.heap.size + 1) 40 47 V.cs.toArray (({ U with w := U.w.start } : Inn).cs).toArray (0, 0) (0, 0) _ _ (.bool true) (by rfl) (by rfl) (by rfl) O.out I.out Tryz.underlying40 (by rfl) (by kernel_rfl) Tryz.underlying47 (by rfl) (by kernel_rfl)) rfl ⟨⟨V, { U with w := U.w.start }, ⟨pL, some ⟨y, 0, none⟩, 1, some ⟨y + 1, 0, none⟩, 1⟩, ⟨[aFlt], some ⟨z, 0, none⟩, 1⟩, ⟨[9], _, _⟩, rfl, hV.out, ⟨hU.out.ly, hU.out.fl, hU.out.S, hU.out.G, hU.out.subs⟩, rfl, rfl, rfl, HVI.out, ⟨HUI.out.ly, HUI.out.fl, HUI.out.S, HUI.out.G, HUI.out.times, HUI.out.subs, by show U.w.start = _; rw [HUI.out.w]⟩⟩, Q.out⟩
end Go.Proofs.YtnhegnneohpkaaaGreat
