import Derived.Test.YtkmddjbialpppaaGreatDoorNdO
namespace Go.Proofs.YtkmddjbialpppaaGreatDoor
open Go.ChangeShapes Go.WideShapes Go.ChangeAt Go.RowKit
open CM PD SG ND
set_option maxRecDepth 100000 in
set_option maxHeartbeats 16000000 in
theorem ndWant_q (n n1 n2 : Nd) (k : Nat) (on : Bool) (w : World) (ho : n.Ok w) (hsh : n.shape = true) (hk : k < 16) (hm : memB n.pn.mem k = true) (hp : n.pn.Rt) (hn : nmB n.nm = true) (htv : tvB n.tv = true) (hsm : smB n.sm = true) (hn1 : n1 = { n with pn := n.pn.want k on, nm := n.nm.want ((n.pn.want k on).own != 0) })
    (hcase : (n1.up = true ∧ n1.sm.wants = false ∧ n2 = n1.rise0 ∧ n.is = []) ∨ (n1.up = n1.sm.wants ∧ n2 = n1)) (hq : (n2.up && n2.sm.st == 1) = false ∨ n2.ctl.has = true ∨ 0 ≤ n2.fi.has ∨ n2.fi.m = []) :
    Calls Tryz.prog 19 #[.agg n.cs.toArray, .int .i64 k, .bool on] w fun e w' => ∃ A c, e = .returned (.tuple #[.agg n2.cs.toArray, .slice A (dC n n2).length c, .int .i64 0]) ∧ Rd w' w'.heap.size A 3 ((dC n n2).map tdL) ∧ Fresh w.heap.size A ∧ Below w.heap.size w w' := by
  obtain ⟨w0, hw0⟩ : ∃ w0, w0 = (((w.alloc (.cells n.cs.toArray 53)).alloc (.cells (([.int .i64 k] : List Value)).toArray 3)).alloc (.cells (([.bool on] : List Value)).toArray 4)).alloc (.cells zNd.cs.toArray 53) := ⟨_, rfl⟩
  have M := aA (aB (aB (aB (World.alloc_heap_new w (.cells n.cs.toArray 53)) ((Below.refl _ (w.alloc (.cells n.cs.toArray 53))).alloc (Nat.le_refl _) (.cells (([.int .i64 k] : List Value)).toArray 3))) ((Below.refl _ ((w.alloc (.cells n.cs.toArray 53)).alloc (.cells (([.int .i64 k] : List Value)).toArray 3))).alloc (Nat.le_refl _) (.cells (([.bool on] : List Value)).toArray 4))) ((Below.refl _ (((w.alloc (.cells n.cs.toArray 53)).alloc (.cells (([.int .i64 k] : List Value)).toArray 3)).alloc (.cells (([.bool on] : List Value)).toArray 4))).alloc (Nat.le_refl _) (.cells zNd.cs.toArray 53)))
  have P0 := aA (aB (aB (World.alloc_heap_new (w.alloc (.cells n.cs.toArray 53)) (.cells (([.int .i64 k] : List Value)).toArray 3)) ((Below.refl _ ((w.alloc (.cells n.cs.toArray 53)).alloc (.cells (([.int .i64 k] : List Value)).toArray 3))).alloc (Nat.le_refl _) (.cells (([.bool on] : List Value)).toArray 4))) ((Below.refl _ (((w.alloc (.cells n.cs.toArray 53)).alloc (.cells (([.int .i64 k] : List Value)).toArray 3)).alloc (.cells (([.bool on] : List Value)).toArray 4))).alloc (Nat.le_refl _) (.cells zNd.cs.toArray 53)))
  have P1 := aA (aB (World.alloc_heap_new ((w.alloc (.cells n.cs.toArray 53)).alloc (.cells (([.int .i64 k] : List Value)).toArray 3)) (.cells (([.bool on] : List Value)).toArray 4)) ((Below.refl _ (((w.alloc (.cells n.cs.toArray 53)).alloc (.cells (([.int .i64 k] : List Value)).toArray 3)).alloc (.cells (([.bool on] : List Value)).toArray 4))).alloc (Nat.le_refl _) (.cells zNd.cs.toArray 53)))
  have R := aA (World.alloc_heap_new (((w.alloc (.cells n.cs.toArray 53)).alloc (.cells (([.int .i64 k] : List Value)).toArray 3)).alloc (.cells (([.bool on] : List Value)).toArray 4)) (.cells zNd.cs.toArray 53))
  have Q : Hid (Below w.heap.size w w0) := by rw [hw0]; exact aA (((((Below.refl w.heap.size w).alloc (Nat.le_refl _) (.cells n.cs.toArray 53)).alloc (by simp; try omega) (.cells (([.int .i64 k] : List Value)).toArray 3)).alloc (by simp; try omega) (.cells (([.bool on] : List Value)).toArray 4)).alloc (by simp; try omega) (.cells zNd.cs.toArray 53))
  rw [← hw0] at M P0 P1 R
  simp only [World.size_alloc] at P0 P1 R
  replace P1 := aA (show w0.heap[w.heap.size + 2]? = some (.cells (([.bool on] : List Value)).toArray 4 (0, 0)) from P1.out)
  replace R := aA (show w0.heap[w.heap.size + 3]? = some (.cells zNd.cs.toArray 53 (0, 0)) from R.out)
  have z0 := aH P0.out
  have z1 := aH P1.out
  have o0 := ho.next Q.out
  have CL := aA (ndCall2 n n1 n2 [] (dC n n2) 56 (w.heap.size + 1) (w.heap.size + 2) (fun _ _ => by kernel_rfl) w0 o0 hsh
    (aA fun b W hb hbW q hB => (ndWant1 ⟨n, [], none, 0, false⟩ rfl k on (n.pn.want k on) (n.nm.want ((n.pn.want k on).own != 0)) b (w.heap.size + 1) (w.heap.size + 2) W hk hm hp hn rfl rfl hB (aB P0.out q) (aB P1.out q)).mono fun e W' ⟨a, b1, k1⟩ => ⟨none, 0, a, by rw [hn1]; exact b1, Own.nil, k1.mono fun j _ h => .inl h⟩)
    (aA fun b N W A c hb hbN hN q hB hO => ndSettle_q n1 n n2 [] A c N b W hbN hN (by simp) hB hO (by
      rcases hcase with ⟨a1, a2, a3, a4⟩ | h
      · have k1 := fJ o0.fi.r
        rw [List.length_map] at k1
        have k2 : OffS (fun j => j = b) n.fi.A n.fi.m.length := k1.mono fun j hj => by rw [hj]; exact hb
        exact .inl ⟨a1, a2, a3, by rw [hn1]; exact htv, by rw [hn1]; exact hsm, by rw [hn1]; exact (o0.next q).fi, by rw [hn1]; exact k2, by rw [hn1]; exact a4⟩
      · exact .inr h) hq))
  generalize dC n n2 = l2 at *
  clear ho o0 hsh hk hm hp hn htv hsm hcase hq z0 z1
  go_enter Tryz.func19, Tryz.ntmps19
  go_upto_region 1 with fail
  change Code.wp _ _ _ _ ((((w.alloc (.cells n.cs.toArray 53)).alloc (.cells (([.int .i64 k] : List Value)).toArray 3)).alloc (.cells (([.bool on] : List Value)).toArray 4)).alloc (.cells zNd.cs.toArray 53))
  rw [← hw0]
  clear hw0
  go_wp2_with (refine wpList_load_row rfl 53 (.tmp 3) (by rfl) w.heap.size (by rfl) 53 n.cs.toArray (0, 0) _ (by exact M.out) Tryz.underlying53 (by rfl) (by kernel_rfl) ?_)
  (with_reducible refine (CL.out).mono ?_)
  rintro ew1' w1' ⟨A, c, rfl, rd, fr, qw1'⟩
  have zR := aH R.out
  have FR := aA (show Fresh w.heap.size A from fr.mono Q.out.size)
  have O_RA_R := aA (show dZ A (l2.map tdL).length (w.heap.size + 3) from aW fr (by have := aH R.out; omega))
  have RA := aA rd
  replace R := aA (aB R.out qw1')
  replace Q := aA (aC Q.out Q.out.size qw1')
  clear M P0 P1 qw1' CL rd fr
  have Tw2' := aA (show World.there _ (w.heap.size + 3) 0 91 from aK (cs := zNd.cs) R.out)
  go_wp2_with (refine aF (by rfl) 53 (.tmp 6) (.tmp 12) (by rfl) (w.heap.size + 3) 0 n2.cs (by rfl) (by rfl) (by exact Tw2'.out) (by kernel_rfl) (by exact dB _) ?_)
  intro w2' ew2'
  replace RA := aA (show Rd w2' w2'.heap.size A 3 (l2.map tdL) by rw [ew2'.out]; exact bJ RA.out O_RA_R.out _ _)
  replace Q := aA (show Below w.heap.size w w2' by rw [ew2'.out]; exact Q.out.trans (aE _ _ _ (by have := Q.out.size; omega)))
  replace R := aA (show w2'.heap[w.heap.size + 3]? = some (.cells n2.cs.toArray 53 (0, 0)) by rw [ew2'.out]; exact aJ n2.cs (xs := zNd.cs) R.out rfl)
  clear ew2' Tw2'
  go_wp2_with fail
  refine bodyPost_ret (eO (by rfl) _ w2' (w.heap.size + 3) 53 n2.cs.toArray (0, 0) _ (.slice A l2.length c) (.int .i64 0) (by rfl) (by rfl) (by rfl) R.out Tryz.underlying53 (by rfl) (by kernel_rfl)) rfl ⟨A, c, rfl, RA.out, FR.out, Q.out⟩
namespace ND
def slpT (v : Int) : Tv := ⟨true, 1024, 2032, false, 2, kC v, 31, 3, 0, false, false, false, false⟩
end ND
set_option maxRecDepth 100000 in
set_option maxHeartbeats 16000000 in
theorem sleeper28 (v : Int) (hv : 0 ≤ v ∧ v < 65536) (w : World) :
    Calls Tryz.prog 18 #[.int .u16 v] w fun e w' => e = .returned (.agg (bD (slpT v)).toArray) ∧ Below w.heap.size w w' := by
  obtain ⟨w0, hw0⟩ : ∃ w0, w0 = w.alloc (.cells (bD eX).toArray 27) := ⟨_, rfl⟩
  have R := aA (World.alloc_heap_new w (.cells (bD eX).toArray 27))
  have Q : Hid (Below w.heap.size w w0) := by rw [hw0]; exact aA ((Below.refl w.heap.size w).alloc (Nat.le_refl _) (.cells (bD eX).toArray 27))
  rw [← hw0] at R
  go_enter Tryz.func18, Tryz.ntmps18
  go_upto_region 1 with fail
  change Code.wp _ _ _ _ (w.alloc (.cells (bD eX).toArray 27))
  rw [← hw0]
  clear hw0
  have hcv : (convert 140 9 (.slice (some ⟨w0.heap.size, 0, none⟩) 2 2)).run Tryz.prog (w0.alloc (.cells #[.int .u8 (v % 256), .int .u8 (v / 256)] 5)) = .ok (.string (kC v)) (w0.alloc (.cells #[.int .u8 (v % 256), .int .u8 (v / 256)] 5)) := by
    have h1 : ((UInt8.ofNat (v % 256).toNat).toNat : Int) = v % 256 := by simp; omega
    have h2 : ((UInt8.ofNat (v / 256 % 256).toNat).toNat : Int) = v / 256 := by simp; omega
    rw [← h1, ← h2]
    exact eE _ _ _ _ Tryz.underlying140 Tryz.underlying5 Tryz.underlying9 w0.heap.size 2 2 [UInt8.ofNat (v % 256).toNat, UInt8.ofNat (v / 256 % 256).toNat] rfl (fun i hi => by
      rcases i with _ | _ | i
      · exact (by simp only [World.cell?, World.alloc_heap_new]; rfl)
      · exact (by simp only [World.cell?, World.alloc_heap_new]; rfl)
      · exact absurd hi (by simp))
  obtain ⟨hv1, hv2⟩ := hv
  have hg : slpT v = ⟨true, 1024, 2032, false, 2, kC v, 31, 3, 0, false, false, false, false⟩ := rfl
  have TR := aA (show World.there (w0.alloc (.cells #[.int .u8 (v % 256), .int .u8 (v / 256)] 5)) w.heap.size 0 13 from aK (cs := bD eX) (aB R.out ((Below.refl _ _).alloc (Nat.le_refl _) _)))
  go_wp2_with (refine aF (by rfl) 27 (.tmp 2) (.tmp 10) (by rfl) w.heap.size 0 (bD (⟨true, 1024, 2032, false, 2, kC v, 31, 3, 0, false, false, false, false⟩ : Tv)) (by rfl) (by rfl) (by exact TR.out) (by kernel_rfl) (by simp [Value.oneCell', bD]) ?_)
  intro w2 e2
  have R2 := aA (show w2.heap[w.heap.size]? = some (.cells (bD (⟨true, 1024, 2032, false, 2, kC v, 31, 3, 0, false, false, false, false⟩ : Tv)).toArray 27 (0, 0)) by rw [e2.out]; exact aJ (bD (⟨true, 1024, 2032, false, 2, kC v, 31, 3, 0, false, false, false, false⟩ : Tv)) (xs := bD eX) (aB R.out ((Below.refl _ _).alloc (Nat.le_refl _) _)) rfl)
  have Q2 := aA (show Below w.heap.size w w2 by rw [e2.out]; exact (aC Q.out Q.out.size ((Below.refl _ _).alloc (Nat.le_refl _) _)).trans (aE _ _ _ (Nat.le_refl _)))
  clear e2 TR hcv
  go_wp2_with fail
  refine bodyPost_ret (results_cell_row (p := 2) (ty := 27) (by rfl) _ w2 w.heap.size 27 (bD (⟨true, 1024, 2032, false, 2, kC v, 31, 3, 0, false, false, false, false⟩ : Tv)).toArray (0, 0) _ (by rfl) R2.out Tryz.underlying27 (by rfl) (by kernel_rfl)) rfl ⟨rfl, Q2.out⟩
namespace ND
def fastLy : Ly := ⟨1, [⟨0, 8, false, false⟩], [-1]⟩
def aFl : Flt := ⟨1, 0, 0, 0, 0, 0, 0, 0, 0⟩
def fastPd (z : Nat) : Pd := ⟨5, 0, 2, ⟨fastLy, some ⟨z, 0, none⟩, 1, some ⟨z + 1, 0, none⟩, 1⟩, 0, ⟨[0], some ⟨z + 1 + 1, 0, none⟩, 1⟩, ⟨[9], some ⟨z + 1 + 1 + 1, 0, none⟩, 1⟩, ⟨[aFl], some ⟨z + 1 + 1 + 1 + 1, 0, none⟩, 1⟩, ⟨1, 0, 0, 0, 0⟩, ⟨1, 0, 0, 0, 0⟩, 0, 0⟩
def iO (z y : Nat) : Cf := ⟨2, [fastPd z], some ⟨y, 0, none⟩, 1, 1024, 0, 2, 5, 3, 200⟩
end ND
set_option maxRecDepth 100000 in
set_option maxHeartbeats 16000000 in
theorem fast28 (w : World) :
    Calls Tryz.prog 17 #[] w fun e w' => ∃ z y, e = .returned (.agg (iO z y).cs.toArray) ∧ (iO z y).Ok w' ∧ Below w.heap.size w w' := by
  obtain ⟨w0, hw0⟩ : ∃ w0, w0 = w.alloc (.cells zCf.cs.toArray 25) := ⟨_, rfl⟩
  have R := aA (World.alloc_heap_new w (.cells zCf.cs.toArray 25))
  have Q : Hid (Below w.heap.size w w0) := by rw [hw0]; exact aA ((Below.refl w.heap.size w).alloc (Nat.le_refl _) (.cells zCf.cs.toArray 25))
  rw [← hw0] at R
  go_enter Tryz.func17, Tryz.ntmps17
  go_upto_region 1 with fail
  change Code.wp _ _ _ _ (w.alloc (.cells zCf.cs.toArray 25))
  rw [← hw0]
  clear hw0
  have X := World.alloc_heap_new w0 (.cells (eA ⟨0, 0, 0, 0, 0⟩).toArray 73)
  have zRx : w.heap.size < w0.heap.size := aH R.out
  have zQx : w.heap.size ≤ w0.heap.size := Q.out.size
  obtain ⟨w2', hw2'⟩ : ∃ wx, wx = w0.alloc (.cells (eA ⟨0, 0, 0, 0, 0⟩).toArray 73) := ⟨_, rfl⟩
  have q1' := aA (show Below w0.heap.size w0 w2' by rw [hw2']; exact (Below.refl _ _).alloc (Nat.le_refl _) _)
  rw [← hw2'] at X
  replace X := aA X
  have Tw3' := aA (show (w0.alloc (.cells (eA ⟨0, 0, 0, 0, 0⟩).toArray 73)).there w0.heap.size 0 5 by rw [← hw2']; exact aK (cs := eA ⟨0, 0, 0, 0, 0⟩) X.out)
  go_wp2_with (refine aF (by rfl) 73 (.tmp 1) (.tmp 3) (by rfl) w0.heap.size 0 (eA ⟨1, 0, 0, 0, 0⟩) (by rfl) (by rfl) (by exact Tw3'.out) (by kernel_rfl) (by simp [Value.oneCell', eA]) ?_)
  intro w3' ew3'
  replace ew3' : Hid (w3' = w2'.setCells w0.heap.size 0 (eA ⟨1, 0, 0, 0, 0⟩)) := by rw [hw2']; exact ew3'
  replace X := aA (show w3'.heap[w0.heap.size]? = some (.cells (eA ⟨1, 0, 0, 0, 0⟩).toArray 73 (0, 0)) by rw [ew3'.out]; exact aJ (eA ⟨1, 0, 0, 0, 0⟩) (xs := eA ⟨0, 0, 0, 0, 0⟩) X.out rfl)
  replace q1' := aA (show Below w0.heap.size w0 w3' by rw [ew3'.out]; exact q1'.out.trans (aE _ _ _ (by omega)))
  clear ew3' Tw3' hw2'
  replace R := aA (aB R.out q1'.out)
  replace Q := aA (aC Q.out Q.out.size q1'.out)
  clear q1'
  generalize w0.heap.size = x at *
  have X5 := aA (aB (aB (aB (aB (aB (X.out) ((Below.refl _ w3').alloc (Nat.le_refl _) (.cells #[.int .i64 0, .int .i64 8, .bool false, .bool false] 136))) ((Below.refl _ (w3'.alloc (.cells #[.int .i64 0, .int .i64 8, .bool false, .bool false] 136))).alloc (Nat.le_refl _) (.cells #[.int .i64 (-1)] 3))) ((Below.refl _ ((w3'.alloc (.cells #[.int .i64 0, .int .i64 8, .bool false, .bool false] 136)).alloc (.cells #[.int .i64 (-1)] 3))).alloc (Nat.le_refl _) (.cells #[.int .i64 0] 2))) ((Below.refl _ (((w3'.alloc (.cells #[.int .i64 0, .int .i64 8, .bool false, .bool false] 136)).alloc (.cells #[.int .i64 (-1)] 3)).alloc (.cells #[.int .i64 0] 2))).alloc (Nat.le_refl _) (.cells #[.int .i64 9] 2))) ((Below.refl _ ((((w3'.alloc (.cells #[.int .i64 0, .int .i64 8, .bool false, .bool false] 136)).alloc (.cells #[.int .i64 (-1)] 3)).alloc (.cells #[.int .i64 0] 2)).alloc (.cells #[.int .i64 9] 2))).alloc (Nat.le_refl _) (.cells #[.int .i64 1, .int .i64 0, .int .i64 0, .int .i64 0, .int .i64 0, .int .i64 0, .int .i64 0, .int .i64 0, .int .i64 0] 138)))
  have PDh := World.alloc_heap_new (((((w3'.alloc (.cells #[.int .i64 0, .int .i64 8, .bool false, .bool false] 136)).alloc (.cells #[.int .i64 (-1)] 3)).alloc (.cells #[.int .i64 0] 2)).alloc (.cells #[.int .i64 9] 2)).alloc (.cells #[.int .i64 1, .int .i64 0, .int .i64 0, .int .i64 0, .int .i64 0, .int .i64 0, .int .i64 0, .int .i64 0, .int .i64 0] 138)) (.cells zPd.cs.toArray 79)
  simp only [World.size_alloc] at PDh
  have TH := aA (show World.there ((((((w3'.alloc (.cells #[.int .i64 0, .int .i64 8, .bool false, .bool false] 136)).alloc (.cells #[.int .i64 (-1)] 3)).alloc (.cells #[.int .i64 0] 2)).alloc (.cells #[.int .i64 9] 2)).alloc (.cells #[.int .i64 1, .int .i64 0, .int .i64 0, .int .i64 0, .int .i64 0, .int .i64 0, .int .i64 0, .int .i64 0, .int .i64 0] 138)).alloc (.cells zPd.cs.toArray 79)) (w3'.heap.size + 1 + 1 + 1 + 1 + 1) 0 22 from aK (cs := zPd.cs) PDh)
  clear PDh
  have zRz : w.heap.size < w3'.heap.size := aH R.out
  go_upto_region 3 with (first | (refine wpList_load_row rfl 73 (.tmp 1) (by rfl) x (by rfl) 73 #[.int .i64 1, .int .i64 0, .int .i64 0, .int .i64 0, .int .i64 0] (0, 0) _ (by exact X5.out) Tryz.underlying73 (by rfl) (by kernel_rfl) ?_) | (refine aF (by rfl) 79 (.tmp 2) (.tmp 14) (by rfl) (w3'.heap.size + 1 + 1 + 1 + 1 + 1) 0 [.int .u32 5, .int .i64 0, .int .i64 2, .int .i64 1, .slice (some ⟨w3'.heap.size, 0, none⟩) 1 1, .slice (some ⟨w3'.heap.size + 1, 0, none⟩) 1 1, .int .u8 0, .slice (some ⟨w3'.heap.size + 1 + 1, 0, none⟩) 1 1, .slice (some ⟨w3'.heap.size + 1 + 1 + 1, 0, none⟩) 1 1, .slice (some ⟨w3'.heap.size + 1 + 1 + 1 + 1, 0, none⟩) 1 1, .int .i64 1, .int .i64 0, .int .i64 0, .int .i64 0, .int .i64 0, .int .i64 1, .int .i64 0, .int .i64 0, .int .i64 0, .int .i64 0, .int .i64 0, .int .i64 0] (by rfl) (by rfl) (by exact TH.out) (by kernel_rfl) (by simp [Value.oneCell']) ?_))
  intro w9 e9
  clear TH X5
  have q0 : Below w3'.heap.size w3' w3' := (Below.refl w3'.heap.size w3')
  have q1 : Below w3'.heap.size w3' (w3'.alloc (.cells #[.int .i64 0, .int .i64 8, .bool false, .bool false] 136)) := q0.alloc (by simp <;> omega) (.cells #[.int .i64 0, .int .i64 8, .bool false, .bool false] 136)
  have q2 : Below w3'.heap.size w3' ((w3'.alloc (.cells #[.int .i64 0, .int .i64 8, .bool false, .bool false] 136)).alloc (.cells #[.int .i64 (-1)] 3)) := q1.alloc (by simp <;> omega) (.cells #[.int .i64 (-1)] 3)
  have q3 : Below w3'.heap.size w3' (((w3'.alloc (.cells #[.int .i64 0, .int .i64 8, .bool false, .bool false] 136)).alloc (.cells #[.int .i64 (-1)] 3)).alloc (.cells #[.int .i64 0] 2)) := q2.alloc (by simp <;> omega) (.cells #[.int .i64 0] 2)
  have q4 : Below w3'.heap.size w3' ((((w3'.alloc (.cells #[.int .i64 0, .int .i64 8, .bool false, .bool false] 136)).alloc (.cells #[.int .i64 (-1)] 3)).alloc (.cells #[.int .i64 0] 2)).alloc (.cells #[.int .i64 9] 2)) := q3.alloc (by simp <;> omega) (.cells #[.int .i64 9] 2)
  have q5 : Below w3'.heap.size w3' (((((w3'.alloc (.cells #[.int .i64 0, .int .i64 8, .bool false, .bool false] 136)).alloc (.cells #[.int .i64 (-1)] 3)).alloc (.cells #[.int .i64 0] 2)).alloc (.cells #[.int .i64 9] 2)).alloc (.cells #[.int .i64 1, .int .i64 0, .int .i64 0, .int .i64 0, .int .i64 0, .int .i64 0, .int .i64 0, .int .i64 0, .int .i64 0] 138)) := q4.alloc (by simp <;> omega) (.cells #[.int .i64 1, .int .i64 0, .int .i64 0, .int .i64 0, .int .i64 0, .int .i64 0, .int .i64 0, .int .i64 0, .int .i64 0] 138)
  have q6 : Below w3'.heap.size w3' ((((((w3'.alloc (.cells #[.int .i64 0, .int .i64 8, .bool false, .bool false] 136)).alloc (.cells #[.int .i64 (-1)] 3)).alloc (.cells #[.int .i64 0] 2)).alloc (.cells #[.int .i64 9] 2)).alloc (.cells #[.int .i64 1, .int .i64 0, .int .i64 0, .int .i64 0, .int .i64 0, .int .i64 0, .int .i64 0, .int .i64 0, .int .i64 0] 138)).alloc (.cells zPd.cs.toArray 79)) := q5.alloc (by simp <;> omega) (.cells zPd.cs.toArray 79)
  have SG0 := aB (aB (aB (aB (aB (World.alloc_heap_new w3' (.cells #[.int .i64 0, .int .i64 8, .bool false, .bool false] 136)) ((Below.refl _ (w3'.alloc (.cells #[.int .i64 0, .int .i64 8, .bool false, .bool false] 136))).alloc (Nat.le_refl _) (.cells #[.int .i64 (-1)] 3))) ((Below.refl _ ((w3'.alloc (.cells #[.int .i64 0, .int .i64 8, .bool false, .bool false] 136)).alloc (.cells #[.int .i64 (-1)] 3))).alloc (Nat.le_refl _) (.cells #[.int .i64 0] 2))) ((Below.refl _ (((w3'.alloc (.cells #[.int .i64 0, .int .i64 8, .bool false, .bool false] 136)).alloc (.cells #[.int .i64 (-1)] 3)).alloc (.cells #[.int .i64 0] 2))).alloc (Nat.le_refl _) (.cells #[.int .i64 9] 2))) ((Below.refl _ ((((w3'.alloc (.cells #[.int .i64 0, .int .i64 8, .bool false, .bool false] 136)).alloc (.cells #[.int .i64 (-1)] 3)).alloc (.cells #[.int .i64 0] 2)).alloc (.cells #[.int .i64 9] 2))).alloc (Nat.le_refl _) (.cells #[.int .i64 1, .int .i64 0, .int .i64 0, .int .i64 0, .int .i64 0, .int .i64 0, .int .i64 0, .int .i64 0, .int .i64 0] 138))) ((Below.refl _ (((((w3'.alloc (.cells #[.int .i64 0, .int .i64 8, .bool false, .bool false] 136)).alloc (.cells #[.int .i64 (-1)] 3)).alloc (.cells #[.int .i64 0] 2)).alloc (.cells #[.int .i64 9] 2)).alloc (.cells #[.int .i64 1, .int .i64 0, .int .i64 0, .int .i64 0, .int .i64 0, .int .i64 0, .int .i64 0, .int .i64 0, .int .i64 0] 138))).alloc (Nat.le_refl _) (.cells zPd.cs.toArray 79))
  have NW0 := aB (aB (aB (aB (World.alloc_heap_new (w3'.alloc (.cells #[.int .i64 0, .int .i64 8, .bool false, .bool false] 136)) (.cells #[.int .i64 (-1)] 3)) ((Below.refl _ ((w3'.alloc (.cells #[.int .i64 0, .int .i64 8, .bool false, .bool false] 136)).alloc (.cells #[.int .i64 (-1)] 3))).alloc (Nat.le_refl _) (.cells #[.int .i64 0] 2))) ((Below.refl _ (((w3'.alloc (.cells #[.int .i64 0, .int .i64 8, .bool false, .bool false] 136)).alloc (.cells #[.int .i64 (-1)] 3)).alloc (.cells #[.int .i64 0] 2))).alloc (Nat.le_refl _) (.cells #[.int .i64 9] 2))) ((Below.refl _ ((((w3'.alloc (.cells #[.int .i64 0, .int .i64 8, .bool false, .bool false] 136)).alloc (.cells #[.int .i64 (-1)] 3)).alloc (.cells #[.int .i64 0] 2)).alloc (.cells #[.int .i64 9] 2))).alloc (Nat.le_refl _) (.cells #[.int .i64 1, .int .i64 0, .int .i64 0, .int .i64 0, .int .i64 0, .int .i64 0, .int .i64 0, .int .i64 0, .int .i64 0] 138))) ((Below.refl _ (((((w3'.alloc (.cells #[.int .i64 0, .int .i64 8, .bool false, .bool false] 136)).alloc (.cells #[.int .i64 (-1)] 3)).alloc (.cells #[.int .i64 0] 2)).alloc (.cells #[.int .i64 9] 2)).alloc (.cells #[.int .i64 1, .int .i64 0, .int .i64 0, .int .i64 0, .int .i64 0, .int .i64 0, .int .i64 0, .int .i64 0, .int .i64 0] 138))).alloc (Nat.le_refl _) (.cells zPd.cs.toArray 79))
  have FI0 := aB (aB (aB (World.alloc_heap_new ((w3'.alloc (.cells #[.int .i64 0, .int .i64 8, .bool false, .bool false] 136)).alloc (.cells #[.int .i64 (-1)] 3)) (.cells #[.int .i64 0] 2)) ((Below.refl _ (((w3'.alloc (.cells #[.int .i64 0, .int .i64 8, .bool false, .bool false] 136)).alloc (.cells #[.int .i64 (-1)] 3)).alloc (.cells #[.int .i64 0] 2))).alloc (Nat.le_refl _) (.cells #[.int .i64 9] 2))) ((Below.refl _ ((((w3'.alloc (.cells #[.int .i64 0, .int .i64 8, .bool false, .bool false] 136)).alloc (.cells #[.int .i64 (-1)] 3)).alloc (.cells #[.int .i64 0] 2)).alloc (.cells #[.int .i64 9] 2))).alloc (Nat.le_refl _) (.cells #[.int .i64 1, .int .i64 0, .int .i64 0, .int .i64 0, .int .i64 0, .int .i64 0, .int .i64 0, .int .i64 0, .int .i64 0] 138))) ((Below.refl _ (((((w3'.alloc (.cells #[.int .i64 0, .int .i64 8, .bool false, .bool false] 136)).alloc (.cells #[.int .i64 (-1)] 3)).alloc (.cells #[.int .i64 0] 2)).alloc (.cells #[.int .i64 9] 2)).alloc (.cells #[.int .i64 1, .int .i64 0, .int .i64 0, .int .i64 0, .int .i64 0, .int .i64 0, .int .i64 0, .int .i64 0, .int .i64 0] 138))).alloc (Nat.le_refl _) (.cells zPd.cs.toArray 79))
  have SU0 := aB (aB (World.alloc_heap_new (((w3'.alloc (.cells #[.int .i64 0, .int .i64 8, .bool false, .bool false] 136)).alloc (.cells #[.int .i64 (-1)] 3)).alloc (.cells #[.int .i64 0] 2)) (.cells #[.int .i64 9] 2)) ((Below.refl _ ((((w3'.alloc (.cells #[.int .i64 0, .int .i64 8, .bool false, .bool false] 136)).alloc (.cells #[.int .i64 (-1)] 3)).alloc (.cells #[.int .i64 0] 2)).alloc (.cells #[.int .i64 9] 2))).alloc (Nat.le_refl _) (.cells #[.int .i64 1, .int .i64 0, .int .i64 0, .int .i64 0, .int .i64 0, .int .i64 0, .int .i64 0, .int .i64 0, .int .i64 0] 138))) ((Below.refl _ (((((w3'.alloc (.cells #[.int .i64 0, .int .i64 8, .bool false, .bool false] 136)).alloc (.cells #[.int .i64 (-1)] 3)).alloc (.cells #[.int .i64 0] 2)).alloc (.cells #[.int .i64 9] 2)).alloc (.cells #[.int .i64 1, .int .i64 0, .int .i64 0, .int .i64 0, .int .i64 0, .int .i64 0, .int .i64 0, .int .i64 0, .int .i64 0] 138))).alloc (Nat.le_refl _) (.cells zPd.cs.toArray 79))
  have FL0 := aB (World.alloc_heap_new ((((w3'.alloc (.cells #[.int .i64 0, .int .i64 8, .bool false, .bool false] 136)).alloc (.cells #[.int .i64 (-1)] 3)).alloc (.cells #[.int .i64 0] 2)).alloc (.cells #[.int .i64 9] 2)) (.cells #[.int .i64 1, .int .i64 0, .int .i64 0, .int .i64 0, .int .i64 0, .int .i64 0, .int .i64 0, .int .i64 0, .int .i64 0] 138)) ((Below.refl _ (((((w3'.alloc (.cells #[.int .i64 0, .int .i64 8, .bool false, .bool false] 136)).alloc (.cells #[.int .i64 (-1)] 3)).alloc (.cells #[.int .i64 0] 2)).alloc (.cells #[.int .i64 9] 2)).alloc (.cells #[.int .i64 1, .int .i64 0, .int .i64 0, .int .i64 0, .int .i64 0, .int .i64 0, .int .i64 0, .int .i64 0, .int .i64 0] 138))).alloc (Nat.le_refl _) (.cells zPd.cs.toArray 79))
  have PD0 := World.alloc_heap_new (((((w3'.alloc (.cells #[.int .i64 0, .int .i64 8, .bool false, .bool false] 136)).alloc (.cells #[.int .i64 (-1)] 3)).alloc (.cells #[.int .i64 0] 2)).alloc (.cells #[.int .i64 9] 2)).alloc (.cells #[.int .i64 1, .int .i64 0, .int .i64 0, .int .i64 0, .int .i64 0, .int .i64 0, .int .i64 0, .int .i64 0, .int .i64 0] 138)) (.cells zPd.cs.toArray 79)
  simp only [World.size_alloc] at NW0 FI0 SU0 FL0 PD0
  have SG := aA (show w9.heap[w3'.heap.size]? = some (.cells #[.int .i64 0, .int .i64 8, .bool false, .bool false] 136 (0, 0)) by rw [e9.out]; exact aG (by omega) _ _ _ SG0)
  have NW := aA (show w9.heap[w3'.heap.size + 1]? = some (.cells #[.int .i64 (-1)] 3 (0, 0)) by rw [e9.out]; exact aG (by omega) _ _ _ NW0)
  have FI := aA (show w9.heap[w3'.heap.size + 1 + 1]? = some (.cells #[.int .i64 0] 2 (0, 0)) by rw [e9.out]; exact aG (by omega) _ _ _ FI0)
  have SU := aA (show w9.heap[w3'.heap.size + 1 + 1 + 1]? = some (.cells #[.int .i64 9] 2 (0, 0)) by rw [e9.out]; exact aG (by omega) _ _ _ SU0)
  have FL := aA (show w9.heap[w3'.heap.size + 1 + 1 + 1 + 1]? = some (.cells #[.int .i64 1, .int .i64 0, .int .i64 0, .int .i64 0, .int .i64 0, .int .i64 0, .int .i64 0, .int .i64 0, .int .i64 0] 138 (0, 0)) by rw [e9.out]; exact aG (by omega) _ _ _ FL0)
  have PD := aA (show w9.heap[w3'.heap.size + 1 + 1 + 1 + 1 + 1]? = some (.cells #[.int .u32 5, .int .i64 0, .int .i64 2, .int .i64 1, .slice (some ⟨w3'.heap.size, 0, none⟩) 1 1, .slice (some ⟨w3'.heap.size + 1, 0, none⟩) 1 1, .int .u8 0, .slice (some ⟨w3'.heap.size + 1 + 1, 0, none⟩) 1 1, .slice (some ⟨w3'.heap.size + 1 + 1 + 1, 0, none⟩) 1 1, .slice (some ⟨w3'.heap.size + 1 + 1 + 1 + 1, 0, none⟩) 1 1, .int .i64 1, .int .i64 0, .int .i64 0, .int .i64 0, .int .i64 0, .int .i64 1, .int .i64 0, .int .i64 0, .int .i64 0, .int .i64 0, .int .i64 0, .int .i64 0] 79 (0, 0)) by rw [e9.out]; exact aJ [.int .u32 5, .int .i64 0, .int .i64 2, .int .i64 1, .slice (some ⟨w3'.heap.size, 0, none⟩) 1 1, .slice (some ⟨w3'.heap.size + 1, 0, none⟩) 1 1, .int .u8 0, .slice (some ⟨w3'.heap.size + 1 + 1, 0, none⟩) 1 1, .slice (some ⟨w3'.heap.size + 1 + 1 + 1, 0, none⟩) 1 1, .slice (some ⟨w3'.heap.size + 1 + 1 + 1 + 1, 0, none⟩) 1 1, .int .i64 1, .int .i64 0, .int .i64 0, .int .i64 0, .int .i64 0, .int .i64 1, .int .i64 0, .int .i64 0, .int .i64 0, .int .i64 0, .int .i64 0, .int .i64 0] (xs := zPd.cs) PD0 rfl)
  have Q9 := aA (show Below w3'.heap.size w3' w9 by rw [e9.out]; exact q6.trans (aE _ _ _ (by omega)))
  replace R := aA (aB R.out Q9.out)
  replace Q := aA (aC Q.out Q.out.size Q9.out)
  clear SG0 NW0 FI0 SU0 FL0 PD0 q0 q1 q2 q3 q4 q5 q6 e9 Q9 X
  generalize w3'.heap.size = z at *
  have zP := aH PD.out
  have TR := aA (show World.there (w9.alloc (.cells #[.int .u32 5, .int .i64 0, .int .i64 2, .int .i64 1, .slice (some ⟨z, 0, none⟩) 1 1, .slice (some ⟨z + 1, 0, none⟩) 1 1, .int .u8 0, .slice (some ⟨z + 1 + 1, 0, none⟩) 1 1, .slice (some ⟨z + 1 + 1 + 1, 0, none⟩) 1 1, .slice (some ⟨z + 1 + 1 + 1 + 1, 0, none⟩) 1 1, .int .i64 1, .int .i64 0, .int .i64 0, .int .i64 0, .int .i64 0, .int .i64 1, .int .i64 0, .int .i64 0, .int .i64 0, .int .i64 0, .int .i64 0, .int .i64 0] 79)) w.heap.size 0 8 from aK (cs := zCf.cs) (aB R.out ((Below.refl _ _).alloc (Nat.le_refl _) _)))
  go_wp2_with (first | (refine wpList_load_row rfl 79 (.tmp 2) (by rfl) (z + 1 + 1 + 1 + 1 + 1) (by rfl) 79 #[.int .u32 5, .int .i64 0, .int .i64 2, .int .i64 1, .slice (some ⟨z, 0, none⟩) 1 1, .slice (some ⟨z + 1, 0, none⟩) 1 1, .int .u8 0, .slice (some ⟨z + 1 + 1, 0, none⟩) 1 1, .slice (some ⟨z + 1 + 1 + 1, 0, none⟩) 1 1, .slice (some ⟨z + 1 + 1 + 1 + 1, 0, none⟩) 1 1, .int .i64 1, .int .i64 0, .int .i64 0, .int .i64 0, .int .i64 0, .int .i64 1, .int .i64 0, .int .i64 0, .int .i64 0, .int .i64 0, .int .i64 0, .int .i64 0] (0, 0) _ (by exact PD.out) Tryz.underlying79 (by rfl) (by kernel_rfl) ?_) | (refine aF (by rfl) 25 (.tmp 0) (.tmp 17) (by rfl) w.heap.size 0 [.int .i64 2, .slice (some ⟨w9.heap.size, 0, none⟩) 1 1, .int .u32 1024, .int .i64 0, .int .i64 2, .int .i64 5, .int .i64 3, .int .i64 200] (by rfl) (by rfl) (by exact TR.out) (by kernel_rfl) (by simp [Value.oneCell']) ?_))
  intro w7 e7
  have qq : Below w9.heap.size w9 (w9.alloc (.cells #[.int .u32 5, .int .i64 0, .int .i64 2, .int .i64 1, .slice (some ⟨z, 0, none⟩) 1 1, .slice (some ⟨z + 1, 0, none⟩) 1 1, .int .u8 0, .slice (some ⟨z + 1 + 1, 0, none⟩) 1 1, .slice (some ⟨z + 1 + 1 + 1, 0, none⟩) 1 1, .slice (some ⟨z + 1 + 1 + 1 + 1, 0, none⟩) 1 1, .int .i64 1, .int .i64 0, .int .i64 0, .int .i64 0, .int .i64 0, .int .i64 1, .int .i64 0, .int .i64 0, .int .i64 0, .int .i64 0, .int .i64 0, .int .i64 0] 79)) := (Below.refl _ _).alloc (Nat.le_refl _) _
  have CR0 := World.alloc_heap_new w9 (.cells #[.int .u32 5, .int .i64 0, .int .i64 2, .int .i64 1, .slice (some ⟨z, 0, none⟩) 1 1, .slice (some ⟨z + 1, 0, none⟩) 1 1, .int .u8 0, .slice (some ⟨z + 1 + 1, 0, none⟩) 1 1, .slice (some ⟨z + 1 + 1 + 1, 0, none⟩) 1 1, .slice (some ⟨z + 1 + 1 + 1 + 1, 0, none⟩) 1 1, .int .i64 1, .int .i64 0, .int .i64 0, .int .i64 0, .int .i64 0, .int .i64 1, .int .i64 0, .int .i64 0, .int .i64 0, .int .i64 0, .int .i64 0, .int .i64 0] 79)
  have zz : w.heap.size < w9.heap.size := aH R.out
  replace SG := aA (show w7.heap[z]? = some (.cells #[.int .i64 0, .int .i64 8, .bool false, .bool false] 136 (0, 0)) by rw [e7.out]; exact aG (by omega) _ _ _ (aB SG.out qq))
  replace NW := aA (show w7.heap[z + 1]? = some (.cells #[.int .i64 (-1)] 3 (0, 0)) by rw [e7.out]; exact aG (by omega) _ _ _ (aB NW.out qq))
  replace FI := aA (show w7.heap[z + 1 + 1]? = some (.cells #[.int .i64 0] 2 (0, 0)) by rw [e7.out]; exact aG (by omega) _ _ _ (aB FI.out qq))
  replace SU := aA (show w7.heap[z + 1 + 1 + 1]? = some (.cells #[.int .i64 9] 2 (0, 0)) by rw [e7.out]; exact aG (by omega) _ _ _ (aB SU.out qq))
  replace FL := aA (show w7.heap[z + 1 + 1 + 1 + 1]? = some (.cells #[.int .i64 1, .int .i64 0, .int .i64 0, .int .i64 0, .int .i64 0, .int .i64 0, .int .i64 0, .int .i64 0, .int .i64 0] 138 (0, 0)) by rw [e7.out]; exact aG (by omega) _ _ _ (aB FL.out qq))
  have CR := aA (show w7.heap[w9.heap.size]? = some (.cells #[.int .u32 5, .int .i64 0, .int .i64 2, .int .i64 1, .slice (some ⟨z, 0, none⟩) 1 1, .slice (some ⟨z + 1, 0, none⟩) 1 1, .int .u8 0, .slice (some ⟨z + 1 + 1, 0, none⟩) 1 1, .slice (some ⟨z + 1 + 1 + 1, 0, none⟩) 1 1, .slice (some ⟨z + 1 + 1 + 1 + 1, 0, none⟩) 1 1, .int .i64 1, .int .i64 0, .int .i64 0, .int .i64 0, .int .i64 0, .int .i64 1, .int .i64 0, .int .i64 0, .int .i64 0, .int .i64 0, .int .i64 0, .int .i64 0] 79 (0, 0)) by rw [e7.out]; exact aG (by omega) _ _ _ CR0)
  have R7 := aA (show w7.heap[w.heap.size]? = some (.cells #[.int .i64 2, .slice (some ⟨w9.heap.size, 0, none⟩) 1 1, .int .u32 1024, .int .i64 0, .int .i64 2, .int .i64 5, .int .i64 3, .int .i64 200] 25 (0, 0)) by rw [e7.out]; exact aJ [.int .i64 2, .slice (some ⟨w9.heap.size, 0, none⟩) 1 1, .int .u32 1024, .int .i64 0, .int .i64 2, .int .i64 5, .int .i64 3, .int .i64 200] (xs := zCf.cs) (aB R.out qq) rfl)
  have Q7 := aA (show Below w.heap.size w w7 by rw [e7.out]; exact (Q.out.trans (qq.mono (Nat.le_of_lt zz))).trans (aE _ _ _ (Nat.le_refl _)))
  clear e7 TR CR0 qq PD R Q
  have OK := aA (show (iO z w9.heap.size).Ok w7 from ⟨eY (cs := (fastPd z).cs) CR.out, fun p hp => by
    have e : p = fastPd z := by simpa [iO] using hp
    subst e
    exact ⟨⟨eY (cs := [.int .i64 0, .int .i64 8, .bool false, .bool false]) SG.out, eY (cs := [.int .i64 (-1)]) NW.out, by show (1 : Nat) ≤ 9223372036854775807; decide, by show (1 : Nat) ≤ 9223372036854775807; decide, by show (1 : Nat) ≤ 1; decide, by show (1 : Nat) ≤ 1; decide⟩, ⟨eY (cs := [.int .i64 0]) FI.out, fun v hv => by (have e : v = 0 := by simpa [fastPd] using hv); subst e; unfold lim; omega, by show (1 : Nat) ≤ 9223372036854775807; decide⟩, ⟨eY (cs := [.int .i64 9]) SU.out, fun v hv => by (have e : v = 9 := by simpa [fastPd] using hv); subst e; unfold lim; omega, by show (1 : Nat) ≤ 9223372036854775807; decide⟩, ⟨eY (cs := fC aFl) FL.out, by show (1 : Nat) ≤ 9223372036854775807; decide⟩, ⟨by show (0 : Int) ≤ 5; decide, by show (5 : Int) < 4294967296; decide⟩, by show lim 0; unfold lim; omega, by show lim 2; unfold lim; omega, by show lim 0; unfold lim; omega⟩, by show (1 : Nat) ≤ 1000; decide, ⟨by show (0 : Int) ≤ 1024; decide, by show (1024 : Int) < 4294967296; decide⟩⟩)
  clear SG NW FI SU FL CR
  go_wp2_with fail
  refine bodyPost_ret (results_cell_row (p := 0) (ty := 25) (by rfl) _ w7 w.heap.size 25 (iO z w9.heap.size).cs.toArray (0, 0) _ (by rfl) R7.out Tryz.underlying25 (by rfl) (by kernel_rfl)) rfl ⟨z, _, rfl, OK.out, Q7.out⟩
end Go.Proofs.YtkmddjbialpppaaGreatDoor
