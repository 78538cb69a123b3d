/- The walk of campanilelaw07.CtlLoses. -/
import Derived.Test.YtpfbobcilphncaaGreatDoorMgCsLP
import Derived.Test.YtpfbobcilphncaaGreatDoorCsS
import Derived.Test.YtpfbobcilphncaaGreatDoorMgCsCP
namespace Go.Proofs.YtpfbobcilphncaaGreatDoor
open Go.ChangeShapes Go.WideShapes Go.ChangeAt Go.RowKit
open FP (Fr bitsF bodyF)

theorem frz_box {W : World} {b : Nat} {f : Fr} {t : TypeId} {fz : Nat × Nat} (h : W.heap[b]? = some (.cells (frc f).toArray t fz)) : W.cell? ⟨b, 0, none⟩ = some (.int .u32 f.id) ∧ W.cell? ⟨b, 1, none⟩ = some (.bool f.ext) ∧ W.cell? ⟨b, 2, none⟩ = some (.bool f.rem) ∧ W.cell? ⟨b, 3, none⟩ = some (.int .i64 f.dlc) ∧ W.cell? ⟨b, 4, none⟩ = some (.string f.data) := by
  simp [World.cell?, h, frc]
theorem toList_ba (b : ByteArray) : b.toList = b.data.toList := Lib.toList_data b
/-- Where a loser lost, behind i bits. -/
def lostI (d i : Nat) : Int := if i ≤ d then -1 else d

set_option maxRecDepth 100000 in
set_option maxHeartbeats 64000000 in
theorem ctlLoses_walk (f0 g0 : Fr) (w : World) (hid : f0.id < 4294967296) (hid' : g0.id < 4294967296) (hs : f0.data.size ≤ maxLen) (hs' : g0.data.size ≤ maxLen) : Calls Tryz.prog 5 #[.agg (frc f0).toArray, .agg (frc g0).toArray] w fun e w' => e = .returned (.bool true) ∧ Below w.heap.size w w' := by
  obtain ⟨w0, hw0⟩ : ∃ w0, w0 = (w.alloc (.cells (frc f0).toArray 24)).alloc (.cells (frc g0).toArray 24) := ⟨_, rfl⟩
  have step : ∀ (W : World) (o : Obj), Below W.heap.size W (W.alloc o) := fun W o => (Below.refl _ _).alloc (Nat.le_refl _) _
  have F0 := hide (heap_below (World.alloc_heap_new w (.cells (frc f0).toArray 24)) (step _ (.cells (frc g0).toArray 24)))
  have G0 := hide (World.alloc_heap_new (w.alloc (.cells (frc f0).toArray 24)) (.cells (frc g0).toArray 24))
  have Q0 : Hid (Below w.heap.size w w0) := by rw [hw0]; exact hide ((step _ _).alloc (by simp) _)
  rw [← hw0] at F0 G0
  simp only [World.size_alloc] at G0
  have FW := hide (fun W => few07_any f0 W hs)
  have GW := hide (fun W => few07_any g0 W hs')
  clear hs hs' step
  go_enter Tryz.func5, Tryz.ntmps5
  go_upto_region 1 with fail
  change Code.wp _ _ _ _ ((w.alloc (.cells (frc f0).toArray 24)).alloc (.cells (frc g0).toArray 24))
  rw [← hw0]
  clear hw0
  refine wp_region_L [0, 2] [(0, fun W => W.heap[w.heap.size]? = some (.cells (frc f0).toArray 24 (0, 0))), (2, fun W => W.heap[w.heap.size + 1]? = some (.cells (frc g0).toArray 24 (0, 0)))] (by kernel_rfl) ?_
  replace F0 := hide (show w0.drew.heap[w.heap.size]? = some (.cells (frc f0).toArray 24 (0, 0)) from F0.out)
  replace G0 := hide (show w0.drew.heap[w.heap.size + 1]? = some (.cells (frc g0).toArray 24 (0, 0)) from G0.out)
  replace Q0 := hide (show Below w.heap.size w w0.drew from Q0.out.drew)
  generalize w0.drew = w1 at *
  refine wpAnyL_load (i := 0) (v := .agg (frc f0).toArray) rfl rfl (by kernel_rfl) (by kernel_rfl) (by kernel_rfl) (by kernel_rfl) (by kernel_rfl) (fun _ _ _ h => h) rfl (fun W h => exec_heap W w.heap.size 24 _ _ h Tryz.underlying24 rfl (by kernel_rfl) _ _ (.tmp 2) (by rfl) (by rfl)) (F0.out) ?_
  go_simp
  refine wpAnyL_load (i := 2) (v := .agg (frc g0).toArray) rfl rfl (by kernel_rfl) (by kernel_rfl) (by kernel_rfl) (by kernel_rfl) (by kernel_rfl) (fun _ _ _ h => h) rfl (fun W h => exec_heap W (w.heap.size + 1) 24 _ _ h Tryz.underlying24 rfl (by kernel_rfl) _ _ (.tmp 3) (by rfl) (by rfl)) (G0.out) ?_
  go_simp
  refine wpAnyL_one (i := 1) (by kernel_rfl) ?_
  refine wpOp_do rfl rfl ?_
  go_simp
  (with_reducible refine (FW.out _).mono ?_)
  rintro e2 w2 ⟨rfl, q2⟩
  have F2 := hide (heap_below F0.out q2)
  have G2 := hide (heap_below G0.out q2)
  have Q2 := hide (below_next Q0.out Q0.out.size q2)
  clear q2 F0 G0 Q0 FW
  go_simp
  refine ⟨keepsL_mk (by kernel_rfl) (.cons F2.out (.cons G2.out .nil)), ?_⟩
  go_simp
  refine wpAnyL_one (i := 3) (by kernel_rfl) ?_
  refine wpOp_do rfl rfl ?_
  go_simp
  (with_reducible refine (GW.out _).mono ?_)
  rintro e3 w3 ⟨rfl, q3⟩
  have F3 := hide (heap_below F2.out q3)
  have G3 := hide (heap_below G2.out q3)
  have Q3 := hide (below_next Q2.out Q2.out.size q3)
  clear q3 F2 G2 Q2 GW
  have hf2 : (cut7 f0).id < 4294967296 := hid
  have hg2 : (cut7 g0).id < 4294967296 := hid'
  clear hid hid'
  generalize cut7 f0 = f at *
  generalize cut7 g0 = g at *
  go_simp
  refine ⟨keepsL_all (by kernel_rfl) (by kernel_rfl), ?_⟩
  go_simp
  refine wpAnyL_one (i := 4) (by kernel_rfl) ?_
  refine wpOp_do rfl rfl ?_
  refine wp_store_as 24 (.tmp 2) (.tmp 20) rfl w.heap.size 0 (frc f) (by rfl) (by rfl) (by exact (show World.there _ w.heap.size 0 5 from there_heap (cs := frc f0) F3.out)) (by kernel_rfl) (by simp [Value.oneCell', frc]) ?_
  intro w4 e4
  have F4 := hide (show w4.heap[w.heap.size]? = some (.cells (frc f).toArray 24 (0, 0)) by rw [e4]; exact whole_heap (frc f) (xs := frc f0) F3.out rfl)
  have G4 := hide (show w4.heap[w.heap.size + 1]? = some (.cells (frc g0).toArray 24 (0, 0)) by rw [e4]; exact other_heap (by omega) _ _ _ G3.out)
  have Q4 := hide (show Below w.heap.size w w4 by rw [e4]; exact Q3.out.trans (below_setCells _ _ _ (Nat.le_refl _)))
  clear e4 F3 G3 Q3
  refine ⟨keepsL_all (by kernel_rfl) (by kernel_rfl), ?_⟩
  go_simp
  refine wpAnyL_one (i := 5) (by kernel_rfl) ?_
  refine wpOp_do rfl rfl ?_
  refine wp_store_as 24 (.tmp 3) (.tmp 22) rfl (w.heap.size + 1) 0 (frc g) (by rfl) (by rfl) (by exact (show World.there _ (w.heap.size + 1) 0 5 from there_heap (cs := frc g0) G4.out)) (by kernel_rfl) (by simp [Value.oneCell', frc]) ?_
  intro w5 e5
  have F5 := hide (show w5.heap[w.heap.size]? = some (.cells (frc f).toArray 24 (0, 0)) by rw [e5]; exact other_heap (by omega) _ _ _ F4.out)
  have G5 := hide (show w5.heap[w.heap.size + 1]? = some (.cells (frc g).toArray 24 (0, 0)) by rw [e5]; exact whole_heap (frc g) (xs := frc g0) G4.out rfl)
  have Q5 := hide (show Below w.heap.size w w5 by rw [e5]; exact Q4.out.trans (below_setCells _ _ _ (by omega)))
  clear e5 F4 G4 Q4
  refine ⟨keepsL_all (by kernel_rfl) (by kernel_rfl), ?_⟩
  go_simp
  refine wpAnyL_done (by kernel_rfl) ?_ _
  have RF := hide (fun W => show Calls Tryz.prog 10 #[.agg (frc f).toArray] W fun e w' => e = .returned (.bool (FP.rightB f)) ∧ Below W.heap.size W w' from refRight04_any f W hf2)
  have RG := hide (fun W => show Calls Tryz.prog 10 #[.agg (frc g).toArray] W fun e w' => e = .returned (.bool (FP.rightB g)) ∧ Below W.heap.size W w' from refRight04_any g W hg2)
  have AL := hide (fun W => alive07_any W)
  have F := F5
  have G := G5
  have Q := Q5
  clear F5 G5 Q5
  go_wp2_with (refine wpList_load_row rfl 24 (.tmp 2) (by rfl) w.heap.size (by rfl) 24 (frc f).toArray (0, 0) _ (by exact F.out) Tryz.underlying24 (by rfl) (by kernel_rfl) ?_)
  (with_reducible refine (RF.out _).mono ?_)
  rintro ew1' w1' ⟨rfl, qw1'⟩
  replace F := hide (heap_below F.out qw1')
  replace G := hide (heap_below G.out qw1')
  replace Q := hide (below_next Q.out Q.out.size qw1')
  clear qw1'
  clear RF
  rcases Bool.eq_false_or_eq_true (FP.rightB f) with hrf | hrf
  case inr =>
    rw [hrf]
    go_wp2_with fail
    (with_reducible refine (AL.out _).mono ?_)
    rintro ew2' w2' ⟨rfl, qw2'⟩
    replace F := hide (heap_below F.out qw2')
    replace G := hide (heap_below G.out qw2')
    replace Q := hide (below_next Q.out Q.out.size qw2')
    clear qw2'
    clear AL
    go_wp2_with fail
    go_ret
    exact ⟨rfl, Q.out⟩
  case inl =>
  rw [hrf]
  go_wp2_with (refine wpList_load_rowG (by kernel_rfl) 24 (.tmp 3) (by rfl) (w.heap.size + 1) (by rfl) 24 (frc g).toArray (0, 0) _ (by exact G.out) Tryz.underlying24 (by rfl) (by kernel_rfl) ?_)
  (with_reducible refine (RG.out _).mono ?_)
  rintro ew3' w3' ⟨rfl, qw3'⟩
  replace F := hide (heap_below F.out qw3')
  replace G := hide (heap_below G.out qw3')
  replace Q := hide (below_next Q.out Q.out.size qw3')
  clear qw3'
  clear RG
  rcases Bool.eq_false_or_eq_true (FP.rightB g) with hrg | hrg
  case inr =>
    rw [hrg]
    go_wp2_with fail
    (with_reducible refine (AL.out _).mono ?_)
    rintro ew4' w4' ⟨rfl, qw4'⟩
    replace F := hide (heap_below F.out qw4')
    replace G := hide (heap_below G.out qw4')
    replace Q := hide (below_next Q.out Q.out.size qw4')
    clear qw4'
    clear AL
    go_wp2_with fail
    go_ret
    exact ⟨rfl, Q.out⟩
  case inl =>
  rw [hrg]
  have LE := hide (fun W => show Calls Tryz.prog 16 #[.agg (frc g).toArray, .agg (frc f).toArray] W fun e w' => e = .returned (.bool (lessB g f)) ∧ Below W.heap.size W w' from refLess_any g f W hrg hrf)
  go_wp2_with (first | (refine wpList_load_rowG (by kernel_rfl) 24 (.tmp 3) (by rfl) (w.heap.size + 1) (by rfl) 24 (frc g).toArray (0, 0) _ (by exact G.out) Tryz.underlying24 (by rfl) (by kernel_rfl) ?_) | (refine wpList_load_rowG (by kernel_rfl) 24 (.tmp 2) (by rfl) w.heap.size (by rfl) 24 (frc f).toArray (0, 0) _ (by exact F.out) Tryz.underlying24 (by rfl) (by kernel_rfl) ?_))
  (with_reducible refine (LE.out _).mono ?_)
  rintro ew5' w5' ⟨rfl, qw5'⟩
  replace F := hide (heap_below F.out qw5')
  replace G := hide (heap_below G.out qw5')
  replace Q := hide (below_next Q.out Q.out.size qw5')
  clear qw5'
  clear LE
  rcases Bool.eq_false_or_eq_true (lessB g f) with hle | hle
  case inr =>
    rw [hle]
    go_wp2_with fail
    (with_reducible refine (AL.out _).mono ?_)
    rintro ew6' w6' ⟨rfl, qw6'⟩
    replace F := hide (heap_below F.out qw6')
    replace G := hide (heap_below G.out qw6')
    replace Q := hide (below_next Q.out Q.out.size qw6')
    clear qw6'
    clear AL
    go_wp2_with fail
    go_ret
    exact ⟨rfl, Q.out⟩
  case inl =>
  rw [hle]
  have RY := hide (fun W => ready_any W)
  obtain ⟨c0, hc0⟩ : ∃ c0, c0 = idleC := ⟨_, rfl⟩
  rw [← hc0] at RY
  have HC0 := hide hc0
  clear hc0
  go_wp2_with fail
  (with_reducible refine (RY.out _).mono ?_)
  rintro ew7' w7' ⟨rfl, qw7'⟩
  replace F := hide (heap_below F.out qw7')
  replace G := hide (heap_below G.out qw7')
  replace Q := hide (below_next Q.out Q.out.size qw7')
  clear qw7'
  clear RY
  have q8' : Below w7'.heap.size w7' (w7'.alloc (.cells zCl.cs.toArray 31)) := (Below.refl _ _).alloc (Nat.le_refl _) _
  have C := World.alloc_heap_new w7' (.cells zCl.cs.toArray 31)
  have zFy : w.heap.size < w7'.heap.size := heap_lt F.out
  have zGy : w.heap.size + 1 < w7'.heap.size := heap_lt G.out
  replace F := hide (heap_below F.out q8')
  replace G := hide (heap_below G.out q8')
  replace Q := hide (below_next Q.out Q.out.size q8')
  clear q8'
  obtain ⟨w9', hw9'⟩ : ∃ wx, wx = w7'.alloc (.cells zCl.cs.toArray 31) := ⟨_, rfl⟩
  rw [← hw9'] at Q F G C
  replace C := hide C
  have Tw10' := hide (show (w7'.alloc (.cells zCl.cs.toArray 31)).there w7'.heap.size 0 23 by rw [← hw9']; exact there_heap (cs := zCl.cs) C.out)
  go_wp2_with (refine wpList_store_hid (by rfl) 31 (.tmp 5) (.tmp 40) (by rfl) w7'.heap.size 0 c0.cs (by rfl) (by rfl) (by exact Tw10'.out) (by kernel_rfl) (by simp [Value.oneCell', Cl.cs]) ?_)
  intro w10' ew10'
  replace ew10' : Hid (w10' = w9'.setCells w7'.heap.size 0 c0.cs) := by rw [hw9']; exact ew10'
  replace F := hide (show w10'.heap[w.heap.size]? = some (.cells (frc f).toArray 24 (0, 0)) by rw [ew10'.out]; exact other_heap (by omega) _ _ _ F.out)
  replace G := hide (show w10'.heap[w.heap.size + 1]? = some (.cells (frc g).toArray 24 (0, 0)) by rw [ew10'.out]; exact other_heap (by omega) _ _ _ G.out)
  replace Q := hide (show Below w.heap.size w w10' by rw [ew10'.out]; exact Q.out.trans (below_setCells _ _ _ (by have := Q.out.size; omega)))
  replace C := hide (show w10'.heap[w7'.heap.size]? = some (.cells c0.cs.toArray 31 (0, 0)) by rw [ew10'.out]; exact whole_heap c0.cs (xs := zCl.cs) C.out rfl)
  clear ew10' Tw10' hw9'
  generalize w7'.heap.size = y at *
  have SU := hide (fun W => show Calls Tryz.prog 8 #[.agg c0.cs.toArray, .agg (frc f).toArray] W _ from ctlSubmit_q c0 f W (by rw [HC0.out]; exact idle_q) (by rw [HC0.out]; rfl) hf2)
  go_wp2_with (first | (refine wpList_load_row rfl 31 (.tmp 5) (by rfl) y (by rfl) 31 c0.cs.toArray (0, 0) _ (by exact C.out) Tryz.underlying31 (by rfl) (by kernel_rfl) ?_) | (refine wpList_load_row rfl 24 (.tmp 2) (by rfl) w.heap.size (by rfl) 24 (frc f).toArray (0, 0) _ (by exact F.out) Tryz.underlying24 (by rfl) (by kernel_rfl) ?_))
  (with_reducible refine (SU.out _).mono ?_)
  rintro ew11' w11' ⟨hsub, qw11'⟩
  replace F := hide (heap_below F.out qw11')
  replace G := hide (heap_below G.out qw11')
  replace C := hide (heap_below C.out qw11')
  replace Q := hide (below_next Q.out Q.out.size qw11')
  clear qw11'
  clear SU
  rcases hsub with ⟨-, rfl⟩ | ⟨hr, rfl⟩
  case inr => rw [hrf] at hr; cases hr
  case inl =>
  obtain ⟨gc, hgc⟩ : ∃ gc, gc = c0.give f := ⟨_, rfl⟩
  rw [← hgc]
  have HG := hide (show gc = idleC.give f by rw [hgc, HC0.out])
  clear hgc
  have Tw12' := hide (show World.there _ y 0 23 from there_heap (cs := c0.cs) C.out)
  go_wp2_with (refine wpList_store_hid (by rfl) 31 (.tmp 5) (.tmp 46) (by rfl) y 0 gc.cs (by rfl) (by rfl) (by exact Tw12'.out) (by kernel_rfl) (by simp [Value.oneCell', Cl.cs]) ?_)
  intro w12' ew12'
  replace F := hide (show w12'.heap[w.heap.size]? = some (.cells (frc f).toArray 24 (0, 0)) by rw [ew12'.out]; exact other_heap (by omega) _ _ _ F.out)
  replace G := hide (show w12'.heap[w.heap.size + 1]? = some (.cells (frc g).toArray 24 (0, 0)) by rw [ew12'.out]; exact other_heap (by omega) _ _ _ G.out)
  replace Q := hide (show Below w.heap.size w w12' by rw [ew12'.out]; exact Q.out.trans (below_setCells _ _ _ (by have := Q.out.size; omega)))
  replace C := hide (show w12'.heap[y]? = some (.cells gc.cs.toArray 31 (0, 0)) by rw [ew12'.out]; exact whole_heap gc.cs (xs := c0.cs) C.out rfl)
  clear ew12' Tw12'
  go_wp2_with fail
  (with_reducible refine (AL.out _).mono ?_)
  rintro ew13' w13' ⟨rfl, qw13'⟩
  replace F := hide (heap_below F.out qw13')
  replace G := hide (heap_below G.out qw13')
  replace C := hide (heap_below C.out qw13')
  replace Q := hide (below_next Q.out Q.out.size qw13')
  clear qw13'
  clear AL
  have RB := hide (fun W => show Calls Tryz.prog 11 #[.agg (frc f).toArray] W fun e w' => e = .returned (.string ⟨(bitsF f).toArray⟩) ∧ Below W.heap.size W w' from refBits_any f W hrf)
  have RB2 := hide (fun W => show Calls Tryz.prog 11 #[.agg (frc g).toArray] W fun e w' => e = .returned (.string ⟨(bitsF g).toArray⟩) ∧ Below W.heap.size W w' from refBits_any g W hrg)
  obtain ⟨SF, hSF⟩ : ∃ S : ByteArray, S = ⟨(bitsF f).toArray⟩ := ⟨_, rfl⟩
  obtain ⟨S, hS⟩ : ∃ S : ByteArray, S = ⟨(bitsF g).toArray⟩ := ⟨_, rfl⟩
  rw [← hSF] at RB
  rw [← hS] at RB2
  have HSL := hide (show S.data.toList = bitsF g by rw [hS])
  have HFL := hide (show SF.data.toList = bitsF f by rw [hSF])
  clear hS hSF
  go_upto_region 8 with fail
  refine wp_region_L [0, 2] [(0, fun W => W.heap[w.heap.size]? = some (.cells (frc f).toArray 24 (0, 0))), (2, fun W => W.heap[w.heap.size + 1]? = some (.cells (frc g).toArray 24 (0, 0)))] (by kernel_rfl) ?_
  replace F := hide (show w13'.drew.heap[w.heap.size]? = some (.cells (frc f).toArray 24 (0, 0)) from F.out)
  replace G := hide (show w13'.drew.heap[w.heap.size + 1]? = some (.cells (frc g).toArray 24 (0, 0)) from G.out)
  replace C := hide (show w13'.drew.heap[y]? = some (.cells gc.cs.toArray 31 (0, 0)) from C.out)
  replace Q := hide (show Below w.heap.size w w13'.drew from Q.out.drew)
  generalize w13'.drew = wd at *
  refine wpAnyL_load (i := 0) (v := .agg (frc f).toArray) rfl rfl (by kernel_rfl) (by kernel_rfl) (by kernel_rfl) (by kernel_rfl) (by kernel_rfl) (fun _ _ _ h => h) rfl (fun W h => exec_heap W w.heap.size 24 _ _ h Tryz.underlying24 rfl (by kernel_rfl) _ _ (.tmp 2) (by rfl) (by rfl)) (F.out) ?_
  go_simp
  refine wpAnyL_load (i := 2) (v := .agg (frc g).toArray) rfl rfl (by kernel_rfl) (by kernel_rfl) (by kernel_rfl) (by kernel_rfl) (by kernel_rfl) (fun _ _ _ h => h) rfl (fun W h => exec_heap W (w.heap.size + 1) 24 _ _ h Tryz.underlying24 rfl (by kernel_rfl) _ _ (.tmp 3) (by rfl) (by rfl)) (G.out) ?_
  go_simp
  refine wpAnyL_one (i := 1) (by kernel_rfl) ?_
  refine wpOp_do rfl rfl ?_
  go_simp
  (with_reducible refine (RB.out _).mono ?_)
  rintro ew14' w14' ⟨rfl, qw14'⟩
  replace F := hide (heap_below F.out qw14')
  replace G := hide (heap_below G.out qw14')
  replace C := hide (heap_below C.out qw14')
  replace Q := hide (below_next Q.out Q.out.size qw14')
  clear qw14'
  clear RB
  go_simp
  refine ⟨keepsL_mk (by kernel_rfl) (.cons F.out (.cons G.out .nil)), ?_⟩
  go_simp
  refine wpAnyL_one (i := 3) (by kernel_rfl) ?_
  refine wpOp_do rfl rfl ?_
  go_simp
  (with_reducible refine (RB2.out _).mono ?_)
  rintro ew15' w15' ⟨rfl, qw15'⟩
  replace F := hide (heap_below F.out qw15')
  replace G := hide (heap_below G.out qw15')
  replace C := hide (heap_below C.out qw15')
  replace Q := hide (below_next Q.out Q.out.size qw15')
  clear qw15'
  clear RB2
  go_simp
  refine ⟨keepsL_all (by kernel_rfl) (by kernel_rfl), ?_⟩
  go_simp
  refine wpAnyL_one (i := 4) (by kernel_rfl) ?_
  refine wpOp_do rfl rfl ?_
  go_simp
  refine ⟨keepsL_all (by kernel_rfl) (by kernel_rfl), ?_⟩
  go_simp
  refine wpAnyL_one (i := 5) (by kernel_rfl) ?_
  refine wpOp_do rfl rfl ?_
  go_simp
  refine ⟨keepsL_all (by kernel_rfl) (by kernel_rfl), ?_⟩
  go_simp
  refine wpAnyL_done (by kernel_rfl) ?_ _
  have hsz : S.size = (bitsF g).length := by rw [← HSL.out]; exact Array.length_toList.symm
  have hfz : SF.size = (bitsF f).length := by rw [← HFL.out]; exact Array.length_toList.symm
  have HN := hide (show S.size = (bodyF g).length + 10 by rw [hsz]; exact FP.body_len g)
  have HFN := hide (show SF.size = (bodyF f).length + 10 by rw [hfz]; exact FP.body_len f)
  have HSZ := hide hsz
  have HFZ := hide hfz
  have hn2 : S.size ≤ 157 := by have := FP.body_le hrg; have := HN.out; omega
  have hn3 : 44 ≤ S.size := by have := FP.body_ge hrg; have := HN.out; omega
  have hf157 : SF.size ≤ 157 := by have := FP.body_le hrf; have := HFN.out; omega
  clear hsz hfz
  obtain ⟨m1, hm1⟩ : ∃ m1 : Nat, (S.size : Int) - 9 = m1 := ⟨S.size - 9, by omega⟩
  obtain ⟨m2, hm2⟩ : ∃ m2 : Nat, (S.size : Int) - 8 = m2 := ⟨S.size - 8, by omega⟩
  obtain ⟨TS, hTS⟩ : ∃ TS : ByteArray, TS = S.extract 0 m1 ++ ⟨#[48]⟩ ++ S.extract m2 S.size := ⟨_, rfl⟩
  have HTL := hide (show TS.data.toList = toldF g by
    rw [hTS, ByteArray.data_append, ByteArray.data_append, Array.toList_append, Array.toList_append, toList_extract, toList_extract, HSL.out, List.extract_eq_take_drop, List.extract_eq_take_drop, List.drop_zero]
    unfold toldF
    have hsz := HSZ.out
    rw [show m1 - 0 = (bitsF g).length - 9 by omega, show m2 = (bitsF g).length - 8 by omega, List.take_of_length_le (l := (bitsF g).drop _) (by rw [List.length_drop]; omega)]
    simp)
  have HTZ := hide (show TS.size = S.size from by
    have h1 : TS.data.toList.length = TS.size := Array.length_toList
    rw [← h1, HTL.out, HSZ.out, told_len])
  have HTS := hide hTS
  clear hTS
  go_upto_region 10 with fail
  go_cut [9] (fun v W => v = .string TS ∧ Below w15'.heap.size w15' W)
  case first =>
    have hml1 : (m1 : Int) ≤ S.size := by omega
    have hml2 : (m2 : Int) ≤ S.size := by omega
    have hm14 : (m1 : Int) ≤ 157 := by omega
    have hm24 : (m2 : Int) ≤ 157 := by omega
    have hw1 : IntKind.i64.wrap (m1 : Int) = (m1 : Int) := IntWalk.i64_in _ (by omega)
    have hw2 : IntKind.i64.wrap (m2 : Int) = (m2 : Int) := IntWalk.i64_in _ (by omega)
    have hc1 : ¬ 9223372036854775807 < (S.extract 0 m1).size + 1 := by rw [ByteArray.size_extract]; omega
    have hc2 : ¬ 9223372036854775807 < (S.extract 0 m1 ++ ⟨#[48]⟩ : ByteArray).size + (S.extract m2 S.size).size := by rw [ByteArray.size_append, ByteArray.size_extract, ByteArray.size_extract]; show ¬ 9223372036854775807 < _ + 1 + _; omega
    have hc3 : ¬ 9223372036854775807 < min m1 S.size + 1 := by omega
    have hc4 : ¬ 9223372036854775807 < min m1 S.size + 1 + (S.size - m2) := by omega
    clear HTL HTZ HSL HSZ HN HFL HFZ HFN F G C Q
    refine wp_region_L [0, 1, 2, 3, 4, 5, 6, 7, 8, 9] [] (by kernel_rfl) ?_
    have QD := hide (show Below w15'.heap.size w15' w15'.drew from (Below.refl _ _).drew)
    generalize w15'.drew = wd at *
    refine wpAnyL_pure (i := 0) (v := .string S) rfl rfl (by kernel_rfl) (by kernel_rfl) (by kernel_rfl) (by kernel_rfl) (by kernel_rfl) (fun _ _ _ h => h) rfl (fun W => by go_simp) ?_
    go_simp
    refine wpAnyL_pure (i := 1) (v := .int .i64 S.size) rfl rfl (by kernel_rfl) (by kernel_rfl) (by kernel_rfl) (by kernel_rfl) (by kernel_rfl) (fun _ _ _ h => h) rfl (fun W => by go_simp) ?_
    go_simp
    refine wpAnyL_pure (i := 2) (v := .int .i64 m1) rfl rfl (by kernel_rfl) (by kernel_rfl) (by kernel_rfl) (by kernel_rfl) (by kernel_rfl) (fun _ _ _ h => h) rfl (fun W => by go_simp) ?_
    go_simp
    refine wpAnyL_pure (i := 3) (v := .string (S.extract 0 m1)) rfl rfl (by kernel_rfl) (by kernel_rfl) (by kernel_rfl) (by kernel_rfl) (by kernel_rfl) (fun _ _ _ h => h) rfl (fun W => by go_simp) ?_
    go_simp
    refine wpAnyL_pure (i := 4) (v := .string (S.extract 0 m1 ++ ⟨#[48]⟩)) rfl rfl (by kernel_rfl) (by kernel_rfl) (by kernel_rfl) (by kernel_rfl) (by kernel_rfl) (fun _ _ _ h => h) rfl (fun W => by go_simp) ?_
    go_simp
    refine wpAnyL_pure (i := 5) (v := .string S) rfl rfl (by kernel_rfl) (by kernel_rfl) (by kernel_rfl) (by kernel_rfl) (by kernel_rfl) (fun _ _ _ h => h) rfl (fun W => by go_simp) ?_
    go_simp
    refine wpAnyL_pure (i := 6) (v := .int .i64 S.size) rfl rfl (by kernel_rfl) (by kernel_rfl) (by kernel_rfl) (by kernel_rfl) (by kernel_rfl) (fun _ _ _ h => h) rfl (fun W => by go_simp) ?_
    go_simp
    refine wpAnyL_pure (i := 7) (v := .int .i64 m2) rfl rfl (by kernel_rfl) (by kernel_rfl) (by kernel_rfl) (by kernel_rfl) (by kernel_rfl) (fun _ _ _ h => h) rfl (fun W => by go_simp) ?_
    go_simp
    refine wpAnyL_pure (i := 8) (v := .string (S.extract m2 S.size)) rfl rfl (by kernel_rfl) (by kernel_rfl) (by kernel_rfl) (by kernel_rfl) (by kernel_rfl) (fun _ _ _ h => h) rfl (fun W => by go_simp) ?_
    go_simp
    refine wpAnyL_pure (i := 9) (v := .string (S.extract 0 m1 ++ ⟨#[48]⟩ ++ S.extract m2 S.size)) rfl rfl (by kernel_rfl) (by kernel_rfl) (by kernel_rfl) (by kernel_rfl) (by kernel_rfl) (fun _ _ _ h => h) rfl (fun W => by go_simp) ?_
    go_simp
    refine wpAnyL_one (i := 10) (by kernel_rfl) ?_
    refine wpOp_do rfl rfl ?_
    go_simp
    refine ⟨keepsL_all (by kernel_rfl) (by kernel_rfl), ?_⟩
    refine wpAnyL_done (by kernel_rfl) ?_ _
    go_wp2_with fail
    go_meet
    exact ⟨by rw [HTS.out], QD.out⟩
  case rest =>
  obtain ⟨rfl, qc⟩ := hcut
  replace F := hide (heap_below F.out qc)
  replace G := hide (heap_below G.out qc)
  replace C := hide (heap_below C.out qc)
  replace Q := hide (below_next Q.out Q.out.size qc)
  clear qc
  obtain ⟨d, hd⟩ := lz_of hrf hrg hle
  have hdg : d + 10 < S.size := by have := hd.lg; have := HN.out; omega
  have hdf : d < SF.size := by have := hd.lf; have := HFN.out; omega
  have hgc3 : gc.st = 1 ∧ gc.has = true ∧ gc.f = f ∧ gc.Ok := by
    rw [HG.out]
    exact ⟨rfl, rfl, rfl, ⟨rfl, rfl, fun _ => hrf, (fun e => by cases e), (by decide : (0 : Int) ≤ 1), (by decide : (1 : Int) ≤ 8), Int.le_refl 0, (by decide : (0 : Int) ≤ topN 1), (fun e => by cases e), fun _ => ⟨rfl, rfl, rfl, rfl, rfl, rfl, rfl, rfl, rfl⟩, (fun e => by cases e)⟩⟩
  have STEP := hide (fun (i : Nat) (hi : i < S.size) => show (lzS gc f g d i).Ok ∧ ∃ ht : i < TS.size, (TS[i] = 48 ∨ TS[i] = 49) ∧ (lzS gc f g d i).samp TS[i] = ⟨lzS gc f g d (i + 1), if i = d then 4 else if i + 2 = S.size then 2 else 0, if i + 2 = S.size then g else zFr, 0⟩ ∧ (i ≤ d → ∃ hf : i < SF.size, SF[i] = (lzS gc f g d i).drv) ∧ (d < i → i ≠ S.size - 9 → (lzS gc f g d i).drv = 49) from by
    have hN := HN.out
    have hZ := HSZ.out
    have ht : i < TS.size := by rw [HTZ.out]; exact hi
    obtain ⟨b, hb, hbit⟩ := bits_some g (i := i) (by omega)
    have hT : TS[i] = busB g i b := by
      have h1 := get_some TS i ht
      rw [HTL.out, told_at g hb] at h1
      exact (Option.some.inj h1).symm
    have st := lz_step hrf hrg hd hgc3.1 hgc3.2.1 hgc3.2.2.1 (i := i) (by omega) hb
    have e1 : (i = (bodyF g).length + 8) = (i + 2 = S.size) := propext ⟨fun _ => by omega, fun _ => by omega⟩
    refine ⟨lz_ok hgc3.2.2.2 hrf hrg hd hgc3.1 hgc3.2.1 hgc3.2.2.1 i (by omega), ht, ?_, ?_, ?_, ?_⟩
    · rw [hT]; exact busB_bit hbit
    · rw [hT, st.2.2]; simp only [e1]
    · intro hid3
      have hf : i < SF.size := by omega
      refine ⟨hf, ?_⟩
      have h1 := get_some SF i hf
      rw [HFL.out, st.1 hid3] at h1
      exact (Option.some.inj h1).symm
    · intro h1 h2
      exact st.2.1 h1 (by omega))
  have ATD := hide (show (∃ h : d < SF.size, SF[d] = 49) ∧ (∃ h : d < TS.size, TS[d] = 48) ∧ ((TS.extract 0 d).toList == (SF.extract 0 d).toList) = true from by
    obtain ⟨h1, h2, h3⟩ := lz_same hd
    have ht : d < TS.size := by have := HTZ.out; omega
    refine ⟨⟨hdf, ?_⟩, ⟨ht, ?_⟩, ?_⟩
    · have := get_some SF d hdf
      rw [HFL.out, h2] at this
      exact (Option.some.inj this).symm
    · have := get_some TS d ht
      rw [HTL.out, h3] at this
      exact (Option.some.inj this).symm
    · rw [toList_ba, toList_ba, toList_extract, toList_extract, HTL.out, HFL.out, List.extract_eq_take_drop, List.extract_eq_take_drop, List.drop_zero, List.drop_zero, Nat.sub_zero, h1]
      simp)
  have END := hide (show (lzS gc f g d S.size).has = true ∧ (lzS gc f g d S.size).f = f ∧ (lzS gc f g d S.size).tc = 0 ∧ (lzS gc f g d S.size).rc = 0 ∧ (lzS gc f g d S.size).off = false ∧ (lzS gc f g d S.size).rs = 0 from by
    rw [HG.out, HSZ.out]
    exact lz_end hd)
  have E0 := hide (show gc = lzS gc f g d 0 from (if_pos (Nat.zero_le _)).symm)
  have HTZ2 := HTZ
  clear hgc3 hd hle hrf hrg HTL HTZ HTS HSL HSZ HN HFL HFZ HFN HG HC0 hm1 hm2 hf2 hg2
  have C1 := hide (show wc.heap[y]? = some (.cells ((lzS gc f g d 0).cs).toArray 31 (0, 0)) by rw [← E0.out]; exact C.out)
  clear C E0
  have C := C1
  clear C1
  go_wp2_with fail
  go_loopw [75, 11, 12] (fun vi v11 v12 W => ∃ i : Nat, i ≤ S.size ∧ vi = .int .i64 i ∧ v11 = .int .i64 (lostI d i) ∧ v12 = .bool (decide (S.size ≤ i + 1)) ∧ Hid (W.heap[w.heap.size]? = some (.cells (frc f).toArray 24 (0, 0))) ∧ Hid (W.heap[w.heap.size + 1]? = some (.cells (frc g).toArray 24 (0, 0))) ∧ Hid (W.heap[y]? = some (.cells ((lzS gc f g d i).cs).toArray 31 (0, 0))) ∧ Hid (Below w.heap.size w W)) (fun vi _ _ _ => S.size - (intOf vi).toNat)
  case atStart => exact ⟨0, Nat.zero_le _, rfl, by unfold lostI; rw [if_pos (Nat.zero_le _)], by rw [decide_eq_false (by omega)], F, G, C, Q⟩
  case round =>
    clear F G C Q
    obtain ⟨i, hi, rfl, rfl, rfl, F, G, C, Q⟩ := hrel
    by_cases hlt : i < S.size
    · have hki : (i : Int) < (S.size : Int) := by omega
      obtain ⟨hok, hkt, hbit, hsamp, hdr1, hdr2⟩ := STEP.out i hlt
      have DR := hide (fun W => ctlDrive_ok (lzS gc f g d i) W hok)
      have SA := hide (fun W => ctlSample_ok (lzS gc f g d i) TS[i] hbit W hok)
      rw [hsamp] at SA
      obtain ⟨kd, hkd⟩ : ∃ kd : Int, kd = if i = d then 4 else if i + 2 = S.size then 2 else 0 := ⟨_, rfl⟩
      obtain ⟨ef, hef⟩ : ∃ ef, ef = if i + 2 = S.size then g else zFr := ⟨_, rfl⟩
      rw [← hkd, ← hef] at SA
      have HKD := hide hkd
      have HEF := hide hef
      generalize hdk : lzS gc f g d i = c1 at *
      obtain ⟨e2, he2⟩ : ∃ e2, e2 = lzS gc f g d (i + 1) := ⟨_, rfl⟩
      rw [← he2] at SA
      have HE2 := hide he2
      generalize c1.drv = db at *
      have HD1 := hide hdr1
      have HD2 := hide hdr2
      have hkT : (i : Int) < (TS.size : Int) := by omega
      have hwr : IntKind.i64.wrap ((S.size : Int) - 9) = (S.size : Int) - 9 := IntWalk.i64_in _ (by omega)
      obtain ⟨li, hli⟩ : ∃ li, li = lostI d i := ⟨_, rfl⟩
      rw [← hli]
      have HLI := hide hli
      obtain ⟨cb, hcb⟩ : ∃ cb, cb = decide (S.size ≤ i + 1) := ⟨_, rfl⟩
      rw [← hcb]
      have HCB := hide hcb
      clear hok hbit hsamp hkd hef hdk he2 hdr1 hdr2 hli hcb
      go_wp2_with (refine wpList_load_row rfl 31 (.tmp 5) (by rfl) y (by rfl) 31 c1.cs.toArray (0, 0) _ (by exact C.out) Tryz.underlying31 (by rfl) (by kernel_rfl) ?_)
      (with_reducible refine (DR.out _).mono ?_)
      rintro ew16' w16' ⟨rfl, qw16'⟩
      replace F := hide (heap_below F.out qw16')
      replace G := hide (heap_below G.out qw16')
      replace C := hide (heap_below C.out qw16')
      replace Q := hide (below_next Q.out Q.out.size qw16')
      clear qw16'
      clear DR
      go_upto_region 16 with fail
      go_cut [109] (fun v W => v = .bool false ∧ W = w16')
      case first =>
        have hl2 := HLI.out
        have h1 := HD1.out
        have h2 := HD2.out
        clear HLI HD1 HD2 HKD HEF HE2 HCB SA STEP ATD END F G C Q
        unfold lostI at hl2
        by_cases hid4 : i ≤ d
        · rw [if_pos hid4] at hl2
          subst hl2
          obtain ⟨hf3, hf4⟩ := h1 hid4
          have hkF : (i : Int) < (SF.size : Int) := by omega
          have hnq : ((db.toNat : Int) != (SF[i].toNat : Int)) = false := by rw [hf4]; simp
          clear h1 h2 hid4 hf4
          go_wp2_with fail
          go_meet
          exact ⟨rfl, rfl⟩
        · rw [if_neg hid4] at hl2
          have hl3 : (0 : Int) ≤ li := by omega
          have hl4 : ¬ li < 0 := by omega
          have hl5 : decide (li < 0) = false := decide_eq_false hl4
          have hl6 : decide (0 ≤ li) = true := decide_eq_true hl3
          clear hl2
          by_cases h9 : i = S.size - 9
          · have hq : ((i : Int) != (S.size : Int) - 9) = false := by rw [bne_eq_false_iff_eq]; omega
            have hq2 : ((i : Int) == (S.size : Int) - 9) = true := by rw [beq_iff_eq]; omega
            clear h1 h2 h9
            go_wp2_with fail
            go_meet
            exact ⟨rfl, rfl⟩
          · have hdb := h2 (by omega) h9
            have hq : ((i : Int) != (S.size : Int) - 9) = true := by rw [bne_iff_ne]; omega
            have hq2 : ((i : Int) == (S.size : Int) - 9) = false := by rw [beq_eq_false_iff_ne]; omega
            clear h1 h2 h9
            subst hdb
            go_wp2_with fail
            go_meet
            exact ⟨rfl, rfl⟩
      case rest =>
      rename_i hK2 _ hK
      obtain ⟨rfl, rfl⟩ := hcut
      refine hK _ _ ?_
      refine wp_cond_false (by rfl) (wp_skip ?_)
      refine hK2 _ _ ?_
      clear hK hK2 HD1 HD2
      go_upto_region 18 with fail
      go_cut [16, 17, 18] (fun vx vv ve W => ∃ x7 x8, vx = .pointer (some ⟨x7, 0, none⟩) ∧ vv = .pointer (some ⟨x8, 0, none⟩) ∧ ve = .int .i64 0 ∧ Hid (W.heap[x7]? = some (.cells e2.cs.toArray 31 (0, 0))) ∧ Hid (W.heap[x8]? = some (.cells (evL kd ef 0).toArray 41 (0, 0))) ∧ Hid (W.heap[w.heap.size]? = some (.cells (frc f).toArray 24 (0, 0))) ∧ Hid (W.heap[w.heap.size + 1]? = some (.cells (frc g).toArray 24 (0, 0))) ∧ Hid (W.heap[y]? = some (.cells c1.cs.toArray 31 (0, 0))) ∧ Hid (Below w.heap.size w W) ∧ y < x7 ∧ w.heap.size + 1 < x7)
      case first =>
        clear HKD HEF HE2 HLI HCB STEP ATD END
        go_wp2_with fail
        refine wp_region_L [0, 1, 2, 3, 5, 6, 7, 8] [(0, fun W => W.heap[y]? = some (.cells c1.cs.toArray 31 (0, 0)))] (by kernel_rfl) ?_
        replace F := hide (show wc.drew.heap[w.heap.size]? = some (.cells (frc f).toArray 24 (0, 0)) from F.out)
        replace G := hide (show wc.drew.heap[w.heap.size + 1]? = some (.cells (frc g).toArray 24 (0, 0)) from G.out)
        replace C := hide (show wc.drew.heap[y]? = some (.cells c1.cs.toArray 31 (0, 0)) from C.out)
        replace Q := hide (show Below w.heap.size w wc.drew from Q.out.drew)
        generalize wc.drew = wd at *
        refine wpAnyL_load (i := 0) (v := .agg c1.cs.toArray) rfl rfl (by kernel_rfl) (by kernel_rfl) (by kernel_rfl) (by kernel_rfl) (by kernel_rfl) (fun _ _ _ h => h) rfl (fun W h => exec_heap W y 31 _ _ h Tryz.underlying31 rfl (by kernel_rfl) _ _ (.tmp 5) (by rfl) (by rfl)) (C.out) ?_
        go_simp
        refine wpAnyL_pure (i := 1) (v := .string TS) rfl rfl (by kernel_rfl) (by kernel_rfl) (by kernel_rfl) (by kernel_rfl) (by kernel_rfl) (fun _ _ _ h => h) rfl (fun W => by go_simp) ?_
        go_simp
        refine wpAnyL_pure (i := 2) (v := .int .i64 i) rfl rfl (by kernel_rfl) (by kernel_rfl) (by kernel_rfl) (by kernel_rfl) (by kernel_rfl) (fun _ _ _ h => h) rfl (fun W => by go_simp) ?_
        go_simp
        refine wpAnyL_pure (i := 3) (v := .int .u8 TS[i].toNat) rfl rfl (by kernel_rfl) (by kernel_rfl) (by kernel_rfl) (by kernel_rfl) (by kernel_rfl) (fun _ _ _ h => h) rfl (fun W => by go_simp) ?_
        go_simp
        refine wpAnyL_three (i := 4) (k := 9) (m := 10) (by kernel_rfl) ?_ ?_ ?_
        · refine wpOp_do rfl rfl ?_
          go_simp
          (with_reducible refine (SA.out _).mono ?_)
          rintro ewda wda ⟨rfl, q⟩
          replace F := hide (heap_below F.out q)
          replace G := hide (heap_below G.out q)
          replace C := hide (heap_below C.out q)
          replace Q := hide (below_next Q.out Q.out.size q)
          clear q
          go_simp
          refine ⟨keepsL_all (by kernel_rfl) (by kernel_rfl), ?_⟩
          go_simp
          refine wpAnyL_pure (i := 5) (v := .tuple #[.agg (e2.cs).toArray, .agg (evL kd ef 0).toArray, .int .i64 0]) rfl rfl (by kernel_rfl) (by kernel_rfl) (by kernel_rfl) (by kernel_rfl) (by kernel_rfl) (fun _ _ _ h => h) rfl (fun W => by go_simp) ?_
          go_simp
          refine wpAnyL_pure (i := 6) (v := .agg (e2.cs).toArray) rfl rfl (by kernel_rfl) (by kernel_rfl) (by kernel_rfl) (by kernel_rfl) (by kernel_rfl) (fun _ _ _ h => h) rfl (fun W => by go_simp) ?_
          go_simp
          refine wpAnyL_pure (i := 7) (v := .agg (evL kd ef 0).toArray) rfl rfl (by kernel_rfl) (by kernel_rfl) (by kernel_rfl) (by kernel_rfl) (by kernel_rfl) (fun _ _ _ h => h) rfl (fun W => by go_simp) ?_
          go_simp
          refine wpAnyL_pure (i := 8) (v := .int .i64 0) rfl rfl (by kernel_rfl) (by kernel_rfl) (by kernel_rfl) (by kernel_rfl) (by kernel_rfl) (fun _ _ _ h => h) rfl (fun W => by go_simp) ?_
          go_simp
          refine wpAnyL_two (i := 9) (k := 10) (by kernel_rfl) ?_ ?_
          · refine wpOp_do rfl rfl ?_
            go_simp
            have q : Below wda.heap.size wda (wda.alloc (.cells zCl.cs.toArray 31)) := (Below.refl _ _).alloc (Nat.le_refl _) _
            have N7 := hide (World.alloc_heap_new wda (.cells zCl.cs.toArray 31))
            have z7F : w.heap.size < wda.heap.size := heap_lt F.out
            have z7G : w.heap.size + 1 < wda.heap.size := heap_lt G.out
            have z7C : y < wda.heap.size := heap_lt C.out
            replace F := hide (heap_below F.out q)
            replace G := hide (heap_below G.out q)
            replace C := hide (heap_below C.out q)
            replace Q := hide (below_next Q.out Q.out.size q)
            clear q
            refine ⟨keepsL_mk (by kernel_rfl) (.cons C.out .nil), ?_⟩
            change wpAnyL _ _ _ _ _ _ _ _ _ (wda.alloc (.cells zCl.cs.toArray 31))
            generalize wda.alloc (.cells zCl.cs.toArray 31) = wdab at *
            generalize wda.heap.size = x7 at *
            go_simp
            refine wpAnyL_one (i := 10) (by kernel_rfl) ?_
            refine wpOp_do rfl rfl ?_
            go_simp
            have q : Below wdab.heap.size wdab (wdab.alloc (.cells (evL 0 zFr 0).toArray 41)) := (Below.refl _ _).alloc (Nat.le_refl _) _
            have N8 := hide (World.alloc_heap_new wdab (.cells (evL 0 zFr 0).toArray 41))
            have z8F : w.heap.size < wdab.heap.size := heap_lt F.out
            have z8G : w.heap.size + 1 < wdab.heap.size := heap_lt G.out
            have z8C : y < wdab.heap.size := heap_lt C.out
            have z78 : x7 < wdab.heap.size := heap_lt N7.out
            replace F := hide (heap_below F.out q)
            replace G := hide (heap_below G.out q)
            replace C := hide (heap_below C.out q)
            replace N7 := hide (heap_below N7.out q)
            replace Q := hide (below_next Q.out Q.out.size q)
            clear q
            refine ⟨keepsL_mk (by kernel_rfl) (.cons C.out .nil), ?_⟩
            change wpAnyL _ _ _ _ _ _ _ _ _ (wdab.alloc (.cells (evL 0 zFr 0).toArray 41))
            generalize wdab.alloc (.cells (evL 0 zFr 0).toArray 41) = wdabc at *
            generalize wdab.heap.size = x8 at *
            go_simp
            have T7 := hide (show wdabc.there x7 0 23 from there_heap (cs := zCl.cs) N7.out)
            refine wpAnyL_one (i := 11) (by kernel_rfl) ?_
            refine wpOp_do rfl rfl ?_
            refine wp_store_as 31 (.tmp 16) (.tmp 116) rfl x7 0 (e2.cs) (by rfl) (by rfl) (by exact T7.out) (by kernel_rfl) (by simp [Value.oneCell', Cl.cs]) ?_
            intro wa ea
            have N7a := hide (show wa.heap[x7]? = some (.cells (e2.cs).toArray 31 (0, 0)) by rw [ea]; exact whole_heap (e2.cs) (xs := zCl.cs) N7.out rfl)
            have N8a := hide (show wa.heap[x8]? = some (.cells (evL 0 zFr 0).toArray 41 (0, 0)) by rw [ea]; exact other_heap (by omega) _ _ _ N8.out)
            have Fa := hide (show wa.heap[w.heap.size]? = some (.cells (frc f).toArray 24 (0, 0)) by rw [ea]; exact other_heap (by omega) _ _ _ F.out)
            have Ga := hide (show wa.heap[w.heap.size + 1]? = some (.cells (frc g).toArray 24 (0, 0)) by rw [ea]; exact other_heap (by omega) _ _ _ G.out)
            have Ca := hide (show wa.heap[y]? = some (.cells c1.cs.toArray 31 (0, 0)) by rw [ea]; exact other_heap (by omega) _ _ _ C.out)
            have Qa := hide (show Below w.heap.size w wa by rw [ea]; exact Q.out.trans (below_setCells _ _ _ (by have := Q.out.size; omega)))
            clear ea T7 N7 N8 Q F G C
            refine ⟨keepsL_all (by kernel_rfl) (by kernel_rfl), ?_⟩
            go_simp
            have T8 := hide (show wa.there x8 0 7 from there_heap (cs := evL 0 zFr 0) N8a.out)
            refine wpAnyL_one (i := 12) (by kernel_rfl) ?_
            refine wpOp_do rfl rfl ?_
            refine wp_store_as 41 (.tmp 17) (.tmp 117) rfl x8 0 (evL kd ef 0) (by rfl) (by rfl) (by exact T8.out) (by kernel_rfl) (by simp [Value.oneCell', evL]) ?_
            intro wb eb
            have N7 := hide (show wb.heap[x7]? = some (.cells (e2.cs).toArray 31 (0, 0)) by rw [eb]; exact other_heap (by omega) _ _ _ N7a.out)
            have N8 := hide (show wb.heap[x8]? = some (.cells (evL kd ef 0).toArray 41 (0, 0)) by rw [eb]; exact whole_heap (evL kd ef 0) (xs := evL 0 zFr 0) N8a.out rfl)
            have F := hide (show wb.heap[w.heap.size]? = some (.cells (frc f).toArray 24 (0, 0)) by rw [eb]; exact other_heap (by omega) _ _ _ Fa.out)
            have G := hide (show wb.heap[w.heap.size + 1]? = some (.cells (frc g).toArray 24 (0, 0)) by rw [eb]; exact other_heap (by omega) _ _ _ Ga.out)
            have C := hide (show wb.heap[y]? = some (.cells c1.cs.toArray 31 (0, 0)) by rw [eb]; exact other_heap (by omega) _ _ _ Ca.out)
            have Q := hide (show Below w.heap.size w wb by rw [eb]; exact Qa.out.trans (below_setCells _ _ _ (by have := Qa.out.size; omega)))
            clear eb T8 N7a N8a Qa Fa Ga Ca
            refine ⟨keepsL_all (by kernel_rfl) (by kernel_rfl), ?_⟩
            go_simp
            refine wpAnyL_one (i := 13) (by kernel_rfl) ?_
            refine wpOp_do rfl rfl ?_
            go_simp
            refine ⟨keepsL_all (by kernel_rfl) (by kernel_rfl), ?_⟩
            go_simp
            refine wpAnyL_done (by kernel_rfl) ?_ _
            go_wp2_with fail
            go_meet
            exact ⟨x7, x8, rfl, rfl, rfl, N7, N8, F, G, C, Q, by omega, by omega⟩
          · refine wpOp_do rfl rfl ?_
            go_simp
            have q : Below wda.heap.size wda (wda.alloc (.cells (evL 0 zFr 0).toArray 41)) := (Below.refl _ _).alloc (Nat.le_refl _) _
            have N8 := hide (World.alloc_heap_new wda (.cells (evL 0 zFr 0).toArray 41))
            have z8F : w.heap.size < wda.heap.size := heap_lt F.out
            have z8G : w.heap.size + 1 < wda.heap.size := heap_lt G.out
            have z8C : y < wda.heap.size := heap_lt C.out
            replace F := hide (heap_below F.out q)
            replace G := hide (heap_below G.out q)
            replace C := hide (heap_below C.out q)
            replace Q := hide (below_next Q.out Q.out.size q)
            clear q
            refine ⟨keepsL_mk (by kernel_rfl) (.cons C.out .nil), ?_⟩
            change wpAnyL _ _ _ _ _ _ _ _ _ (wda.alloc (.cells (evL 0 zFr 0).toArray 41))
            generalize wda.alloc (.cells (evL 0 zFr 0).toArray 41) = wdac at *
            generalize wda.heap.size = x8 at *
            go_simp
            refine wpAnyL_one (i := 9) (by kernel_rfl) ?_
            refine wpOp_do rfl rfl ?_
            go_simp
            have q : Below wdac.heap.size wdac (wdac.alloc (.cells zCl.cs.toArray 31)) := (Below.refl _ _).alloc (Nat.le_refl _) _
            have N7 := hide (World.alloc_heap_new wdac (.cells zCl.cs.toArray 31))
            have z7F : w.heap.size < wdac.heap.size := heap_lt F.out
            have z7G : w.heap.size + 1 < wdac.heap.size := heap_lt G.out
            have z7C : y < wdac.heap.size := heap_lt C.out
            have z78 : x8 < wdac.heap.size := heap_lt N8.out
            replace F := hide (heap_below F.out q)
            replace G := hide (heap_below G.out q)
            replace C := hide (heap_below C.out q)
            replace N8 := hide (heap_below N8.out q)
            replace Q := hide (below_next Q.out Q.out.size q)
            clear q
            refine ⟨keepsL_mk (by kernel_rfl) (.cons C.out .nil), ?_⟩
            change wpAnyL _ _ _ _ _ _ _ _ _ (wdac.alloc (.cells zCl.cs.toArray 31))
            generalize wdac.alloc (.cells zCl.cs.toArray 31) = wdacb at *
            generalize wdac.heap.size = x7 at *
            go_simp
            have T7 := hide (show wdacb.there x7 0 23 from there_heap (cs := zCl.cs) N7.out)
            refine wpAnyL_one (i := 11) (by kernel_rfl) ?_
            refine wpOp_do rfl rfl ?_
            refine wp_store_as 31 (.tmp 16) (.tmp 116) rfl x7 0 (e2.cs) (by rfl) (by rfl) (by exact T7.out) (by kernel_rfl) (by simp [Value.oneCell', Cl.cs]) ?_
            intro wa ea
            have N7a := hide (show wa.heap[x7]? = some (.cells (e2.cs).toArray 31 (0, 0)) by rw [ea]; exact whole_heap (e2.cs) (xs := zCl.cs) N7.out rfl)
            have N8a := hide (show wa.heap[x8]? = some (.cells (evL 0 zFr 0).toArray 41 (0, 0)) by rw [ea]; exact other_heap (by omega) _ _ _ N8.out)
            have Fa := hide (show wa.heap[w.heap.size]? = some (.cells (frc f).toArray 24 (0, 0)) by rw [ea]; exact other_heap (by omega) _ _ _ F.out)
            have Ga := hide (show wa.heap[w.heap.size + 1]? = some (.cells (frc g).toArray 24 (0, 0)) by rw [ea]; exact other_heap (by omega) _ _ _ G.out)
            have Ca := hide (show wa.heap[y]? = some (.cells c1.cs.toArray 31 (0, 0)) by rw [ea]; exact other_heap (by omega) _ _ _ C.out)
            have Qa := hide (show Below w.heap.size w wa by rw [ea]; exact Q.out.trans (below_setCells _ _ _ (by have := Q.out.size; omega)))
            clear ea T7 N7 N8 Q F G C
            refine ⟨keepsL_all (by kernel_rfl) (by kernel_rfl), ?_⟩
            go_simp
            have T8 := hide (show wa.there x8 0 7 from there_heap (cs := evL 0 zFr 0) N8a.out)
            refine wpAnyL_one (i := 12) (by kernel_rfl) ?_
            refine wpOp_do rfl rfl ?_
            refine wp_store_as 41 (.tmp 17) (.tmp 117) rfl x8 0 (evL kd ef 0) (by rfl) (by rfl) (by exact T8.out) (by kernel_rfl) (by simp [Value.oneCell', evL]) ?_
            intro wb eb
            have N7 := hide (show wb.heap[x7]? = some (.cells (e2.cs).toArray 31 (0, 0)) by rw [eb]; exact other_heap (by omega) _ _ _ N7a.out)
            have N8 := hide (show wb.heap[x8]? = some (.cells (evL kd ef 0).toArray 41 (0, 0)) by rw [eb]; exact whole_heap (evL kd ef 0) (xs := evL 0 zFr 0) N8a.out rfl)
            have F := hide (show wb.heap[w.heap.size]? = some (.cells (frc f).toArray 24 (0, 0)) by rw [eb]; exact other_heap (by omega) _ _ _ Fa.out)
            have G := hide (show wb.heap[w.heap.size + 1]? = some (.cells (frc g).toArray 24 (0, 0)) by rw [eb]; exact other_heap (by omega) _ _ _ Ga.out)
            have C := hide (show wb.heap[y]? = some (.cells c1.cs.toArray 31 (0, 0)) by rw [eb]; exact other_heap (by omega) _ _ _ Ca.out)
            have Q := hide (show Below w.heap.size w wb by rw [eb]; exact Qa.out.trans (below_setCells _ _ _ (by have := Qa.out.size; omega)))
            clear eb T8 N7a N8a Qa Fa Ga Ca
            refine ⟨keepsL_all (by kernel_rfl) (by kernel_rfl), ?_⟩
            go_simp
            refine wpAnyL_one (i := 13) (by kernel_rfl) ?_
            refine wpOp_do rfl rfl ?_
            go_simp
            refine ⟨keepsL_all (by kernel_rfl) (by kernel_rfl), ?_⟩
            go_simp
            refine wpAnyL_done (by kernel_rfl) ?_ _
            go_wp2_with fail
            go_meet
            exact ⟨x7, x8, rfl, rfl, rfl, N7, N8, F, G, C, Q, by omega, by omega⟩
        · refine wpOp_do rfl rfl ?_
          go_simp
          have q : Below wd.heap.size wd (wd.alloc (.cells zCl.cs.toArray 31)) := (Below.refl _ _).alloc (Nat.le_refl _) _
          have N7 := hide (World.alloc_heap_new wd (.cells zCl.cs.toArray 31))
          have z7F : w.heap.size < wd.heap.size := heap_lt F.out
          have z7G : w.heap.size + 1 < wd.heap.size := heap_lt G.out
          have z7C : y < wd.heap.size := heap_lt C.out
          replace F := hide (heap_below F.out q)
          replace G := hide (heap_below G.out q)
          replace C := hide (heap_below C.out q)
          replace Q := hide (below_next Q.out Q.out.size q)
          clear q
          refine ⟨keepsL_mk (by kernel_rfl) (.cons C.out .nil), ?_⟩
          change wpAnyL _ _ _ _ _ _ _ _ _ (wd.alloc (.cells zCl.cs.toArray 31))
          generalize wd.alloc (.cells zCl.cs.toArray 31) = wdb at *
          generalize wd.heap.size = x7 at *
          go_simp
          refine wpAnyL_two (i := 4) (k := 10) (by kernel_rfl) ?_ ?_
          · refine wpOp_do rfl rfl ?_
            go_simp
            (with_reducible refine (SA.out _).mono ?_)
            rintro ewdba wdba ⟨rfl, q⟩
            replace F := hide (heap_below F.out q)
            replace G := hide (heap_below G.out q)
            replace C := hide (heap_below C.out q)
            replace N7 := hide (heap_below N7.out q)
            replace Q := hide (below_next Q.out Q.out.size q)
            clear q
            go_simp
            refine ⟨keepsL_all (by kernel_rfl) (by kernel_rfl), ?_⟩
            go_simp
            refine wpAnyL_pure (i := 5) (v := .tuple #[.agg (e2.cs).toArray, .agg (evL kd ef 0).toArray, .int .i64 0]) rfl rfl (by kernel_rfl) (by kernel_rfl) (by kernel_rfl) (by kernel_rfl) (by kernel_rfl) (fun _ _ _ h => h) rfl (fun W => by go_simp) ?_
            go_simp
            refine wpAnyL_pure (i := 6) (v := .agg (e2.cs).toArray) rfl rfl (by kernel_rfl) (by kernel_rfl) (by kernel_rfl) (by kernel_rfl) (by kernel_rfl) (fun _ _ _ h => h) rfl (fun W => by go_simp) ?_
            go_simp
            refine wpAnyL_pure (i := 7) (v := .agg (evL kd ef 0).toArray) rfl rfl (by kernel_rfl) (by kernel_rfl) (by kernel_rfl) (by kernel_rfl) (by kernel_rfl) (fun _ _ _ h => h) rfl (fun W => by go_simp) ?_
            go_simp
            refine wpAnyL_pure (i := 8) (v := .int .i64 0) rfl rfl (by kernel_rfl) (by kernel_rfl) (by kernel_rfl) (by kernel_rfl) (by kernel_rfl) (fun _ _ _ h => h) rfl (fun W => by go_simp) ?_
            go_simp
            refine wpAnyL_one (i := 10) (by kernel_rfl) ?_
            refine wpOp_do rfl rfl ?_
            go_simp
            have q : Below wdba.heap.size wdba (wdba.alloc (.cells (evL 0 zFr 0).toArray 41)) := (Below.refl _ _).alloc (Nat.le_refl _) _
            have N8 := hide (World.alloc_heap_new wdba (.cells (evL 0 zFr 0).toArray 41))
            have z8F : w.heap.size < wdba.heap.size := heap_lt F.out
            have z8G : w.heap.size + 1 < wdba.heap.size := heap_lt G.out
            have z8C : y < wdba.heap.size := heap_lt C.out
            have z78 : x7 < wdba.heap.size := heap_lt N7.out
            replace F := hide (heap_below F.out q)
            replace G := hide (heap_below G.out q)
            replace C := hide (heap_below C.out q)
            replace N7 := hide (heap_below N7.out q)
            replace Q := hide (below_next Q.out Q.out.size q)
            clear q
            refine ⟨keepsL_mk (by kernel_rfl) (.cons C.out .nil), ?_⟩
            change wpAnyL _ _ _ _ _ _ _ _ _ (wdba.alloc (.cells (evL 0 zFr 0).toArray 41))
            generalize wdba.alloc (.cells (evL 0 zFr 0).toArray 41) = wdbac at *
            generalize wdba.heap.size = x8 at *
            go_simp
            have T7 := hide (show wdbac.there x7 0 23 from there_heap (cs := zCl.cs) N7.out)
            refine wpAnyL_one (i := 11) (by kernel_rfl) ?_
            refine wpOp_do rfl rfl ?_
            refine wp_store_as 31 (.tmp 16) (.tmp 116) rfl x7 0 (e2.cs) (by rfl) (by rfl) (by exact T7.out) (by kernel_rfl) (by simp [Value.oneCell', Cl.cs]) ?_
            intro wa ea
            have N7a := hide (show wa.heap[x7]? = some (.cells (e2.cs).toArray 31 (0, 0)) by rw [ea]; exact whole_heap (e2.cs) (xs := zCl.cs) N7.out rfl)
            have N8a := hide (show wa.heap[x8]? = some (.cells (evL 0 zFr 0).toArray 41 (0, 0)) by rw [ea]; exact other_heap (by omega) _ _ _ N8.out)
            have Fa := hide (show wa.heap[w.heap.size]? = some (.cells (frc f).toArray 24 (0, 0)) by rw [ea]; exact other_heap (by omega) _ _ _ F.out)
            have Ga := hide (show wa.heap[w.heap.size + 1]? = some (.cells (frc g).toArray 24 (0, 0)) by rw [ea]; exact other_heap (by omega) _ _ _ G.out)
            have Ca := hide (show wa.heap[y]? = some (.cells c1.cs.toArray 31 (0, 0)) by rw [ea]; exact other_heap (by omega) _ _ _ C.out)
            have Qa := hide (show Below w.heap.size w wa by rw [ea]; exact Q.out.trans (below_setCells _ _ _ (by have := Q.out.size; omega)))
            clear ea T7 N7 N8 Q F G C
            refine ⟨keepsL_all (by kernel_rfl) (by kernel_rfl), ?_⟩
            go_simp
            have T8 := hide (show wa.there x8 0 7 from there_heap (cs := evL 0 zFr 0) N8a.out)
            refine wpAnyL_one (i := 12) (by kernel_rfl) ?_
            refine wpOp_do rfl rfl ?_
            refine wp_store_as 41 (.tmp 17) (.tmp 117) rfl x8 0 (evL kd ef 0) (by rfl) (by rfl) (by exact T8.out) (by kernel_rfl) (by simp [Value.oneCell', evL]) ?_
            intro wb eb
            have N7 := hide (show wb.heap[x7]? = some (.cells (e2.cs).toArray 31 (0, 0)) by rw [eb]; exact other_heap (by omega) _ _ _ N7a.out)
            have N8 := hide (show wb.heap[x8]? = some (.cells (evL kd ef 0).toArray 41 (0, 0)) by rw [eb]; exact whole_heap (evL kd ef 0) (xs := evL 0 zFr 0) N8a.out rfl)
            have F := hide (show wb.heap[w.heap.size]? = some (.cells (frc f).toArray 24 (0, 0)) by rw [eb]; exact other_heap (by omega) _ _ _ Fa.out)
            have G := hide (show wb.heap[w.heap.size + 1]? = some (.cells (frc g).toArray 24 (0, 0)) by rw [eb]; exact other_heap (by omega) _ _ _ Ga.out)
            have C := hide (show wb.heap[y]? = some (.cells c1.cs.toArray 31 (0, 0)) by rw [eb]; exact other_heap (by omega) _ _ _ Ca.out)
            have Q := hide (show Below w.heap.size w wb by rw [eb]; exact Qa.out.trans (below_setCells _ _ _ (by have := Qa.out.size; omega)))
            clear eb T8 N7a N8a Qa Fa Ga Ca
            refine ⟨keepsL_all (by kernel_rfl) (by kernel_rfl), ?_⟩
            go_simp
            refine wpAnyL_one (i := 13) (by kernel_rfl) ?_
            refine wpOp_do rfl rfl ?_
            go_simp
            refine ⟨keepsL_all (by kernel_rfl) (by kernel_rfl), ?_⟩
            go_simp
            refine wpAnyL_done (by kernel_rfl) ?_ _
            go_wp2_with fail
            go_meet
            exact ⟨x7, x8, rfl, rfl, rfl, N7, N8, F, G, C, Q, by omega, by omega⟩
          · refine wpOp_do rfl rfl ?_
            go_simp
            have q : Below wdb.heap.size wdb (wdb.alloc (.cells (evL 0 zFr 0).toArray 41)) := (Below.refl _ _).alloc (Nat.le_refl _) _
            have N8 := hide (World.alloc_heap_new wdb (.cells (evL 0 zFr 0).toArray 41))
            have z8F : w.heap.size < wdb.heap.size := heap_lt F.out
            have z8G : w.heap.size + 1 < wdb.heap.size := heap_lt G.out
            have z8C : y < wdb.heap.size := heap_lt C.out
            have z78 : x7 < wdb.heap.size := heap_lt N7.out
            replace F := hide (heap_below F.out q)
            replace G := hide (heap_below G.out q)
            replace C := hide (heap_below C.out q)
            replace N7 := hide (heap_below N7.out q)
            replace Q := hide (below_next Q.out Q.out.size q)
            clear q
            refine ⟨keepsL_mk (by kernel_rfl) (.cons C.out .nil), ?_⟩
            change wpAnyL _ _ _ _ _ _ _ _ _ (wdb.alloc (.cells (evL 0 zFr 0).toArray 41))
            generalize wdb.alloc (.cells (evL 0 zFr 0).toArray 41) = wdbc at *
            generalize wdb.heap.size = x8 at *
            go_simp
            refine wpAnyL_one (i := 4) (by kernel_rfl) ?_
            refine wpOp_do rfl rfl ?_
            go_simp
            (with_reducible refine (SA.out _).mono ?_)
            rintro ewdbca wdbca ⟨rfl, q⟩
            replace F := hide (heap_below F.out q)
            replace G := hide (heap_below G.out q)
            replace C := hide (heap_below C.out q)
            replace N7 := hide (heap_below N7.out q)
            replace N8 := hide (heap_below N8.out q)
            replace Q := hide (below_next Q.out Q.out.size q)
            clear q
            go_simp
            refine ⟨keepsL_all (by kernel_rfl) (by kernel_rfl), ?_⟩
            go_simp
            refine wpAnyL_pure (i := 5) (v := .tuple #[.agg (e2.cs).toArray, .agg (evL kd ef 0).toArray, .int .i64 0]) rfl rfl (by kernel_rfl) (by kernel_rfl) (by kernel_rfl) (by kernel_rfl) (by kernel_rfl) (fun _ _ _ h => h) rfl (fun W => by go_simp) ?_
            go_simp
            refine wpAnyL_pure (i := 6) (v := .agg (e2.cs).toArray) rfl rfl (by kernel_rfl) (by kernel_rfl) (by kernel_rfl) (by kernel_rfl) (by kernel_rfl) (fun _ _ _ h => h) rfl (fun W => by go_simp) ?_
            go_simp
            refine wpAnyL_pure (i := 7) (v := .agg (evL kd ef 0).toArray) rfl rfl (by kernel_rfl) (by kernel_rfl) (by kernel_rfl) (by kernel_rfl) (by kernel_rfl) (fun _ _ _ h => h) rfl (fun W => by go_simp) ?_
            go_simp
            refine wpAnyL_pure (i := 8) (v := .int .i64 0) rfl rfl (by kernel_rfl) (by kernel_rfl) (by kernel_rfl) (by kernel_rfl) (by kernel_rfl) (fun _ _ _ h => h) rfl (fun W => by go_simp) ?_
            go_simp
            have T7 := hide (show wdbca.there x7 0 23 from there_heap (cs := zCl.cs) N7.out)
            refine wpAnyL_one (i := 11) (by kernel_rfl) ?_
            refine wpOp_do rfl rfl ?_
            refine wp_store_as 31 (.tmp 16) (.tmp 116) rfl x7 0 (e2.cs) (by rfl) (by rfl) (by exact T7.out) (by kernel_rfl) (by simp [Value.oneCell', Cl.cs]) ?_
            intro wa ea
            have N7a := hide (show wa.heap[x7]? = some (.cells (e2.cs).toArray 31 (0, 0)) by rw [ea]; exact whole_heap (e2.cs) (xs := zCl.cs) N7.out rfl)
            have N8a := hide (show wa.heap[x8]? = some (.cells (evL 0 zFr 0).toArray 41 (0, 0)) by rw [ea]; exact other_heap (by omega) _ _ _ N8.out)
            have Fa := hide (show wa.heap[w.heap.size]? = some (.cells (frc f).toArray 24 (0, 0)) by rw [ea]; exact other_heap (by omega) _ _ _ F.out)
            have Ga := hide (show wa.heap[w.heap.size + 1]? = some (.cells (frc g).toArray 24 (0, 0)) by rw [ea]; exact other_heap (by omega) _ _ _ G.out)
            have Ca := hide (show wa.heap[y]? = some (.cells c1.cs.toArray 31 (0, 0)) by rw [ea]; exact other_heap (by omega) _ _ _ C.out)
            have Qa := hide (show Below w.heap.size w wa by rw [ea]; exact Q.out.trans (below_setCells _ _ _ (by have := Q.out.size; omega)))
            clear ea T7 N7 N8 Q F G C
            refine ⟨keepsL_all (by kernel_rfl) (by kernel_rfl), ?_⟩
            go_simp
            have T8 := hide (show wa.there x8 0 7 from there_heap (cs := evL 0 zFr 0) N8a.out)
            refine wpAnyL_one (i := 12) (by kernel_rfl) ?_
            refine wpOp_do rfl rfl ?_
            refine wp_store_as 41 (.tmp 17) (.tmp 117) rfl x8 0 (evL kd ef 0) (by rfl) (by rfl) (by exact T8.out) (by kernel_rfl) (by simp [Value.oneCell', evL]) ?_
            intro wb eb
            have N7 := hide (show wb.heap[x7]? = some (.cells (e2.cs).toArray 31 (0, 0)) by rw [eb]; exact other_heap (by omega) _ _ _ N7a.out)
            have N8 := hide (show wb.heap[x8]? = some (.cells (evL kd ef 0).toArray 41 (0, 0)) by rw [eb]; exact whole_heap (evL kd ef 0) (xs := evL 0 zFr 0) N8a.out rfl)
            have F := hide (show wb.heap[w.heap.size]? = some (.cells (frc f).toArray 24 (0, 0)) by rw [eb]; exact other_heap (by omega) _ _ _ Fa.out)
            have G := hide (show wb.heap[w.heap.size + 1]? = some (.cells (frc g).toArray 24 (0, 0)) by rw [eb]; exact other_heap (by omega) _ _ _ Ga.out)
            have C := hide (show wb.heap[y]? = some (.cells c1.cs.toArray 31 (0, 0)) by rw [eb]; exact other_heap (by omega) _ _ _ Ca.out)
            have Q := hide (show Below w.heap.size w wb by rw [eb]; exact Qa.out.trans (below_setCells _ _ _ (by have := Qa.out.size; omega)))
            clear eb T8 N7a N8a Qa Fa Ga Ca
            refine ⟨keepsL_all (by kernel_rfl) (by kernel_rfl), ?_⟩
            go_simp
            refine wpAnyL_one (i := 13) (by kernel_rfl) ?_
            refine wpOp_do rfl rfl ?_
            go_simp
            refine ⟨keepsL_all (by kernel_rfl) (by kernel_rfl), ?_⟩
            go_simp
            refine wpAnyL_done (by kernel_rfl) ?_ _
            go_wp2_with fail
            go_meet
            exact ⟨x7, x8, rfl, rfl, rfl, N7, N8, F, G, C, Q, by omega, by omega⟩
        · refine wpOp_do rfl rfl ?_
          go_simp
          have q : Below wd.heap.size wd (wd.alloc (.cells (evL 0 zFr 0).toArray 41)) := (Below.refl _ _).alloc (Nat.le_refl _) _
          have N8 := hide (World.alloc_heap_new wd (.cells (evL 0 zFr 0).toArray 41))
          have z8F : w.heap.size < wd.heap.size := heap_lt F.out
          have z8G : w.heap.size + 1 < wd.heap.size := heap_lt G.out
          have z8C : y < wd.heap.size := heap_lt C.out
          replace F := hide (heap_below F.out q)
          replace G := hide (heap_below G.out q)
          replace C := hide (heap_below C.out q)
          replace Q := hide (below_next Q.out Q.out.size q)
          clear q
          refine ⟨keepsL_mk (by kernel_rfl) (.cons C.out .nil), ?_⟩
          change wpAnyL _ _ _ _ _ _ _ _ _ (wd.alloc (.cells (evL 0 zFr 0).toArray 41))
          generalize wd.alloc (.cells (evL 0 zFr 0).toArray 41) = wdc at *
          generalize wd.heap.size = x8 at *
          go_simp
          refine wpAnyL_two (i := 4) (k := 9) (by kernel_rfl) ?_ ?_
          · refine wpOp_do rfl rfl ?_
            go_simp
            (with_reducible refine (SA.out _).mono ?_)
            rintro ewdca wdca ⟨rfl, q⟩
            replace F := hide (heap_below F.out q)
            replace G := hide (heap_below G.out q)
            replace C := hide (heap_below C.out q)
            replace N8 := hide (heap_below N8.out q)
            replace Q := hide (below_next Q.out Q.out.size q)
            clear q
            go_simp
            refine ⟨keepsL_all (by kernel_rfl) (by kernel_rfl), ?_⟩
            go_simp
            refine wpAnyL_pure (i := 5) (v := .tuple #[.agg (e2.cs).toArray, .agg (evL kd ef 0).toArray, .int .i64 0]) rfl rfl (by kernel_rfl) (by kernel_rfl) (by kernel_rfl) (by kernel_rfl) (by kernel_rfl) (fun _ _ _ h => h) rfl (fun W => by go_simp) ?_
            go_simp
            refine wpAnyL_pure (i := 6) (v := .agg (e2.cs).toArray) rfl rfl (by kernel_rfl) (by kernel_rfl) (by kernel_rfl) (by kernel_rfl) (by kernel_rfl) (fun _ _ _ h => h) rfl (fun W => by go_simp) ?_
            go_simp
            refine wpAnyL_pure (i := 7) (v := .agg (evL kd ef 0).toArray) rfl rfl (by kernel_rfl) (by kernel_rfl) (by kernel_rfl) (by kernel_rfl) (by kernel_rfl) (fun _ _ _ h => h) rfl (fun W => by go_simp) ?_
            go_simp
            refine wpAnyL_pure (i := 8) (v := .int .i64 0) rfl rfl (by kernel_rfl) (by kernel_rfl) (by kernel_rfl) (by kernel_rfl) (by kernel_rfl) (fun _ _ _ h => h) rfl (fun W => by go_simp) ?_
            go_simp
            refine wpAnyL_one (i := 9) (by kernel_rfl) ?_
            refine wpOp_do rfl rfl ?_
            go_simp
            have q : Below wdca.heap.size wdca (wdca.alloc (.cells zCl.cs.toArray 31)) := (Below.refl _ _).alloc (Nat.le_refl _) _
            have N7 := hide (World.alloc_heap_new wdca (.cells zCl.cs.toArray 31))
            have z7F : w.heap.size < wdca.heap.size := heap_lt F.out
            have z7G : w.heap.size + 1 < wdca.heap.size := heap_lt G.out
            have z7C : y < wdca.heap.size := heap_lt C.out
            have z78 : x8 < wdca.heap.size := heap_lt N8.out
            replace F := hide (heap_below F.out q)
            replace G := hide (heap_below G.out q)
            replace C := hide (heap_below C.out q)
            replace N8 := hide (heap_below N8.out q)
            replace Q := hide (below_next Q.out Q.out.size q)
            clear q
            refine ⟨keepsL_mk (by kernel_rfl) (.cons C.out .nil), ?_⟩
            change wpAnyL _ _ _ _ _ _ _ _ _ (wdca.alloc (.cells zCl.cs.toArray 31))
            generalize wdca.alloc (.cells zCl.cs.toArray 31) = wdcab at *
            generalize wdca.heap.size = x7 at *
            go_simp
            have T7 := hide (show wdcab.there x7 0 23 from there_heap (cs := zCl.cs) N7.out)
            refine wpAnyL_one (i := 11) (by kernel_rfl) ?_
            refine wpOp_do rfl rfl ?_
            refine wp_store_as 31 (.tmp 16) (.tmp 116) rfl x7 0 (e2.cs) (by rfl) (by rfl) (by exact T7.out) (by kernel_rfl) (by simp [Value.oneCell', Cl.cs]) ?_
            intro wa ea
            have N7a := hide (show wa.heap[x7]? = some (.cells (e2.cs).toArray 31 (0, 0)) by rw [ea]; exact whole_heap (e2.cs) (xs := zCl.cs) N7.out rfl)
            have N8a := hide (show wa.heap[x8]? = some (.cells (evL 0 zFr 0).toArray 41 (0, 0)) by rw [ea]; exact other_heap (by omega) _ _ _ N8.out)
            have Fa := hide (show wa.heap[w.heap.size]? = some (.cells (frc f).toArray 24 (0, 0)) by rw [ea]; exact other_heap (by omega) _ _ _ F.out)
            have Ga := hide (show wa.heap[w.heap.size + 1]? = some (.cells (frc g).toArray 24 (0, 0)) by rw [ea]; exact other_heap (by omega) _ _ _ G.out)
            have Ca := hide (show wa.heap[y]? = some (.cells c1.cs.toArray 31 (0, 0)) by rw [ea]; exact other_heap (by omega) _ _ _ C.out)
            have Qa := hide (show Below w.heap.size w wa by rw [ea]; exact Q.out.trans (below_setCells _ _ _ (by have := Q.out.size; omega)))
            clear ea T7 N7 N8 Q F G C
            refine ⟨keepsL_all (by kernel_rfl) (by kernel_rfl), ?_⟩
            go_simp
            have T8 := hide (show wa.there x8 0 7 from there_heap (cs := evL 0 zFr 0) N8a.out)
            refine wpAnyL_one (i := 12) (by kernel_rfl) ?_
            refine wpOp_do rfl rfl ?_
            refine wp_store_as 41 (.tmp 17) (.tmp 117) rfl x8 0 (evL kd ef 0) (by rfl) (by rfl) (by exact T8.out) (by kernel_rfl) (by simp [Value.oneCell', evL]) ?_
            intro wb eb
            have N7 := hide (show wb.heap[x7]? = some (.cells (e2.cs).toArray 31 (0, 0)) by rw [eb]; exact other_heap (by omega) _ _ _ N7a.out)
            have N8 := hide (show wb.heap[x8]? = some (.cells (evL kd ef 0).toArray 41 (0, 0)) by rw [eb]; exact whole_heap (evL kd ef 0) (xs := evL 0 zFr 0) N8a.out rfl)
            have F := hide (show wb.heap[w.heap.size]? = some (.cells (frc f).toArray 24 (0, 0)) by rw [eb]; exact other_heap (by omega) _ _ _ Fa.out)
            have G := hide (show wb.heap[w.heap.size + 1]? = some (.cells (frc g).toArray 24 (0, 0)) by rw [eb]; exact other_heap (by omega) _ _ _ Ga.out)
            have C := hide (show wb.heap[y]? = some (.cells c1.cs.toArray 31 (0, 0)) by rw [eb]; exact other_heap (by omega) _ _ _ Ca.out)
            have Q := hide (show Below w.heap.size w wb by rw [eb]; exact Qa.out.trans (below_setCells _ _ _ (by have := Qa.out.size; omega)))
            clear eb T8 N7a N8a Qa Fa Ga Ca
            refine ⟨keepsL_all (by kernel_rfl) (by kernel_rfl), ?_⟩
            go_simp
            refine wpAnyL_one (i := 13) (by kernel_rfl) ?_
            refine wpOp_do rfl rfl ?_
            go_simp
            refine ⟨keepsL_all (by kernel_rfl) (by kernel_rfl), ?_⟩
            go_simp
            refine wpAnyL_done (by kernel_rfl) ?_ _
            go_wp2_with fail
            go_meet
            exact ⟨x7, x8, rfl, rfl, rfl, N7, N8, F, G, C, Q, by omega, by omega⟩
          · refine wpOp_do rfl rfl ?_
            go_simp
            have q : Below wdc.heap.size wdc (wdc.alloc (.cells zCl.cs.toArray 31)) := (Below.refl _ _).alloc (Nat.le_refl _) _
            have N7 := hide (World.alloc_heap_new wdc (.cells zCl.cs.toArray 31))
            have z7F : w.heap.size < wdc.heap.size := heap_lt F.out
            have z7G : w.heap.size + 1 < wdc.heap.size := heap_lt G.out
            have z7C : y < wdc.heap.size := heap_lt C.out
            have z78 : x8 < wdc.heap.size := heap_lt N8.out
            replace F := hide (heap_below F.out q)
            replace G := hide (heap_below G.out q)
            replace C := hide (heap_below C.out q)
            replace N8 := hide (heap_below N8.out q)
            replace Q := hide (below_next Q.out Q.out.size q)
            clear q
            refine ⟨keepsL_mk (by kernel_rfl) (.cons C.out .nil), ?_⟩
            change wpAnyL _ _ _ _ _ _ _ _ _ (wdc.alloc (.cells zCl.cs.toArray 31))
            generalize wdc.alloc (.cells zCl.cs.toArray 31) = wdcb at *
            generalize wdc.heap.size = x7 at *
            go_simp
            refine wpAnyL_one (i := 4) (by kernel_rfl) ?_
            refine wpOp_do rfl rfl ?_
            go_simp
            (with_reducible refine (SA.out _).mono ?_)
            rintro ewdcba wdcba ⟨rfl, q⟩
            replace F := hide (heap_below F.out q)
            replace G := hide (heap_below G.out q)
            replace C := hide (heap_below C.out q)
            replace N7 := hide (heap_below N7.out q)
            replace N8 := hide (heap_below N8.out q)
            replace Q := hide (below_next Q.out Q.out.size q)
            clear q
            go_simp
            refine ⟨keepsL_all (by kernel_rfl) (by kernel_rfl), ?_⟩
            go_simp
            refine wpAnyL_pure (i := 5) (v := .tuple #[.agg (e2.cs).toArray, .agg (evL kd ef 0).toArray, .int .i64 0]) rfl rfl (by kernel_rfl) (by kernel_rfl) (by kernel_rfl) (by kernel_rfl) (by kernel_rfl) (fun _ _ _ h => h) rfl (fun W => by go_simp) ?_
            go_simp
            refine wpAnyL_pure (i := 6) (v := .agg (e2.cs).toArray) rfl rfl (by kernel_rfl) (by kernel_rfl) (by kernel_rfl) (by kernel_rfl) (by kernel_rfl) (fun _ _ _ h => h) rfl (fun W => by go_simp) ?_
            go_simp
            refine wpAnyL_pure (i := 7) (v := .agg (evL kd ef 0).toArray) rfl rfl (by kernel_rfl) (by kernel_rfl) (by kernel_rfl) (by kernel_rfl) (by kernel_rfl) (fun _ _ _ h => h) rfl (fun W => by go_simp) ?_
            go_simp
            refine wpAnyL_pure (i := 8) (v := .int .i64 0) rfl rfl (by kernel_rfl) (by kernel_rfl) (by kernel_rfl) (by kernel_rfl) (by kernel_rfl) (fun _ _ _ h => h) rfl (fun W => by go_simp) ?_
            go_simp
            have T7 := hide (show wdcba.there x7 0 23 from there_heap (cs := zCl.cs) N7.out)
            refine wpAnyL_one (i := 11) (by kernel_rfl) ?_
            refine wpOp_do rfl rfl ?_
            refine wp_store_as 31 (.tmp 16) (.tmp 116) rfl x7 0 (e2.cs) (by rfl) (by rfl) (by exact T7.out) (by kernel_rfl) (by simp [Value.oneCell', Cl.cs]) ?_
            intro wa ea
            have N7a := hide (show wa.heap[x7]? = some (.cells (e2.cs).toArray 31 (0, 0)) by rw [ea]; exact whole_heap (e2.cs) (xs := zCl.cs) N7.out rfl)
            have N8a := hide (show wa.heap[x8]? = some (.cells (evL 0 zFr 0).toArray 41 (0, 0)) by rw [ea]; exact other_heap (by omega) _ _ _ N8.out)
            have Fa := hide (show wa.heap[w.heap.size]? = some (.cells (frc f).toArray 24 (0, 0)) by rw [ea]; exact other_heap (by omega) _ _ _ F.out)
            have Ga := hide (show wa.heap[w.heap.size + 1]? = some (.cells (frc g).toArray 24 (0, 0)) by rw [ea]; exact other_heap (by omega) _ _ _ G.out)
            have Ca := hide (show wa.heap[y]? = some (.cells c1.cs.toArray 31 (0, 0)) by rw [ea]; exact other_heap (by omega) _ _ _ C.out)
            have Qa := hide (show Below w.heap.size w wa by rw [ea]; exact Q.out.trans (below_setCells _ _ _ (by have := Q.out.size; omega)))
            clear ea T7 N7 N8 Q F G C
            refine ⟨keepsL_all (by kernel_rfl) (by kernel_rfl), ?_⟩
            go_simp
            have T8 := hide (show wa.there x8 0 7 from there_heap (cs := evL 0 zFr 0) N8a.out)
            refine wpAnyL_one (i := 12) (by kernel_rfl) ?_
            refine wpOp_do rfl rfl ?_
            refine wp_store_as 41 (.tmp 17) (.tmp 117) rfl x8 0 (evL kd ef 0) (by rfl) (by rfl) (by exact T8.out) (by kernel_rfl) (by simp [Value.oneCell', evL]) ?_
            intro wb eb
            have N7 := hide (show wb.heap[x7]? = some (.cells (e2.cs).toArray 31 (0, 0)) by rw [eb]; exact other_heap (by omega) _ _ _ N7a.out)
            have N8 := hide (show wb.heap[x8]? = some (.cells (evL kd ef 0).toArray 41 (0, 0)) by rw [eb]; exact whole_heap (evL kd ef 0) (xs := evL 0 zFr 0) N8a.out rfl)
            have F := hide (show wb.heap[w.heap.size]? = some (.cells (frc f).toArray 24 (0, 0)) by rw [eb]; exact other_heap (by omega) _ _ _ Fa.out)
            have G := hide (show wb.heap[w.heap.size + 1]? = some (.cells (frc g).toArray 24 (0, 0)) by rw [eb]; exact other_heap (by omega) _ _ _ Ga.out)
            have C := hide (show wb.heap[y]? = some (.cells c1.cs.toArray 31 (0, 0)) by rw [eb]; exact other_heap (by omega) _ _ _ Ca.out)
            have Q := hide (show Below w.heap.size w wb by rw [eb]; exact Qa.out.trans (below_setCells _ _ _ (by have := Qa.out.size; omega)))
            clear eb T8 N7a N8a Qa Fa Ga Ca
            refine ⟨keepsL_all (by kernel_rfl) (by kernel_rfl), ?_⟩
            go_simp
            refine wpAnyL_one (i := 13) (by kernel_rfl) ?_
            refine wpOp_do rfl rfl ?_
            go_simp
            refine ⟨keepsL_all (by kernel_rfl) (by kernel_rfl), ?_⟩
            go_simp
            refine wpAnyL_done (by kernel_rfl) ?_ _
            go_wp2_with fail
            go_meet
            exact ⟨x7, x8, rfl, rfl, rfl, N7, N8, F, G, C, Q, by omega, by omega⟩
      case rest =>
      clear F G C Q SA
      obtain ⟨x7, x8, rfl, rfl, rfl, N7, N8, F, G, C, Q, y7, b7⟩ := hcut
      obtain ⟨v0, v1, v2, v3, v4, v5, -⟩ := ev_cells N8.out
      go_upto_block 2 with fail
      clear v0 v1 v2 v3 v4 v5
      go_cut [11, 12] (fun v11 v12 W => v11 = .int .i64 (lostI d (i + 1)) ∧ v12 = .bool (decide (S.size ≤ i + 1 + 1)) ∧ Below wc.heap.size wc W)
      case first =>
        obtain ⟨v0, v1, v2, v3, v4, v5, -⟩ := ev_cells N8.out
        obtain ⟨g0', g1', g2', g3', g4'⟩ := frz_box G.out
        have hk2 := HKD.out
        have he2' := HEF.out
        have hl2 := HLI.out
        have hc2 := HCB.out
        have hat := ATD.out
        clear HKD HEF HE2 HLI HCB STEP ATD END F G C Q N7 N8
        by_cases hid4 : i = d
        · subst hid4
          rw [if_pos rfl] at hk2
          have hli : li = -1 := by rw [hl2]; unfold lostI; rw [if_pos (Nat.le_refl _)]
          have hcb : cb = false := by rw [hc2]; exact decide_eq_false (by omega)
          obtain ⟨⟨a1, a2⟩, ⟨a3, a4⟩, a5⟩ := hat
          have hkF : (i : Int) < (SF.size : Int) := by omega
          have hq1 : ((SF[i].toNat : Int) != 49) = false := by rw [a2]; rfl
          have hq2 : ((TS[i].toNat : Int) != 48) = false := by rw [a4]; rfl
          have hq3 : ((SF[i].toNat : Int) == 49) = true := by rw [a2]; rfl
          have hq4 : ((TS[i].toNat : Int) == 48) = true := by rw [a4]; rfl
          have hq5 : ((TS.extract 0 i).toList != (SF.extract 0 i).toList) = false := by unfold bne; rw [a5]; rfl
          have hiT : (i : Int) ≤ (TS.size : Int) := by omega
          have hiF : (i : Int) ≤ (SF.size : Int) := by omega
          subst hk2
          subst hli
          subst hcb
          clear he2' hl2 hc2 a2 a4
          go_wp2_with fail
          refine wp_region_L [0, 1, 2, 3, 4, 5, 6, 7, 8, 9, 10, 11, 12, 13, 14, 15, 16, 17, 18, 19, 20, 21, 22] [] (by kernel_rfl) ?_
          have QD := hide (show Below wc.heap.size wc wc.drew from (Below.refl _ _).drew)
          generalize wc.drew = wd at *
          refine wpAnyL_pure (i := 0) (v := .int .i64 (-1)) rfl rfl (by kernel_rfl) (by kernel_rfl) (by kernel_rfl) (by kernel_rfl) (by kernel_rfl) (fun _ _ _ h => h) rfl (fun W => by go_simp) ?_
          go_simp
          refine wpAnyL_pure (i := 1) (v := .bool false) rfl rfl (by kernel_rfl) (by kernel_rfl) (by kernel_rfl) (by kernel_rfl) (by kernel_rfl) (fun _ _ _ h => h) rfl (fun W => by go_simp) ?_
          go_simp
          refine wpAnyL_pure (i := 2) (v := .bool false) rfl rfl (by kernel_rfl) (by kernel_rfl) (by kernel_rfl) (by kernel_rfl) (by kernel_rfl) (fun _ _ _ h => h) rfl (fun W => by go_simp) ?_
          go_simp
          refine wpAnyL_pureG (i := 3) (v := .string SF) rfl rfl (by kernel_rfl) (by kernel_rfl) (by kernel_rfl) (by kernel_rfl) (by kernel_rfl) (fun _ _ _ h => h) (by kernel_rfl) (fun W => by go_simp) ?_
          go_simp
          refine wpAnyL_pureG (i := 4) (v := .int .i64 i) rfl rfl (by kernel_rfl) (by kernel_rfl) (by kernel_rfl) (by kernel_rfl) (by kernel_rfl) (fun _ _ _ h => h) (by kernel_rfl) (fun W => by go_simp) ?_
          go_simp
          refine wpAnyL_pureG (i := 5) (v := .int .u8 SF[i].toNat) rfl rfl (by kernel_rfl) (by kernel_rfl) (by kernel_rfl) (by kernel_rfl) (by kernel_rfl) (fun _ _ _ h => h) (by kernel_rfl) (fun W => by go_simp) ?_
          go_simp
          refine wpAnyL_pureG (i := 6) (v := .bool false) rfl rfl (by kernel_rfl) (by kernel_rfl) (by kernel_rfl) (by kernel_rfl) (by kernel_rfl) (fun _ _ _ h => h) (by kernel_rfl) (fun W => by go_simp) ?_
          go_simp
          refine wpAnyL_pure (i := 7) (v := .bool false) rfl rfl (by kernel_rfl) (by kernel_rfl) (by kernel_rfl) (by kernel_rfl) (by kernel_rfl) (fun _ _ _ h => h) rfl (fun W => by go_simp) ?_
          go_simp
          refine wpAnyL_pure (i := 8) (v := .bool false) rfl rfl (by kernel_rfl) (by kernel_rfl) (by kernel_rfl) (by kernel_rfl) (by kernel_rfl) (fun _ _ _ h => h) rfl (fun W => by go_simp) ?_
          go_simp
          refine wpAnyL_pureG (i := 9) (v := .string TS) rfl rfl (by kernel_rfl) (by kernel_rfl) (by kernel_rfl) (by kernel_rfl) (by kernel_rfl) (fun _ _ _ h => h) (by kernel_rfl) (fun W => by go_simp) ?_
          go_simp
          refine wpAnyL_pureG (i := 10) (v := .int .i64 i) rfl rfl (by kernel_rfl) (by kernel_rfl) (by kernel_rfl) (by kernel_rfl) (by kernel_rfl) (fun _ _ _ h => h) (by kernel_rfl) (fun W => by go_simp) ?_
          go_simp
          refine wpAnyL_pureG (i := 11) (v := .int .u8 TS[i].toNat) rfl rfl (by kernel_rfl) (by kernel_rfl) (by kernel_rfl) (by kernel_rfl) (by kernel_rfl) (fun _ _ _ h => h) (by kernel_rfl) (fun W => by go_simp) ?_
          go_simp
          refine wpAnyL_pureG (i := 12) (v := .bool false) rfl rfl (by kernel_rfl) (by kernel_rfl) (by kernel_rfl) (by kernel_rfl) (by kernel_rfl) (fun _ _ _ h => h) (by kernel_rfl) (fun W => by go_simp) ?_
          go_simp
          refine wpAnyL_pure (i := 13) (v := .bool false) rfl rfl (by kernel_rfl) (by kernel_rfl) (by kernel_rfl) (by kernel_rfl) (by kernel_rfl) (fun _ _ _ h => h) rfl (fun W => by go_simp) ?_
          go_simp
          refine wpAnyL_pure (i := 14) (v := .bool false) rfl rfl (by kernel_rfl) (by kernel_rfl) (by kernel_rfl) (by kernel_rfl) (by kernel_rfl) (fun _ _ _ h => h) rfl (fun W => by go_simp) ?_
          go_simp
          refine wpAnyL_pureG (i := 15) (v := .string TS) rfl rfl (by kernel_rfl) (by kernel_rfl) (by kernel_rfl) (by kernel_rfl) (by kernel_rfl) (fun _ _ _ h => h) (by kernel_rfl) (fun W => by go_simp) ?_
          go_simp
          refine wpAnyL_pureG (i := 16) (v := .int .i64 i) rfl rfl (by kernel_rfl) (by kernel_rfl) (by kernel_rfl) (by kernel_rfl) (by kernel_rfl) (fun _ _ _ h => h) (by kernel_rfl) (fun W => by go_simp) ?_
          go_simp
          refine wpAnyL_pureG (i := 17) (v := .string (TS.extract 0 i)) rfl rfl (by kernel_rfl) (by kernel_rfl) (by kernel_rfl) (by kernel_rfl) (by kernel_rfl) (fun _ _ _ h => h) (by kernel_rfl) (fun W => by go_simp) ?_
          go_simp
          refine wpAnyL_pureG (i := 18) (v := .string SF) rfl rfl (by kernel_rfl) (by kernel_rfl) (by kernel_rfl) (by kernel_rfl) (by kernel_rfl) (fun _ _ _ h => h) (by kernel_rfl) (fun W => by go_simp) ?_
          go_simp
          refine wpAnyL_pureG (i := 19) (v := .int .i64 i) rfl rfl (by kernel_rfl) (by kernel_rfl) (by kernel_rfl) (by kernel_rfl) (by kernel_rfl) (fun _ _ _ h => h) (by kernel_rfl) (fun W => by go_simp) ?_
          go_simp
          refine wpAnyL_pureG (i := 20) (v := .string (SF.extract 0 i)) rfl rfl (by kernel_rfl) (by kernel_rfl) (by kernel_rfl) (by kernel_rfl) (by kernel_rfl) (fun _ _ _ h => h) (by kernel_rfl) (fun W => by go_simp) ?_
          go_simp
          refine wpAnyL_pureG (i := 21) (v := .bool false) rfl rfl (by kernel_rfl) (by kernel_rfl) (by kernel_rfl) (by kernel_rfl) (by kernel_rfl) (fun _ _ _ h => h) (by kernel_rfl) (fun W => by go_simp) ?_
          go_simp
          refine wpAnyL_pure (i := 22) (v := .bool false) rfl rfl (by kernel_rfl) (by kernel_rfl) (by kernel_rfl) (by kernel_rfl) (by kernel_rfl) (fun _ _ _ h => h) rfl (fun W => by go_simp) ?_
          go_simp
          refine wpAnyL_done (by kernel_rfl) ?_ _
          go_wp2_with fail
          go_meet
          exact ⟨by unfold lostI; rw [if_neg (by omega)], by rw [decide_eq_false (by omega)], QD.out⟩
        · rw [if_neg hid4] at hk2
          have hli : li = lostI d (i + 1) := by rw [hl2]; unfold lostI; split <;> split <;> omega
          by_cases hn : i + 2 = S.size
          · rw [if_pos hn] at hk2 he2'
            have hcb : decide (S.size ≤ i + 1 + 1) = true := decide_eq_true (by omega)
            have hq : ((i : Int) == (S.size : Int) - 2) = true := by rw [beq_iff_eq]; omega
            have hwr2 : IntKind.i64.wrap ((S.size : Int) - 2) = (S.size : Int) - 2 := IntWalk.i64_in _ (by omega)
            subst hk2
            subst he2'
            have HL2 := hide hli
            have HC2 := hide hcb
            clear hat hl2 hc2 hli hn hcb
            go_wp2_with fail
            go_meet
            exact ⟨by rw [HL2.out], by rw [HC2.out], Below.refl _ _⟩
          · rw [if_neg hn] at hk2
            have hcb : cb = decide (S.size ≤ i + 1 + 1) := by rw [hc2]; congr 1; rw [eq_iff_iff]; omega
            subst hk2
            have HL2 := hide hli
            have HC2 := hide hcb
            clear hat hl2 hc2 hli hn he2' hcb
            go_wp2_with fail
            go_meet
            exact ⟨by rw [HL2.out], by rw [HC2.out], Below.refl _ _⟩
      case rest =>
      obtain ⟨rfl, rfl, qc⟩ := hcut
      clear N8 HKD HEF HLI HCB
      replace F := hide (heap_below F.out qc)
      replace G := hide (heap_below G.out qc)
      replace C := hide (heap_below C.out qc)
      replace N7 := hide (heap_below N7.out qc)
      replace Q := hide (below_next Q.out Q.out.size qc)
      clear qc
      have Tw17' := hide (show World.there _ y 0 23 from there_heap (cs := c1.cs) C.out)
      go_wp2_with (first | (refine wpList_load_row rfl 31 (.tmp 16) (by rfl) x7 (by rfl) 31 e2.cs.toArray (0, 0) _ (by exact N7.out) Tryz.underlying31 (by rfl) (by kernel_rfl) ?_) | (refine wpList_store_hid (by rfl) 31 (.tmp 5) (.tmp 163) (by rfl) y 0 e2.cs (by rfl) (by rfl) (by exact Tw17'.out) (by kernel_rfl) (by simp [Value.oneCell', Cl.cs]) ?_))
      intro w17' ew17'
      replace F := hide (show w17'.heap[w.heap.size]? = some (.cells (frc f).toArray 24 (0, 0)) by rw [ew17'.out]; exact other_heap (by omega) _ _ _ F.out)
      replace G := hide (show w17'.heap[w.heap.size + 1]? = some (.cells (frc g).toArray 24 (0, 0)) by rw [ew17'.out]; exact other_heap (by omega) _ _ _ G.out)
      replace N7 := hide (show w17'.heap[x7]? = some (.cells e2.cs.toArray 31 (0, 0)) by rw [ew17'.out]; exact other_heap (by omega) _ _ _ N7.out)
      replace Q := hide (show Below w.heap.size w w17' by rw [ew17'.out]; exact Q.out.trans (below_setCells _ _ _ (by have := Q.out.size; omega)))
      replace C := hide (show w17'.heap[y]? = some (.cells e2.cs.toArray 31 (0, 0)) by rw [ew17'.out]; exact whole_heap e2.cs (xs := c1.cs) C.out rfl)
      clear ew17' Tw17'
      rw [HE2.out] at C
      go_wp2_with fail
      go_roundw
      case rel => exact ⟨i + 1, by omega, by go_num, rfl, rfl, F, G, C, Q⟩
      case measure => simp [intOf]; omega
    · obtain rfl : i = S.size := by omega
      obtain ⟨r1, r2, r3, r4, r5, r6⟩ := END.out
      obtain ⟨⟨d0, d1, d2, d3⟩, ⟨-, -, -, -, d8⟩, ⟨d9, d10, d11, d12, d13⟩, -⟩ := cl_cells C.out
      obtain ⟨f0', f1', f2', f3', f4'⟩ := frz_box F.out
      rw [r3] at d0
      rw [r4] at d1
      rw [r5] at d2
      rw [r6] at d3
      rw [r1] at d8
      rw [r2] at d9 d10 d11 d12 d13
      have hlo : lostI d S.size = d := if_neg (by omega)
      rw [hlo, decide_eq_true (show S.size ≤ S.size + 1 by omega)]
      clear r1 r2 r3 r4 r5 r6 END STEP ATD hlo F G C
      go_wp2_with fail
      go_ret
      exact ⟨rfl, Q.out⟩
end Go.Proofs.YtpfbobcilphncaaGreatDoor
