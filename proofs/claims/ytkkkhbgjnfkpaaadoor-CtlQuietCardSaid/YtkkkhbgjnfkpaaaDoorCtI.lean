/- The walk of campanilelaw07.CtlQuiet. -/
import Derived.Test.YtkkkhbgjnfkpaaaDoorCtH
import Derived.Test.YtkkkhbgjnfkpaaaDoorCtD
namespace Go.Proofs.YtkkkhbgjnfkpaaaDoor
open Go.ChangeShapes Go.WideShapes Go.ChangeAt Go.RowKit
open FP (Fr)

theorem cut7_id (f : Fr) : (cut7 f).id = f.id := rfl
theorem stQ_lt {k : Nat} (h : k < 11) : stQ k = 0 := if_pos h
theorem stQ_ge {k : Nat} (h : ¬ k < 11) : stQ k = 1 := if_neg h

set_option maxRecDepth 100000 in
set_option maxHeartbeats 32000000 in
theorem ctlQuiet_walk (f : Fr) (bits : Int) (w : World) (hid : f.id < 4294967296) (hs : f.data.size ≤ maxLen) : Calls Tryd.prog 3 #[.agg (frc f).toArray, .int .i64 bits] w fun e w' => e = .returned (.bool true) ∧ Below w.heap.size w w' := by
  obtain ⟨w0, hw0⟩ : ∃ w0, w0 = w.alloc (.cells (frc f).toArray 24) := ⟨_, rfl⟩
  have B0 := hide (World.alloc_heap_new w (.cells (frc f).toArray 24))
  have Q0 : Hid (Below w.heap.size w w0) := by rw [hw0]; exact hide ((Below.refl _ _).alloc (Nat.le_refl _) _)
  rw [← hw0] at B0
  have FW := hide (few07_any f w0 hs)
  obtain ⟨m1, e1, h1⟩ := run_max (P := Tryd.prog) bits 0
  obtain ⟨m2, e2, h2⟩ := run_min (P := Tryd.prog) m1 60
  obtain ⟨N, hN⟩ : ∃ N : Nat, m2 = N := ⟨m2.toNat, by omega⟩
  have hN60 : N ≤ 60 := by omega
  subst hN
  clear e1 e2 hs
  go_enter Tryd.func3, Tryd.ntmps3
  go_upto_region 1 with fail
  change Code.wp _ _ _ _ (w.alloc (.cells (frc f).toArray 24))
  rw [← hw0]
  clear hw0
  go_wp2_with (refine wpList_load_row rfl 24 (.tmp 2) (by rfl) w.heap.size (by rfl) 24 (frc f).toArray (0, 0) _ (by exact B0.out) Tryd.underlying24 (by rfl) (by kernel_rfl) ?_)
  (with_reducible refine (FW.out).mono ?_)
  rintro e3 w1 ⟨rfl, q1⟩
  have B1 := hide (heap_below B0.out q1)
  have Q1 := hide (below_next Q0.out Q0.out.size q1)
  have TH := hide (show w1.there w.heap.size 0 5 from there_heap (cs := frc f) B1.out)
  have hid2 : (cut7 f).id < 4294967296 := hid
  clear q1 B0 Q0 FW hid
  generalize cut7 f = g at *
  go_wp2_with (refine wpList_store_hid (by rfl) 24 (.tmp 2) (.tmp 21) (by rfl) w.heap.size 0 (frc g) (by rfl) (by rfl) (by exact TH.out) (by kernel_rfl) (by simp [Value.oneCell', frc]) ?_)
  intro w2 e4
  have G2 := hide (show w2.heap[w.heap.size]? = some (.cells (frc g).toArray 24 (0, 0)) by rw [e4.out]; exact whole_heap (frc g) (xs := frc f) B1.out rfl)
  have Q2 := hide (show Below w.heap.size w w2 by rw [e4.out]; exact Q1.out.trans (below_setCells _ _ _ (Nat.le_refl _)))
  clear e4 TH B1 Q1
  have NW := hide ctlNew_any
  go_wp2_with fail
  (with_reducible refine (NW.out _).mono ?_)
  rintro e5 w3 ⟨rfl, q3⟩
  have G3 := hide (heap_below G2.out q3)
  have Q3 := hide (below_next Q2.out Q2.out.size q3)
  clear q3 G2 Q2
  go_wp2_with fail
  (with_reducible refine (NW.out _).mono ?_)
  rintro e6 w4 ⟨rfl, q4⟩
  have G4 := hide (heap_below G3.out q4)
  have Q4 := hide (below_next Q3.out Q3.out.size q4)
  clear q4 G3 Q3 NW
  have q5 : Below w4.heap.size w4 ((w4.alloc (.cells zCl.cs.toArray 31)).alloc (.cells zCl.cs.toArray 31)) := ((Below.refl _ _).alloc (Nat.le_refl _) _).alloc (by simp) _
  have C5 := hide (heap_below (World.alloc_heap_new w4 (.cells zCl.cs.toArray 31)) ((Below.refl _ _).alloc (Nat.le_refl _) (.cells zCl.cs.toArray 31)))
  have D5 := hide (World.alloc_heap_new (w4.alloc (.cells zCl.cs.toArray 31)) (.cells zCl.cs.toArray 31))
  simp only [World.size_alloc] at D5
  have zg : w.heap.size < w4.heap.size := heap_lt G4.out
  have G5 := hide (heap_below G4.out q5)
  have Q5 := hide (below_next Q4.out Q4.out.size q5)
  clear q5 G4 Q4
  obtain ⟨w5, hw5⟩ : ∃ w5, w5 = (w4.alloc (.cells zCl.cs.toArray 31)).alloc (.cells zCl.cs.toArray 31) := ⟨_, rfl⟩
  rw [← hw5] at C5 D5 G5 Q5
  have TC := hide (show ((w4.alloc (.cells zCl.cs.toArray 31)).alloc (.cells zCl.cs.toArray 31)).there w4.heap.size 0 23 by rw [← hw5]; exact there_heap (cs := zCl.cs) C5.out)
  go_wp2_with (refine wpList_store_hid (by rfl) 31 (.tmp 5) (.tmp 25) (by rfl) w4.heap.size 0 zCl.cs (by rfl) (by rfl) (by exact TC.out) (by kernel_rfl) (by simp [Value.oneCell', Cl.cs]) ?_)
  intro w6 e6
  have e6' : w6 = w5.setCells w4.heap.size 0 zCl.cs := by rw [hw5]; exact e6.out
  have C6 := hide (show w6.heap[w4.heap.size]? = some (.cells zCl.cs.toArray 31 (0, 0)) by rw [e6']; exact whole_heap zCl.cs (xs := zCl.cs) C5.out rfl)
  have D6 := hide (show w6.heap[w4.heap.size + 1]? = some (.cells zCl.cs.toArray 31 (0, 0)) by rw [e6']; exact other_heap (by omega) _ _ _ D5.out)
  have G6 := hide (show w6.heap[w.heap.size]? = some (.cells (frc g).toArray 24 (0, 0)) by rw [e6']; exact other_heap (by omega) _ _ _ G5.out)
  have Q6 := hide (show Below w.heap.size w w6 by rw [e6']; exact Q5.out.trans (below_setCells _ _ _ (by omega)))
  clear e6 e6' TC hw5 C5 D5 G5 Q5
  have TD := hide (show w6.there (w4.heap.size + 1) 0 23 from there_heap (cs := zCl.cs) D6.out)
  go_wp2_with (refine wpList_store_hid (by rfl) 31 (.tmp 6) (.tmp 26) (by rfl) (w4.heap.size + 1) 0 zCl.cs (by rfl) (by rfl) (by exact TD.out) (by kernel_rfl) (by simp [Value.oneCell', Cl.cs]) ?_)
  intro w7 e7
  have D7 := hide (show w7.heap[w4.heap.size + 1]? = some (.cells zCl.cs.toArray 31 (0, 0)) by rw [e7.out]; exact whole_heap zCl.cs (xs := zCl.cs) D6.out rfl)
  have C7 := hide (show w7.heap[w4.heap.size]? = some (.cells zCl.cs.toArray 31 (0, 0)) by rw [e7.out]; exact other_heap (by omega) _ _ _ C6.out)
  have G7 := hide (show w7.heap[w.heap.size]? = some (.cells (frc g).toArray 24 (0, 0)) by rw [e7.out]; exact other_heap (by omega) _ _ _ G6.out)
  have Q7 := hide (show Below w.heap.size w w7 by rw [e7.out]; exact Q6.out.trans (below_setCells _ _ _ (by omega)))
  clear e7 TD C6 D6 G6 Q6
  have SB := hide (ctlSubmit_q zCl g w7 zCl_q rfl hid2)
  generalize w4.heap.size = x5 at *
  go_wp2_with (first | (refine wpList_load_row rfl 31 (.tmp 6) (by rfl) (x5 + 1) (by rfl) 31 zCl.cs.toArray (0, 0) _ (by exact D7.out) Tryd.underlying31 (by rfl) (by kernel_rfl) ?_) | (refine wpList_load_row rfl 24 (.tmp 2) (by rfl) w.heap.size (by rfl) 24 (frc g).toArray (0, 0) _ (by exact G7.out) Tryd.underlying24 (by rfl) (by kernel_rfl) ?_))
  (with_reducible refine (SB.out).mono ?_)
  rintro e8 w8 ⟨hsb, q8⟩
  have C8 := hide (heap_below C7.out q8)
  have D8 := hide (heap_below D7.out q8)
  have G8 := hide (heap_below G7.out q8)
  have Q8 := hide (below_next Q7.out Q7.out.size q8)
  have z8 : x5 + 1 < w8.heap.size := heap_lt D8.out
  have zz8 : w.heap.size ≤ x5 := by omega
  clear q8 C7 D7 G7 Q7 SB
  have q9 : Below w8.heap.size w8 (w8.alloc (.cells zCl.cs.toArray 31)) := (Below.refl _ _).alloc (Nat.le_refl _) _
  have X9 := World.alloc_heap_new w8 (.cells zCl.cs.toArray 31)
  have TX := hide (show (w8.alloc (.cells zCl.cs.toArray 31)).there w8.heap.size 0 23 from there_heap (cs := zCl.cs) X9)
  rcases hsb with ⟨hr, rfl⟩ | ⟨hr, rfl⟩
  · go_wp2_with (refine wpList_store_hid (by rfl) 31 (.tmp 7) (.tmp 31) (by rfl) w8.heap.size 0 (zCl.give g).cs (by rfl) (by rfl) (by exact TX.out) (by kernel_rfl) (by simp [Value.oneCell', Cl.cs]) ?_)
    intro wa ea
    have X10 := hide (show wa.heap[w8.heap.size]? = some (.cells (zCl.give g).cs.toArray 31 (0, 0)) by rw [ea.out]; exact whole_heap (zCl.give g).cs (xs := zCl.cs) X9 rfl)
    have Ca := hide (show wa.heap[x5]? = some (.cells zCl.cs.toArray 31 (0, 0)) by rw [ea.out]; exact other_heap (by omega) _ _ _ (heap_below C8.out q9))
    have Da := hide (show wa.heap[x5 + 1]? = some (.cells zCl.cs.toArray 31 (0, 0)) by rw [ea.out]; exact other_heap (by omega) _ _ _ (heap_below D8.out q9))
    have Ga := hide (show wa.heap[w.heap.size]? = some (.cells (frc g).toArray 24 (0, 0)) by rw [ea.out]; exact other_heap (by omega) _ _ _ (heap_below G8.out q9))
    have Qa := hide (show Below w.heap.size w wa by rw [ea.out]; exact (below_next Q8.out Q8.out.size q9).trans (below_setCells _ _ _ (by omega)))
    clear ea TX X9 q9 C8 D8 G8 Q8
    have TD := hide (show wa.there (x5 + 1) 0 23 from there_heap (cs := zCl.cs) Da.out)
    go_wp2_with (first | (refine wpList_load_row rfl 31 (.tmp 7) (by rfl) w8.heap.size (by rfl) 31 (zCl.give g).cs.toArray (0, 0) _ (by exact X10.out) Tryd.underlying31 (by rfl) (by kernel_rfl) ?_) | (refine wpList_store_hid (by rfl) 31 (.tmp 6) (.tmp 35) (by rfl) (x5 + 1) 0 (zCl.give g).cs (by rfl) (by rfl) (by exact TD.out) (by kernel_rfl) (by simp [Value.oneCell', Cl.cs]) ?_))
    intro wb eb
    have Db := hide (show wb.heap[x5 + 1]? = some (.cells (zCl.give g).cs.toArray 31 (0, 0)) by rw [eb.out]; exact whole_heap (zCl.give g).cs (xs := zCl.cs) Da.out rfl)
    have Cb := hide (show wb.heap[x5]? = some (.cells zCl.cs.toArray 31 (0, 0)) by rw [eb.out]; exact other_heap (by omega) _ _ _ Ca.out)
    have Gb := hide (show wb.heap[w.heap.size]? = some (.cells (frc g).toArray 24 (0, 0)) by rw [eb.out]; exact other_heap (by omega) _ _ _ Ga.out)
    have Qb := hide (show Below w.heap.size w wb by rw [eb.out]; exact Qa.out.trans (below_setCells _ _ _ (by omega)))
    clear eb TD Ca Da Ga Qa X10
    have RR := hide (show Calls Tryd.prog 9 #[.agg (frc g).toArray] wb _ from refRight04_any g wb hid2)
    rw [hr] at RR
    go_wp2_with (refine wpList_load_row rfl 24 (.tmp 2) (by rfl) w.heap.size (by rfl) 24 (frc g).toArray (0, 0) _ (by exact Gb.out) Tryd.underlying24 (by rfl) (by kernel_rfl) ?_)
    (with_reducible refine (RR.out).mono ?_)
    rintro e9 wc ⟨rfl, q9⟩
    have CL := hide (show wc.heap[x5]? = some (.cells (qCl zFr false (stQ 0) (nQ 0)).cs.toArray 31 (0, 0)) from heap_below Cb.out q9)
    have DL := hide (show wc.heap[x5 + 1]? = some (.cells (qCl g true (stQ 0) (nQ 0)).cs.toArray 31 (0, 0)) from heap_below Db.out q9)
    have QL := hide (below_next Qb.out Qb.out.size q9)
    clear q9 Cb Db Gb Qb RR
    have AL := hide alive07_any
    have QC := hide (show ∀ k, (qCl zFr false (stQ k) (nQ k)).Q from fun k => by have := ones_q zCl_q k; rwa [show ones zCl k = _ from ones_q0 zFr false k] at this)
    have QD := hide (show ∀ k, (qCl g true (stQ k) (nQ k)).Q from fun k => by have := ones_q (zCl_q.give hr) k; rwa [show ones (zCl.give g) k = _ from ones_q0 g true k] at this)
    go_wp2_with fail
    go_loopw [42] (fun vi W => ∃ k : Nat, k ≤ N ∧ vi = .int .i64 k ∧ Hid (W.heap[x5]? = some (.cells (qCl zFr false (stQ k) (nQ k)).cs.toArray 31 (0, 0))) ∧ Hid (W.heap[x5 + 1]? = some (.cells (qCl g true (stQ k) (nQ k)).cs.toArray 31 (0, 0))) ∧ Hid (Below w.heap.size w W)) (fun vi _ => N - (intOf vi).toNat)
    case atStart => exact ⟨0, Nat.zero_le _, rfl, CL, DL, QL⟩
    case round =>
      obtain ⟨k, hk, rfl, C, D, QQ⟩ := hrel
      clear CL DL QL
      by_cases hlt : k < N
      · have hki : (k : Int) < (N : Int) := by omega
        have hqc := QC.out k
        have hqd := QD.out k
        have HNC := hide (q_next zFr false k)
        have HND := hide (q_next g true k)
        have z0 : x5 + 1 < wr.heap.size := heap_lt D.out
        by_cases hk11 : k < 11
        · have hsc : (qCl zFr false (stQ k) (nQ k)).st = 0 := stQ_lt hk11
          have hsd : (qCl g true (stQ k) (nQ k)).st = 0 := stQ_lt hk11
          have hhc : (qCl zFr false (stQ k) (nQ k)).has = false := rfl
          have hhd : (qCl g true (stQ k) (nQ k)).has = true := rfl
          have DC := fun W => ctlDrive_q _ W hqc
          have DD := fun W => ctlDrive_q _ W hqd
          rw [if_neg (by omega)] at DC DD
          replace DC := hide DC
          replace DD := hide DD
          generalize qCl zFr false (stQ k) (nQ k) = cc at *
          generalize qCl g true (stQ k) (nQ k) = dd at *
          have D1 := hide (DC.out wr)
          go_wp2_with (refine wpList_load_row rfl 31 (.tmp 5) (by rfl) x5 (by rfl) 31 cc.cs.toArray (0, 0) _ (by exact C.out) Tryd.underlying31 (by rfl) (by kernel_rfl) ?_)
          (with_reducible refine (D1.out).mono ?_)
          rintro e9 w9 ⟨rfl, q9⟩
          have C9 := hide (heap_below C.out q9)
          have D9 := hide (heap_below D.out q9)
          have Q9 := hide (below_next QQ.out QQ.out.size q9)
          have D2 := hide (DD.out w9)
          clear q9 C D QQ D1 DC DD
          go_wp2_with (refine wpList_load_row rfl 31 (.tmp 6) (by rfl) (x5 + 1) (by rfl) 31 dd.cs.toArray (0, 0) _ (by exact D9.out) Tryd.underlying31 (by rfl) (by kernel_rfl) ?_)
          (with_reducible refine (D2.out).mono ?_)
          rintro e10 w10 ⟨rfl, q10⟩
          have C10 := hide (heap_below C9.out q10)
          have D10 := hide (heap_below D9.out q10)
          have Q10 := hide (below_next Q9.out Q9.out.size q10)
          clear q10 C9 D9 Q9 D2
          obtain ⟨_, ⟨c4, _⟩, _⟩ := cl_cells C10.out
          obtain ⟨_, ⟨_, _, _, _, d8⟩, _⟩ := cl_cells D10.out
          rw [hsc] at c4
          rw [hhd] at d8
          clear hsc hsd hhc hhd
          have S1 := hide (ctlSample_one cc w10 hqc)
          go_wp2_with (refine wpList_load_row rfl 31 (.tmp 5) (by rfl) x5 (by rfl) 31 cc.cs.toArray (0, 0) _ (by exact C10.out) Tryd.underlying31 (by rfl) (by kernel_rfl) ?_)
          (with_reducible refine (S1.out).mono ?_)
          rintro e11 w11 ⟨rfl, q11⟩
          have C11 := hide (heap_below C10.out q11)
          have D11 := hide (heap_below D10.out q11)
          have Q11 := hide (below_next Q10.out Q10.out.size q11)
          rw [HNC.out]
          clear q11 C10 D10 Q10 S1 c4 d8
          obtain ⟨c2, hc2⟩ : ∃ c2, c2 = qCl zFr false (stQ (k + 1)) (nQ (k + 1)) := ⟨_, rfl⟩
          rw [← hc2]
          have HC2 := hide hc2.symm
          clear hc2
          have q12 : Below w11.heap.size w11 ((w11.alloc (.cells zCl.cs.toArray 31)).alloc (.cells (evL 0 zFr 0).toArray 40)) := ((Below.refl _ _).alloc (Nat.le_refl _) _).alloc (by simp) _
          have Y12 := heap_below (World.alloc_heap_new w11 (.cells zCl.cs.toArray 31)) ((Below.refl _ _).alloc (Nat.le_refl _) (.cells (evL 0 zFr 0).toArray 40))
          have V12 := World.alloc_heap_new (w11.alloc (.cells zCl.cs.toArray 31)) (.cells (evL 0 zFr 0).toArray 40)
          simp only [World.size_alloc] at V12
          have z11 : x5 + 1 < w11.heap.size := heap_lt D11.out
          have C12 := hide (heap_below C11.out q12)
          have D12 := hide (heap_below D11.out q12)
          have Q12 := hide (below_next Q11.out Q11.out.size q12)
          have TH := hide (show ((w11.alloc (.cells zCl.cs.toArray 31)).alloc (.cells (evL 0 zFr 0).toArray 40)).there w11.heap.size 0 23 from there_heap (cs := zCl.cs) Y12)
          clear q12 C11 D11 Q11
          obtain ⟨wx, hwx⟩ : ∃ wx, wx = (w11.alloc (.cells zCl.cs.toArray 31)).alloc (.cells (evL 0 zFr 0).toArray 40) := ⟨_, rfl⟩
          rw [← hwx] at C12 D12 Y12 V12 Q12
          go_wp2_with (refine wpList_store_hid (by rfl) 31 (.tmp 14) (.tmp 89) (by rfl) w11.heap.size 0 c2.cs (by rfl) (by rfl) (by exact TH.out) (by kernel_rfl) (by simp [Value.oneCell', Cl.cs]) ?_)
          intro w13 e13
          have e13' : w13 = wx.setCells w11.heap.size 0 c2.cs := by rw [hwx]; exact e13.out
          have C13 := hide (show w13.heap[x5]? = some (.cells cc.cs.toArray 31 (0, 0)) by rw [e13']; exact other_heap (by omega) _ _ _ C12.out)
          have D13 := hide (show w13.heap[x5 + 1]? = some (.cells dd.cs.toArray 31 (0, 0)) by rw [e13']; exact other_heap (by omega) _ _ _ D12.out)
          have Y13 := hide (show w13.heap[w11.heap.size]? = some (.cells c2.cs.toArray 31 (0, 0)) by rw [e13']; exact whole_heap c2.cs (xs := zCl.cs) Y12 rfl)
          have V13 := hide (show w13.heap[w11.heap.size + 1]? = some (.cells (evL 0 zFr 0).toArray 40 (0, 0)) by rw [e13']; exact other_heap (by omega) _ _ _ V12)
          have Q13 := hide (show Below w.heap.size w w13 by rw [e13']; exact Q12.out.trans (below_setCells _ _ _ (by omega)))
          clear e13 e13' TH C12 D12 Q12 Y12 V12 hwx
          have TV := hide (show w13.there (w11.heap.size + 1) 0 7 from there_heap (cs := evL 0 zFr 0) V13.out)
          go_wp2_with (refine wpList_store_hid (by rfl) 40 (.tmp 15) (.tmp 90) (by rfl) (w11.heap.size + 1) 0 (evL 0 zFr 0) (by rfl) (by rfl) (by exact TV.out) (by kernel_rfl) (by simp [Value.oneCell', evL]) ?_)
          intro w14 e14
          have C14 := hide (show w14.heap[x5]? = some (.cells cc.cs.toArray 31 (0, 0)) by rw [e14.out]; exact other_heap (by omega) _ _ _ C13.out)
          have D14 := hide (show w14.heap[x5 + 1]? = some (.cells dd.cs.toArray 31 (0, 0)) by rw [e14.out]; exact other_heap (by omega) _ _ _ D13.out)
          have Y14 := hide (show w14.heap[w11.heap.size]? = some (.cells c2.cs.toArray 31 (0, 0)) by rw [e14.out]; exact other_heap (by omega) _ _ _ Y13.out)
          have V14 := hide (show w14.heap[w11.heap.size + 1]? = some (.cells (evL 0 zFr 0).toArray 40 (0, 0)) by rw [e14.out]; exact whole_heap (evL 0 zFr 0) (xs := evL 0 zFr 0) V13.out rfl)
          have Q14 := hide (show Below w.heap.size w w14 by rw [e14.out]; exact Q13.out.trans (below_setCells _ _ _ (by omega)))
          clear e14 TV C13 D13 Y13 V13 Q13
          generalize w11.heap.size = y1 at *
          have S2 := hide (ctlSample_one dd w14 hqd)
          go_wp2_with (refine wpList_load_row rfl 31 (.tmp 6) (by rfl) (x5 + 1) (by rfl) 31 dd.cs.toArray (0, 0) _ (by exact D14.out) Tryd.underlying31 (by rfl) (by kernel_rfl) ?_)
          (with_reducible refine (S2.out).mono ?_)
          rintro e15 w15 ⟨rfl, q15⟩
          have C15 := hide (heap_below C14.out q15)
          have D15 := hide (heap_below D14.out q15)
          have Y15 := hide (heap_below Y14.out q15)
          have V15 := hide (heap_below V14.out q15)
          have Q15 := hide (below_next Q14.out Q14.out.size q15)
          rw [HND.out]
          clear q15 C14 D14 Y14 V14 Q14 S2
          obtain ⟨d2, hd2⟩ : ∃ d2, d2 = qCl g true (stQ (k + 1)) (nQ (k + 1)) := ⟨_, rfl⟩
          rw [← hd2]
          have HD2 := hide hd2.symm
          clear hd2
          have q16 : Below w15.heap.size w15 ((w15.alloc (.cells zCl.cs.toArray 31)).alloc (.cells (evL 0 zFr 0).toArray 40)) := ((Below.refl _ _).alloc (Nat.le_refl _) _).alloc (by simp) _
          have Z16 := heap_below (World.alloc_heap_new w15 (.cells zCl.cs.toArray 31)) ((Below.refl _ _).alloc (Nat.le_refl _) (.cells (evL 0 zFr 0).toArray 40))
          have U16 := World.alloc_heap_new (w15.alloc (.cells zCl.cs.toArray 31)) (.cells (evL 0 zFr 0).toArray 40)
          simp only [World.size_alloc] at U16
          have z15 : y1 + 1 < w15.heap.size := heap_lt V15.out
          have C16 := hide (heap_below C15.out q16)
          have D16 := hide (heap_below D15.out q16)
          have Y16 := hide (heap_below Y15.out q16)
          have V16 := hide (heap_below V15.out q16)
          have Q16 := hide (below_next Q15.out Q15.out.size q16)
          have TH := hide (show ((w15.alloc (.cells zCl.cs.toArray 31)).alloc (.cells (evL 0 zFr 0).toArray 40)).there w15.heap.size 0 23 from there_heap (cs := zCl.cs) Z16)
          clear q16 C15 D15 Y15 V15 Q15
          obtain ⟨wx, hwx⟩ : ∃ wx, wx = (w15.alloc (.cells zCl.cs.toArray 31)).alloc (.cells (evL 0 zFr 0).toArray 40) := ⟨_, rfl⟩
          rw [← hwx] at C16 D16 Y16 V16 Q16 Z16 U16
          go_wp2_with (refine wpList_store_hid (by rfl) 31 (.tmp 17) (.tmp 95) (by rfl) w15.heap.size 0 d2.cs (by rfl) (by rfl) (by exact TH.out) (by kernel_rfl) (by simp [Value.oneCell', Cl.cs]) ?_)
          intro w17 e17
          have e17' : w17 = wx.setCells w15.heap.size 0 d2.cs := by rw [hwx]; exact e17.out
          have C17 := hide (show w17.heap[x5]? = some (.cells cc.cs.toArray 31 (0, 0)) by rw [e17']; exact other_heap (by omega) _ _ _ C16.out)
          have D17 := hide (show w17.heap[x5 + 1]? = some (.cells dd.cs.toArray 31 (0, 0)) by rw [e17']; exact other_heap (by omega) _ _ _ D16.out)
          have Y17 := hide (show w17.heap[y1]? = some (.cells c2.cs.toArray 31 (0, 0)) by rw [e17']; exact other_heap (by omega) _ _ _ Y16.out)
          have V17 := hide (show w17.heap[y1 + 1]? = some (.cells (evL 0 zFr 0).toArray 40 (0, 0)) by rw [e17']; exact other_heap (by omega) _ _ _ V16.out)
          have Z17 := hide (show w17.heap[w15.heap.size]? = some (.cells d2.cs.toArray 31 (0, 0)) by rw [e17']; exact whole_heap d2.cs (xs := zCl.cs) Z16 rfl)
          have U17 := hide (show w17.heap[w15.heap.size + 1]? = some (.cells (evL 0 zFr 0).toArray 40 (0, 0)) by rw [e17']; exact other_heap (by omega) _ _ _ U16)
          have Q17 := hide (show Below w.heap.size w w17 by rw [e17']; exact Q16.out.trans (below_setCells _ _ _ (by omega)))
          clear e17 e17' TH C16 D16 Y16 V16 Q16 Z16 U16 hwx
          have TV := hide (show w17.there (w15.heap.size + 1) 0 7 from there_heap (cs := evL 0 zFr 0) U17.out)
          go_wp2_with (refine wpList_store_hid (by rfl) 40 (.tmp 18) (.tmp 96) (by rfl) (w15.heap.size + 1) 0 (evL 0 zFr 0) (by rfl) (by rfl) (by exact TV.out) (by kernel_rfl) (by simp [Value.oneCell', evL]) ?_)
          intro w18 e18
          have C18 := hide (show w18.heap[x5]? = some (.cells cc.cs.toArray 31 (0, 0)) by rw [e18.out]; exact other_heap (by omega) _ _ _ C17.out)
          have D18 := hide (show w18.heap[x5 + 1]? = some (.cells dd.cs.toArray 31 (0, 0)) by rw [e18.out]; exact other_heap (by omega) _ _ _ D17.out)
          have Y18 := hide (show w18.heap[y1]? = some (.cells c2.cs.toArray 31 (0, 0)) by rw [e18.out]; exact other_heap (by omega) _ _ _ Y17.out)
          have V18 := hide (show w18.heap[y1 + 1]? = some (.cells #[.int .i64 0, .int .u32 0, .bool false, .bool false, .int .i64 0, .string ⟨#[]⟩, .int .i64 0] 40 (0, 0)) by rw [e18.out]; exact other_heap (by omega) _ _ _ V17.out)
          have Z18 := hide (show w18.heap[w15.heap.size]? = some (.cells d2.cs.toArray 31 (0, 0)) by rw [e18.out]; exact other_heap (by omega) _ _ _ Z17.out)
          have U18 := hide (show w18.heap[w15.heap.size + 1]? = some (.cells #[.int .i64 0, .int .u32 0, .bool false, .bool false, .int .i64 0, .string ⟨#[]⟩, .int .i64 0] 40 (0, 0)) by rw [e18.out]; exact whole_heap (evL 0 zFr 0) (xs := evL 0 zFr 0) U17.out rfl)
          have Q18 := hide (show Below w.heap.size w w18 by rw [e18.out]; exact Q17.out.trans (below_setCells _ _ _ (by omega)))
          clear e18 TV C17 D17 Y17 V17 Z17 U17 Q17
          generalize w15.heap.size = y2 at *
          go_wp2_with (first | (refine wpList_load_rowG (by kernel_rfl) 40 (.tmp 15) (by rfl) (y1 + 1) (by rfl) 40 #[.int .i64 0, .int .u32 0, .bool false, .bool false, .int .i64 0, .string ⟨#[]⟩, .int .i64 0] (0, 0) _ (by exact V18.out) Tryd.underlying40 (by rfl) (by kernel_rfl) ?_) | (refine wpList_load_rowG (by kernel_rfl) 40 (.tmp 18) (by rfl) (y2 + 1) (by rfl) 40 #[.int .i64 0, .int .u32 0, .bool false, .bool false, .int .i64 0, .string ⟨#[]⟩, .int .i64 0] (0, 0) _ (by exact U18.out) Tryd.underlying40 (by rfl) (by kernel_rfl) ?_))
          refine wp_region_L [0, 1] [(0, fun W => W.heap[y1]? = some (.cells c2.cs.toArray 31 (0, 0))), (1, fun W => W.heap[y2]? = some (.cells d2.cs.toArray 31 (0, 0)))] (by kernel_rfl) ?_
          replace C18 := hide (show w18.drew.heap[x5]? = _ from C18.out)
          replace D18 := hide (show w18.drew.heap[x5 + 1]? = _ from D18.out)
          replace Y18 := hide (show w18.drew.heap[y1]? = _ from Y18.out)
          replace Z18 := hide (show w18.drew.heap[y2]? = _ from Z18.out)
          replace Q18 := hide (show Below w.heap.size w w18.drew from Q18.out.drew)
          clear V18 U18
          generalize w18.drew = w19 at *
          refine wpAnyL_load (i := 0) (v := .agg c2.cs.toArray) rfl rfl (by kernel_rfl) (by kernel_rfl) (by kernel_rfl) (by kernel_rfl) (by kernel_rfl) (fun _ _ _ h => h) rfl (fun W h => exec_heap W y1 31 _ _ h Tryd.underlying31 rfl (by kernel_rfl) _ _ (.tmp 14) (by rfl) (by rfl)) (Y18.out) ?_
          go_simp
          refine wpAnyL_load (i := 1) (v := .agg d2.cs.toArray) rfl rfl (by kernel_rfl) (by kernel_rfl) (by kernel_rfl) (by kernel_rfl) (by kernel_rfl) (fun _ _ _ h => h) rfl (fun W h => exec_heap W y2 31 _ _ h Tryd.underlying31 rfl (by kernel_rfl) _ _ (.tmp 17) (by rfl) (by rfl)) (Z18.out) ?_
          go_simp
          have TC := hide (show w19.there x5 0 23 from there_heap (cs := cc.cs) C18.out)
          refine wpAnyL_one (i := 2) (by kernel_rfl) ?_
          refine wpOp_do rfl rfl ?_
          refine wp_store_as 31 (.tmp 5) (.tmp 114) rfl x5 0 c2.cs (by rfl) (by rfl) (by exact TC.out) (by kernel_rfl) (by simp [Value.oneCell', Cl.cs]) ?_
          intro w20 e20
          have C20 := hide (show w20.heap[x5]? = some (.cells c2.cs.toArray 31 (0, 0)) by rw [e20]; exact whole_heap c2.cs (xs := cc.cs) C18.out rfl)
          have D20 := hide (show w20.heap[x5 + 1]? = some (.cells dd.cs.toArray 31 (0, 0)) by rw [e20]; exact other_heap (by omega) _ _ _ D18.out)
          have Z20 := hide (show w20.heap[y2]? = some (.cells d2.cs.toArray 31 (0, 0)) by rw [e20]; exact other_heap (by omega) _ _ _ Z18.out)
          have Q20 := hide (show Below w.heap.size w w20 by rw [e20]; exact Q18.out.trans (below_setCells _ _ _ (by omega)))
          clear e20 TC C18 D18 Y18 Z18 Q18
          refine ⟨keepsL_mk (by kernel_rfl) (.past (by kernel_rfl) (.cons Z20.out .nil)), ?_⟩
          go_simp
          have TD := hide (show w20.there (x5 + 1) 0 23 from there_heap (cs := dd.cs) D20.out)
          refine wpAnyL_one (i := 3) (by kernel_rfl) ?_
          refine wpOp_do rfl rfl ?_
          refine wp_store_as 31 (.tmp 6) (.tmp 115) rfl (x5 + 1) 0 d2.cs (by rfl) (by rfl) (by exact TD.out) (by kernel_rfl) (by simp [Value.oneCell', Cl.cs]) ?_
          intro w21 e21
          have D21 := hide (show w21.heap[x5 + 1]? = some (.cells d2.cs.toArray 31 (0, 0)) by rw [e21]; exact whole_heap d2.cs (xs := dd.cs) D20.out rfl)
          have C21 := hide (show w21.heap[x5]? = some (.cells c2.cs.toArray 31 (0, 0)) by rw [e21]; exact other_heap (by omega) _ _ _ C20.out)
          have Q21 := hide (show Below w.heap.size w w21 by rw [e21]; exact Q20.out.trans (below_setCells _ _ _ (by omega)))
          clear e21 TD C20 D20 Z20 Q20
          refine ⟨keepsL_all (by kernel_rfl) (by kernel_rfl), ?_⟩
          go_simp
          refine wpAnyL_done (by kernel_rfl) ?_ _
          go_wp2_with fail
          go_roundw
          case rel => exact ⟨k + 1, by omega, by go_num, by rw [HC2.out]; exact C21, by rw [HD2.out]; exact D21, Q21⟩
          case measure => simp [intOf]; omega
        · have hki11 : (11 : Int) ≤ (k : Int) := by omega
          have hsc : (qCl zFr false (stQ k) (nQ k)).st = 1 := stQ_ge hk11
          have hsd : (qCl g true (stQ k) (nQ k)).st = 1 := stQ_ge hk11
          have hhc : (qCl zFr false (stQ k) (nQ k)).has = false := rfl
          have hhd : (qCl g true (stQ k) (nQ k)).has = true := rfl
          have DC := fun W => ctlDrive_q _ W hqc
          have DD := fun W => ctlDrive_q _ W hqd
          rw [if_neg (by rw [hhc]; simp)] at DC
          rw [if_pos ⟨hsd, hhd⟩] at DD
          replace DC := hide DC
          replace DD := hide DD
          generalize qCl zFr false (stQ k) (nQ k) = cc at *
          generalize qCl g true (stQ k) (nQ k) = dd at *
          have D1 := hide (DC.out wr)
          go_wp2_with (refine wpList_load_row rfl 31 (.tmp 5) (by rfl) x5 (by rfl) 31 cc.cs.toArray (0, 0) _ (by exact C.out) Tryd.underlying31 (by rfl) (by kernel_rfl) ?_)
          (with_reducible refine (D1.out).mono ?_)
          rintro e9 w9 ⟨rfl, q9⟩
          have C9 := hide (heap_below C.out q9)
          have D9 := hide (heap_below D.out q9)
          have Q9 := hide (below_next QQ.out QQ.out.size q9)
          have D2 := hide (DD.out w9)
          clear q9 C D QQ D1 DC DD
          go_wp2_with (refine wpList_load_row rfl 31 (.tmp 6) (by rfl) (x5 + 1) (by rfl) 31 dd.cs.toArray (0, 0) _ (by exact D9.out) Tryd.underlying31 (by rfl) (by kernel_rfl) ?_)
          (with_reducible refine (D2.out).mono ?_)
          rintro e10 w10 ⟨rfl, q10⟩
          have C10 := hide (heap_below C9.out q10)
          have D10 := hide (heap_below D9.out q10)
          have Q10 := hide (below_next Q9.out Q9.out.size q10)
          clear q10 C9 D9 Q9 D2
          obtain ⟨_, ⟨c4, _⟩, _⟩ := cl_cells C10.out
          obtain ⟨_, ⟨_, _, _, _, d8⟩, _⟩ := cl_cells D10.out
          rw [hsc] at c4
          rw [hhd] at d8
          clear hsc hsd hhc hhd
          have A1 := hide (AL.out w10)
          clear C10 D10
          go_wp2_with fail
          (with_reducible refine (A1.out).mono ?_)
          rintro e11 w11 ⟨rfl, q11⟩
          have Q11 := hide (below_next Q10.out Q10.out.size q11)
          go_wp2_with fail
          go_ret
          exact ⟨rfl, Q11.out⟩
      · obtain rfl : k = N := by omega
        have A1 := hide (AL.out wr)
        clear C D
        go_wp2_with fail
        (with_reducible refine (A1.out).mono ?_)
        rintro e9 w9 ⟨rfl, q9⟩
        have Q9 := hide (below_next QQ.out QQ.out.size q9)
        go_wp2_with fail
        go_ret
        exact ⟨rfl, Q9.out⟩
  · go_wp2_with (refine wpList_store_hid (by rfl) 31 (.tmp 7) (.tmp 31) (by rfl) w8.heap.size 0 zCl.cs (by rfl) (by rfl) (by exact TX.out) (by kernel_rfl) (by simp [Value.oneCell', Cl.cs]) ?_)
    intro wa ea
    have X10 := hide (show wa.heap[w8.heap.size]? = some (.cells zCl.cs.toArray 31 (0, 0)) by rw [ea.out]; exact whole_heap zCl.cs (xs := zCl.cs) X9 rfl)
    have Ca := hide (show wa.heap[x5]? = some (.cells zCl.cs.toArray 31 (0, 0)) by rw [ea.out]; exact other_heap (by omega) _ _ _ (heap_below C8.out q9))
    have Da := hide (show wa.heap[x5 + 1]? = some (.cells zCl.cs.toArray 31 (0, 0)) by rw [ea.out]; exact other_heap (by omega) _ _ _ (heap_below D8.out q9))
    have Ga := hide (show wa.heap[w.heap.size]? = some (.cells (frc g).toArray 24 (0, 0)) by rw [ea.out]; exact other_heap (by omega) _ _ _ (heap_below G8.out q9))
    have Qa := hide (show Below w.heap.size w wa by rw [ea.out]; exact (below_next Q8.out Q8.out.size q9).trans (below_setCells _ _ _ (by omega)))
    clear ea TX X9 q9 C8 D8 G8 Q8
    have Cb := Ca
    have Db := Da
    have Gb := Ga
    have Qb := Qa
    clear Ca Da Ga Qa X10
    have RR := hide (show Calls Tryd.prog 9 #[.agg (frc g).toArray] wa _ from refRight04_any g wa hid2)
    rw [hr] at RR
    go_wp2_with (refine wpList_load_row rfl 24 (.tmp 2) (by rfl) w.heap.size (by rfl) 24 (frc g).toArray (0, 0) _ (by exact Gb.out) Tryd.underlying24 (by rfl) (by kernel_rfl) ?_)
    (with_reducible refine (RR.out).mono ?_)
    rintro e9 wc ⟨rfl, q9⟩
    have CL := hide (show wc.heap[x5]? = some (.cells (qCl zFr false (stQ 0) (nQ 0)).cs.toArray 31 (0, 0)) from heap_below Cb.out q9)
    have DL := hide (show wc.heap[x5 + 1]? = some (.cells (qCl zFr false (stQ 0) (nQ 0)).cs.toArray 31 (0, 0)) from heap_below Db.out q9)
    have QL := hide (below_next Qb.out Qb.out.size q9)
    clear q9 Cb Db Gb Qb RR
    have AL := hide alive07_any
    have QC := hide (show ∀ k, (qCl zFr false (stQ k) (nQ k)).Q from fun k => by have := ones_q zCl_q k; rwa [show ones zCl k = _ from ones_q0 zFr false k] at this)
    have QD := hide (show ∀ k, (qCl zFr false (stQ k) (nQ k)).Q from fun k => by have := ones_q zCl_q k; rwa [show ones zCl k = _ from ones_q0 zFr false k] at this)
    go_wp2_with fail
    go_loopw [42] (fun vi W => ∃ k : Nat, k ≤ N ∧ vi = .int .i64 k ∧ Hid (W.heap[x5]? = some (.cells (qCl zFr false (stQ k) (nQ k)).cs.toArray 31 (0, 0))) ∧ Hid (W.heap[x5 + 1]? = some (.cells (qCl zFr false (stQ k) (nQ k)).cs.toArray 31 (0, 0))) ∧ Hid (Below w.heap.size w W)) (fun vi _ => N - (intOf vi).toNat)
    case atStart => exact ⟨0, Nat.zero_le _, rfl, CL, DL, QL⟩
    case round =>
      obtain ⟨k, hk, rfl, C, D, QQ⟩ := hrel
      clear CL DL QL
      by_cases hlt : k < N
      · have hki : (k : Int) < (N : Int) := by omega
        have hqc := QC.out k
        have hqd := QD.out k
        have HNC := hide (q_next zFr false k)
        have HND := hide (q_next zFr false k)
        have z0 : x5 + 1 < wr.heap.size := heap_lt D.out
        by_cases hk11 : k < 11
        · have hsc : (qCl zFr false (stQ k) (nQ k)).st = 0 := stQ_lt hk11
          have hsd : (qCl zFr false (stQ k) (nQ k)).st = 0 := stQ_lt hk11
          have hhc : (qCl zFr false (stQ k) (nQ k)).has = false := rfl
          have hhd : (qCl zFr false (stQ k) (nQ k)).has = false := rfl
          have DC := fun W => ctlDrive_q _ W hqc
          have DD := fun W => ctlDrive_q _ W hqd
          rw [if_neg (by omega)] at DC DD
          replace DC := hide DC
          replace DD := hide DD
          generalize qCl zFr false (stQ k) (nQ k) = cc at *
          have D1 := hide (DC.out wr)
          go_wp2_with (refine wpList_load_row rfl 31 (.tmp 5) (by rfl) x5 (by rfl) 31 cc.cs.toArray (0, 0) _ (by exact C.out) Tryd.underlying31 (by rfl) (by kernel_rfl) ?_)
          (with_reducible refine (D1.out).mono ?_)
          rintro e9 w9 ⟨rfl, q9⟩
          have C9 := hide (heap_below C.out q9)
          have D9 := hide (heap_below D.out q9)
          have Q9 := hide (below_next QQ.out QQ.out.size q9)
          have D2 := hide (DD.out w9)
          clear q9 C D QQ D1 DC DD
          go_wp2_with (refine wpList_load_row rfl 31 (.tmp 6) (by rfl) (x5 + 1) (by rfl) 31 cc.cs.toArray (0, 0) _ (by exact D9.out) Tryd.underlying31 (by rfl) (by kernel_rfl) ?_)
          (with_reducible refine (D2.out).mono ?_)
          rintro e10 w10 ⟨rfl, q10⟩
          have C10 := hide (heap_below C9.out q10)
          have D10 := hide (heap_below D9.out q10)
          have Q10 := hide (below_next Q9.out Q9.out.size q10)
          clear q10 C9 D9 Q9 D2
          obtain ⟨_, ⟨c4, _⟩, _⟩ := cl_cells C10.out
          obtain ⟨_, ⟨_, _, _, _, d8⟩, _⟩ := cl_cells D10.out
          rw [hsc] at c4
          rw [hhd] at d8
          clear hsc hsd hhc hhd
          have S1 := hide (ctlSample_one cc w10 hqc)
          go_wp2_with (refine wpList_load_row rfl 31 (.tmp 5) (by rfl) x5 (by rfl) 31 cc.cs.toArray (0, 0) _ (by exact C10.out) Tryd.underlying31 (by rfl) (by kernel_rfl) ?_)
          (with_reducible refine (S1.out).mono ?_)
          rintro e11 w11 ⟨rfl, q11⟩
          have C11 := hide (heap_below C10.out q11)
          have D11 := hide (heap_below D10.out q11)
          have Q11 := hide (below_next Q10.out Q10.out.size q11)
          rw [HNC.out]
          clear q11 C10 D10 Q10 S1 c4 d8
          obtain ⟨c2, hc2⟩ : ∃ c2, c2 = qCl zFr false (stQ (k + 1)) (nQ (k + 1)) := ⟨_, rfl⟩
          rw [← hc2]
          have HC2 := hide hc2.symm
          clear hc2
          have q12 : Below w11.heap.size w11 ((w11.alloc (.cells zCl.cs.toArray 31)).alloc (.cells (evL 0 zFr 0).toArray 40)) := ((Below.refl _ _).alloc (Nat.le_refl _) _).alloc (by simp) _
          have Y12 := heap_below (World.alloc_heap_new w11 (.cells zCl.cs.toArray 31)) ((Below.refl _ _).alloc (Nat.le_refl _) (.cells (evL 0 zFr 0).toArray 40))
          have V12 := World.alloc_heap_new (w11.alloc (.cells zCl.cs.toArray 31)) (.cells (evL 0 zFr 0).toArray 40)
          simp only [World.size_alloc] at V12
          have z11 : x5 + 1 < w11.heap.size := heap_lt D11.out
          have C12 := hide (heap_below C11.out q12)
          have D12 := hide (heap_below D11.out q12)
          have Q12 := hide (below_next Q11.out Q11.out.size q12)
          have TH := hide (show ((w11.alloc (.cells zCl.cs.toArray 31)).alloc (.cells (evL 0 zFr 0).toArray 40)).there w11.heap.size 0 23 from there_heap (cs := zCl.cs) Y12)
          clear q12 C11 D11 Q11
          obtain ⟨wx, hwx⟩ : ∃ wx, wx = (w11.alloc (.cells zCl.cs.toArray 31)).alloc (.cells (evL 0 zFr 0).toArray 40) := ⟨_, rfl⟩
          rw [← hwx] at C12 D12 Y12 V12 Q12
          go_wp2_with (refine wpList_store_hid (by rfl) 31 (.tmp 14) (.tmp 89) (by rfl) w11.heap.size 0 c2.cs (by rfl) (by rfl) (by exact TH.out) (by kernel_rfl) (by simp [Value.oneCell', Cl.cs]) ?_)
          intro w13 e13
          have e13' : w13 = wx.setCells w11.heap.size 0 c2.cs := by rw [hwx]; exact e13.out
          have C13 := hide (show w13.heap[x5]? = some (.cells cc.cs.toArray 31 (0, 0)) by rw [e13']; exact other_heap (by omega) _ _ _ C12.out)
          have D13 := hide (show w13.heap[x5 + 1]? = some (.cells cc.cs.toArray 31 (0, 0)) by rw [e13']; exact other_heap (by omega) _ _ _ D12.out)
          have Y13 := hide (show w13.heap[w11.heap.size]? = some (.cells c2.cs.toArray 31 (0, 0)) by rw [e13']; exact whole_heap c2.cs (xs := zCl.cs) Y12 rfl)
          have V13 := hide (show w13.heap[w11.heap.size + 1]? = some (.cells (evL 0 zFr 0).toArray 40 (0, 0)) by rw [e13']; exact other_heap (by omega) _ _ _ V12)
          have Q13 := hide (show Below w.heap.size w w13 by rw [e13']; exact Q12.out.trans (below_setCells _ _ _ (by omega)))
          clear e13 e13' TH C12 D12 Q12 Y12 V12 hwx
          have TV := hide (show w13.there (w11.heap.size + 1) 0 7 from there_heap (cs := evL 0 zFr 0) V13.out)
          go_wp2_with (refine wpList_store_hid (by rfl) 40 (.tmp 15) (.tmp 90) (by rfl) (w11.heap.size + 1) 0 (evL 0 zFr 0) (by rfl) (by rfl) (by exact TV.out) (by kernel_rfl) (by simp [Value.oneCell', evL]) ?_)
          intro w14 e14
          have C14 := hide (show w14.heap[x5]? = some (.cells cc.cs.toArray 31 (0, 0)) by rw [e14.out]; exact other_heap (by omega) _ _ _ C13.out)
          have D14 := hide (show w14.heap[x5 + 1]? = some (.cells cc.cs.toArray 31 (0, 0)) by rw [e14.out]; exact other_heap (by omega) _ _ _ D13.out)
          have Y14 := hide (show w14.heap[w11.heap.size]? = some (.cells c2.cs.toArray 31 (0, 0)) by rw [e14.out]; exact other_heap (by omega) _ _ _ Y13.out)
          have V14 := hide (show w14.heap[w11.heap.size + 1]? = some (.cells (evL 0 zFr 0).toArray 40 (0, 0)) by rw [e14.out]; exact whole_heap (evL 0 zFr 0) (xs := evL 0 zFr 0) V13.out rfl)
          have Q14 := hide (show Below w.heap.size w w14 by rw [e14.out]; exact Q13.out.trans (below_setCells _ _ _ (by omega)))
          clear e14 TV C13 D13 Y13 V13 Q13
          generalize w11.heap.size = y1 at *
          have S2 := hide (ctlSample_one cc w14 hqd)
          go_wp2_with (refine wpList_load_row rfl 31 (.tmp 6) (by rfl) (x5 + 1) (by rfl) 31 cc.cs.toArray (0, 0) _ (by exact D14.out) Tryd.underlying31 (by rfl) (by kernel_rfl) ?_)
          (with_reducible refine (S2.out).mono ?_)
          rintro e15 w15 ⟨rfl, q15⟩
          have C15 := hide (heap_below C14.out q15)
          have D15 := hide (heap_below D14.out q15)
          have Y15 := hide (heap_below Y14.out q15)
          have V15 := hide (heap_below V14.out q15)
          have Q15 := hide (below_next Q14.out Q14.out.size q15)
          rw [HND.out]
          clear q15 C14 D14 Y14 V14 Q14 S2
          rw [HC2.out]
          have q16 : Below w15.heap.size w15 ((w15.alloc (.cells zCl.cs.toArray 31)).alloc (.cells (evL 0 zFr 0).toArray 40)) := ((Below.refl _ _).alloc (Nat.le_refl _) _).alloc (by simp) _
          have Z16 := heap_below (World.alloc_heap_new w15 (.cells zCl.cs.toArray 31)) ((Below.refl _ _).alloc (Nat.le_refl _) (.cells (evL 0 zFr 0).toArray 40))
          have U16 := World.alloc_heap_new (w15.alloc (.cells zCl.cs.toArray 31)) (.cells (evL 0 zFr 0).toArray 40)
          simp only [World.size_alloc] at U16
          have z15 : y1 + 1 < w15.heap.size := heap_lt V15.out
          have C16 := hide (heap_below C15.out q16)
          have D16 := hide (heap_below D15.out q16)
          have Y16 := hide (heap_below Y15.out q16)
          have V16 := hide (heap_below V15.out q16)
          have Q16 := hide (below_next Q15.out Q15.out.size q16)
          have TH := hide (show ((w15.alloc (.cells zCl.cs.toArray 31)).alloc (.cells (evL 0 zFr 0).toArray 40)).there w15.heap.size 0 23 from there_heap (cs := zCl.cs) Z16)
          clear q16 C15 D15 Y15 V15 Q15
          obtain ⟨wx, hwx⟩ : ∃ wx, wx = (w15.alloc (.cells zCl.cs.toArray 31)).alloc (.cells (evL 0 zFr 0).toArray 40) := ⟨_, rfl⟩
          rw [← hwx] at C16 D16 Y16 V16 Q16 Z16 U16
          go_wp2_with (refine wpList_store_hid (by rfl) 31 (.tmp 17) (.tmp 95) (by rfl) w15.heap.size 0 c2.cs (by rfl) (by rfl) (by exact TH.out) (by kernel_rfl) (by simp [Value.oneCell', Cl.cs]) ?_)
          intro w17 e17
          have e17' : w17 = wx.setCells w15.heap.size 0 c2.cs := by rw [hwx]; exact e17.out
          have C17 := hide (show w17.heap[x5]? = some (.cells cc.cs.toArray 31 (0, 0)) by rw [e17']; exact other_heap (by omega) _ _ _ C16.out)
          have D17 := hide (show w17.heap[x5 + 1]? = some (.cells cc.cs.toArray 31 (0, 0)) by rw [e17']; exact other_heap (by omega) _ _ _ D16.out)
          have Y17 := hide (show w17.heap[y1]? = some (.cells c2.cs.toArray 31 (0, 0)) by rw [e17']; exact other_heap (by omega) _ _ _ Y16.out)
          have V17 := hide (show w17.heap[y1 + 1]? = some (.cells (evL 0 zFr 0).toArray 40 (0, 0)) by rw [e17']; exact other_heap (by omega) _ _ _ V16.out)
          have Z17 := hide (show w17.heap[w15.heap.size]? = some (.cells c2.cs.toArray 31 (0, 0)) by rw [e17']; exact whole_heap c2.cs (xs := zCl.cs) Z16 rfl)
          have U17 := hide (show w17.heap[w15.heap.size + 1]? = some (.cells (evL 0 zFr 0).toArray 40 (0, 0)) by rw [e17']; exact other_heap (by omega) _ _ _ U16)
          have Q17 := hide (show Below w.heap.size w w17 by rw [e17']; exact Q16.out.trans (below_setCells _ _ _ (by omega)))
          clear e17 e17' TH C16 D16 Y16 V16 Q16 Z16 U16 hwx
          have TV := hide (show w17.there (w15.heap.size + 1) 0 7 from there_heap (cs := evL 0 zFr 0) U17.out)
          go_wp2_with (refine wpList_store_hid (by rfl) 40 (.tmp 18) (.tmp 96) (by rfl) (w15.heap.size + 1) 0 (evL 0 zFr 0) (by rfl) (by rfl) (by exact TV.out) (by kernel_rfl) (by simp [Value.oneCell', evL]) ?_)
          intro w18 e18
          have C18 := hide (show w18.heap[x5]? = some (.cells cc.cs.toArray 31 (0, 0)) by rw [e18.out]; exact other_heap (by omega) _ _ _ C17.out)
          have D18 := hide (show w18.heap[x5 + 1]? = some (.cells cc.cs.toArray 31 (0, 0)) by rw [e18.out]; exact other_heap (by omega) _ _ _ D17.out)
          have Y18 := hide (show w18.heap[y1]? = some (.cells c2.cs.toArray 31 (0, 0)) by rw [e18.out]; exact other_heap (by omega) _ _ _ Y17.out)
          have V18 := hide (show w18.heap[y1 + 1]? = some (.cells #[.int .i64 0, .int .u32 0, .bool false, .bool false, .int .i64 0, .string ⟨#[]⟩, .int .i64 0] 40 (0, 0)) by rw [e18.out]; exact other_heap (by omega) _ _ _ V17.out)
          have Z18 := hide (show w18.heap[w15.heap.size]? = some (.cells c2.cs.toArray 31 (0, 0)) by rw [e18.out]; exact other_heap (by omega) _ _ _ Z17.out)
          have U18 := hide (show w18.heap[w15.heap.size + 1]? = some (.cells #[.int .i64 0, .int .u32 0, .bool false, .bool false, .int .i64 0, .string ⟨#[]⟩, .int .i64 0] 40 (0, 0)) by rw [e18.out]; exact whole_heap (evL 0 zFr 0) (xs := evL 0 zFr 0) U17.out rfl)
          have Q18 := hide (show Below w.heap.size w w18 by rw [e18.out]; exact Q17.out.trans (below_setCells _ _ _ (by omega)))
          clear e18 TV C17 D17 Y17 V17 Z17 U17 Q17
          generalize w15.heap.size = y2 at *
          go_wp2_with (first | (refine wpList_load_rowG (by kernel_rfl) 40 (.tmp 15) (by rfl) (y1 + 1) (by rfl) 40 #[.int .i64 0, .int .u32 0, .bool false, .bool false, .int .i64 0, .string ⟨#[]⟩, .int .i64 0] (0, 0) _ (by exact V18.out) Tryd.underlying40 (by rfl) (by kernel_rfl) ?_) | (refine wpList_load_rowG (by kernel_rfl) 40 (.tmp 18) (by rfl) (y2 + 1) (by rfl) 40 #[.int .i64 0, .int .u32 0, .bool false, .bool false, .int .i64 0, .string ⟨#[]⟩, .int .i64 0] (0, 0) _ (by exact U18.out) Tryd.underlying40 (by rfl) (by kernel_rfl) ?_))
          refine wp_region_L [0, 1] [(0, fun W => W.heap[y1]? = some (.cells c2.cs.toArray 31 (0, 0))), (1, fun W => W.heap[y2]? = some (.cells c2.cs.toArray 31 (0, 0)))] (by kernel_rfl) ?_
          replace C18 := hide (show w18.drew.heap[x5]? = _ from C18.out)
          replace D18 := hide (show w18.drew.heap[x5 + 1]? = _ from D18.out)
          replace Y18 := hide (show w18.drew.heap[y1]? = _ from Y18.out)
          replace Z18 := hide (show w18.drew.heap[y2]? = _ from Z18.out)
          replace Q18 := hide (show Below w.heap.size w w18.drew from Q18.out.drew)
          clear V18 U18
          generalize w18.drew = w19 at *
          refine wpAnyL_load (i := 0) (v := .agg c2.cs.toArray) rfl rfl (by kernel_rfl) (by kernel_rfl) (by kernel_rfl) (by kernel_rfl) (by kernel_rfl) (fun _ _ _ h => h) rfl (fun W h => exec_heap W y1 31 _ _ h Tryd.underlying31 rfl (by kernel_rfl) _ _ (.tmp 14) (by rfl) (by rfl)) (Y18.out) ?_
          go_simp
          refine wpAnyL_load (i := 1) (v := .agg c2.cs.toArray) rfl rfl (by kernel_rfl) (by kernel_rfl) (by kernel_rfl) (by kernel_rfl) (by kernel_rfl) (fun _ _ _ h => h) rfl (fun W h => exec_heap W y2 31 _ _ h Tryd.underlying31 rfl (by kernel_rfl) _ _ (.tmp 17) (by rfl) (by rfl)) (Z18.out) ?_
          go_simp
          have TC := hide (show w19.there x5 0 23 from there_heap (cs := cc.cs) C18.out)
          refine wpAnyL_one (i := 2) (by kernel_rfl) ?_
          refine wpOp_do rfl rfl ?_
          refine wp_store_as 31 (.tmp 5) (.tmp 114) rfl x5 0 c2.cs (by rfl) (by rfl) (by exact TC.out) (by kernel_rfl) (by simp [Value.oneCell', Cl.cs]) ?_
          intro w20 e20
          have C20 := hide (show w20.heap[x5]? = some (.cells c2.cs.toArray 31 (0, 0)) by rw [e20]; exact whole_heap c2.cs (xs := cc.cs) C18.out rfl)
          have D20 := hide (show w20.heap[x5 + 1]? = some (.cells cc.cs.toArray 31 (0, 0)) by rw [e20]; exact other_heap (by omega) _ _ _ D18.out)
          have Z20 := hide (show w20.heap[y2]? = some (.cells c2.cs.toArray 31 (0, 0)) by rw [e20]; exact other_heap (by omega) _ _ _ Z18.out)
          have Q20 := hide (show Below w.heap.size w w20 by rw [e20]; exact Q18.out.trans (below_setCells _ _ _ (by omega)))
          clear e20 TC C18 D18 Y18 Z18 Q18
          refine ⟨keepsL_mk (by kernel_rfl) (.past (by kernel_rfl) (.cons Z20.out .nil)), ?_⟩
          go_simp
          have TD := hide (show w20.there (x5 + 1) 0 23 from there_heap (cs := cc.cs) D20.out)
          refine wpAnyL_one (i := 3) (by kernel_rfl) ?_
          refine wpOp_do rfl rfl ?_
          refine wp_store_as 31 (.tmp 6) (.tmp 115) rfl (x5 + 1) 0 c2.cs (by rfl) (by rfl) (by exact TD.out) (by kernel_rfl) (by simp [Value.oneCell', Cl.cs]) ?_
          intro w21 e21
          have D21 := hide (show w21.heap[x5 + 1]? = some (.cells c2.cs.toArray 31 (0, 0)) by rw [e21]; exact whole_heap c2.cs (xs := cc.cs) D20.out rfl)
          have C21 := hide (show w21.heap[x5]? = some (.cells c2.cs.toArray 31 (0, 0)) by rw [e21]; exact other_heap (by omega) _ _ _ C20.out)
          have Q21 := hide (show Below w.heap.size w w21 by rw [e21]; exact Q20.out.trans (below_setCells _ _ _ (by omega)))
          clear e21 TD C20 D20 Z20 Q20
          refine ⟨keepsL_all (by kernel_rfl) (by kernel_rfl), ?_⟩
          go_simp
          refine wpAnyL_done (by kernel_rfl) ?_ _
          go_wp2_with fail
          go_roundw
          case rel => exact ⟨k + 1, by omega, by go_num, by rw [HC2.out]; exact C21, by rw [HC2.out]; exact D21, Q21⟩
          case measure => simp [intOf]; omega
        · have hki11 : (11 : Int) ≤ (k : Int) := by omega
          have hsc : (qCl zFr false (stQ k) (nQ k)).st = 1 := stQ_ge hk11
          have hsd : (qCl zFr false (stQ k) (nQ k)).st = 1 := stQ_ge hk11
          have hhc : (qCl zFr false (stQ k) (nQ k)).has = false := rfl
          have hhd : (qCl zFr false (stQ k) (nQ k)).has = false := rfl
          have DC := fun W => ctlDrive_q _ W hqc
          have DD := fun W => ctlDrive_q _ W hqd
          rw [if_neg (by rw [hhc]; simp)] at DC
          rw [if_neg (by rw [hhd]; simp)] at DD
          replace DC := hide DC
          replace DD := hide DD
          generalize qCl zFr false (stQ k) (nQ k) = cc at *
          have D1 := hide (DC.out wr)
          go_wp2_with (refine wpList_load_row rfl 31 (.tmp 5) (by rfl) x5 (by rfl) 31 cc.cs.toArray (0, 0) _ (by exact C.out) Tryd.underlying31 (by rfl) (by kernel_rfl) ?_)
          (with_reducible refine (D1.out).mono ?_)
          rintro e9 w9 ⟨rfl, q9⟩
          have C9 := hide (heap_below C.out q9)
          have D9 := hide (heap_below D.out q9)
          have Q9 := hide (below_next QQ.out QQ.out.size q9)
          have D2 := hide (DD.out w9)
          clear q9 C D QQ D1 DC DD
          go_wp2_with (refine wpList_load_row rfl 31 (.tmp 6) (by rfl) (x5 + 1) (by rfl) 31 cc.cs.toArray (0, 0) _ (by exact D9.out) Tryd.underlying31 (by rfl) (by kernel_rfl) ?_)
          (with_reducible refine (D2.out).mono ?_)
          rintro e10 w10 ⟨rfl, q10⟩
          have C10 := hide (heap_below C9.out q10)
          have D10 := hide (heap_below D9.out q10)
          have Q10 := hide (below_next Q9.out Q9.out.size q10)
          clear q10 C9 D9 Q9 D2
          obtain ⟨_, ⟨c4, _⟩, _⟩ := cl_cells C10.out
          obtain ⟨_, ⟨_, _, _, _, d8⟩, _⟩ := cl_cells D10.out
          rw [hsc] at c4
          rw [hhd] at d8
          clear hsc hsd hhc hhd
          have S1 := hide (ctlSample_one cc w10 hqc)
          go_wp2_with (refine wpList_load_row rfl 31 (.tmp 5) (by rfl) x5 (by rfl) 31 cc.cs.toArray (0, 0) _ (by exact C10.out) Tryd.underlying31 (by rfl) (by kernel_rfl) ?_)
          (with_reducible refine (S1.out).mono ?_)
          rintro e11 w11 ⟨rfl, q11⟩
          have C11 := hide (heap_below C10.out q11)
          have D11 := hide (heap_below D10.out q11)
          have Q11 := hide (below_next Q10.out Q10.out.size q11)
          rw [HNC.out]
          clear q11 C10 D10 Q10 S1 c4 d8
          obtain ⟨c2, hc2⟩ : ∃ c2, c2 = qCl zFr false (stQ (k + 1)) (nQ (k + 1)) := ⟨_, rfl⟩
          rw [← hc2]
          have HC2 := hide hc2.symm
          clear hc2
          have q12 : Below w11.heap.size w11 ((w11.alloc (.cells zCl.cs.toArray 31)).alloc (.cells (evL 0 zFr 0).toArray 40)) := ((Below.refl _ _).alloc (Nat.le_refl _) _).alloc (by simp) _
          have Y12 := heap_below (World.alloc_heap_new w11 (.cells zCl.cs.toArray 31)) ((Below.refl _ _).alloc (Nat.le_refl _) (.cells (evL 0 zFr 0).toArray 40))
          have V12 := World.alloc_heap_new (w11.alloc (.cells zCl.cs.toArray 31)) (.cells (evL 0 zFr 0).toArray 40)
          simp only [World.size_alloc] at V12
          have z11 : x5 + 1 < w11.heap.size := heap_lt D11.out
          have C12 := hide (heap_below C11.out q12)
          have D12 := hide (heap_below D11.out q12)
          have Q12 := hide (below_next Q11.out Q11.out.size q12)
          have TH := hide (show ((w11.alloc (.cells zCl.cs.toArray 31)).alloc (.cells (evL 0 zFr 0).toArray 40)).there w11.heap.size 0 23 from there_heap (cs := zCl.cs) Y12)
          clear q12 C11 D11 Q11
          obtain ⟨wx, hwx⟩ : ∃ wx, wx = (w11.alloc (.cells zCl.cs.toArray 31)).alloc (.cells (evL 0 zFr 0).toArray 40) := ⟨_, rfl⟩
          rw [← hwx] at C12 D12 Y12 V12 Q12
          go_wp2_with (refine wpList_store_hid (by rfl) 31 (.tmp 14) (.tmp 89) (by rfl) w11.heap.size 0 c2.cs (by rfl) (by rfl) (by exact TH.out) (by kernel_rfl) (by simp [Value.oneCell', Cl.cs]) ?_)
          intro w13 e13
          have e13' : w13 = wx.setCells w11.heap.size 0 c2.cs := by rw [hwx]; exact e13.out
          have C13 := hide (show w13.heap[x5]? = some (.cells cc.cs.toArray 31 (0, 0)) by rw [e13']; exact other_heap (by omega) _ _ _ C12.out)
          have D13 := hide (show w13.heap[x5 + 1]? = some (.cells cc.cs.toArray 31 (0, 0)) by rw [e13']; exact other_heap (by omega) _ _ _ D12.out)
          have Y13 := hide (show w13.heap[w11.heap.size]? = some (.cells c2.cs.toArray 31 (0, 0)) by rw [e13']; exact whole_heap c2.cs (xs := zCl.cs) Y12 rfl)
          have V13 := hide (show w13.heap[w11.heap.size + 1]? = some (.cells (evL 0 zFr 0).toArray 40 (0, 0)) by rw [e13']; exact other_heap (by omega) _ _ _ V12)
          have Q13 := hide (show Below w.heap.size w w13 by rw [e13']; exact Q12.out.trans (below_setCells _ _ _ (by omega)))
          clear e13 e13' TH C12 D12 Q12 Y12 V12 hwx
          have TV := hide (show w13.there (w11.heap.size + 1) 0 7 from there_heap (cs := evL 0 zFr 0) V13.out)
          go_wp2_with (refine wpList_store_hid (by rfl) 40 (.tmp 15) (.tmp 90) (by rfl) (w11.heap.size + 1) 0 (evL 0 zFr 0) (by rfl) (by rfl) (by exact TV.out) (by kernel_rfl) (by simp [Value.oneCell', evL]) ?_)
          intro w14 e14
          have C14 := hide (show w14.heap[x5]? = some (.cells cc.cs.toArray 31 (0, 0)) by rw [e14.out]; exact other_heap (by omega) _ _ _ C13.out)
          have D14 := hide (show w14.heap[x5 + 1]? = some (.cells cc.cs.toArray 31 (0, 0)) by rw [e14.out]; exact other_heap (by omega) _ _ _ D13.out)
          have Y14 := hide (show w14.heap[w11.heap.size]? = some (.cells c2.cs.toArray 31 (0, 0)) by rw [e14.out]; exact other_heap (by omega) _ _ _ Y13.out)
          have V14 := hide (show w14.heap[w11.heap.size + 1]? = some (.cells (evL 0 zFr 0).toArray 40 (0, 0)) by rw [e14.out]; exact whole_heap (evL 0 zFr 0) (xs := evL 0 zFr 0) V13.out rfl)
          have Q14 := hide (show Below w.heap.size w w14 by rw [e14.out]; exact Q13.out.trans (below_setCells _ _ _ (by omega)))
          clear e14 TV C13 D13 Y13 V13 Q13
          generalize w11.heap.size = y1 at *
          have S2 := hide (ctlSample_one cc w14 hqd)
          go_wp2_with (refine wpList_load_row rfl 31 (.tmp 6) (by rfl) (x5 + 1) (by rfl) 31 cc.cs.toArray (0, 0) _ (by exact D14.out) Tryd.underlying31 (by rfl) (by kernel_rfl) ?_)
          (with_reducible refine (S2.out).mono ?_)
          rintro e15 w15 ⟨rfl, q15⟩
          have C15 := hide (heap_below C14.out q15)
          have D15 := hide (heap_below D14.out q15)
          have Y15 := hide (heap_below Y14.out q15)
          have V15 := hide (heap_below V14.out q15)
          have Q15 := hide (below_next Q14.out Q14.out.size q15)
          rw [HND.out]
          clear q15 C14 D14 Y14 V14 Q14 S2
          rw [HC2.out]
          have q16 : Below w15.heap.size w15 ((w15.alloc (.cells zCl.cs.toArray 31)).alloc (.cells (evL 0 zFr 0).toArray 40)) := ((Below.refl _ _).alloc (Nat.le_refl _) _).alloc (by simp) _
          have Z16 := heap_below (World.alloc_heap_new w15 (.cells zCl.cs.toArray 31)) ((Below.refl _ _).alloc (Nat.le_refl _) (.cells (evL 0 zFr 0).toArray 40))
          have U16 := World.alloc_heap_new (w15.alloc (.cells zCl.cs.toArray 31)) (.cells (evL 0 zFr 0).toArray 40)
          simp only [World.size_alloc] at U16
          have z15 : y1 + 1 < w15.heap.size := heap_lt V15.out
          have C16 := hide (heap_below C15.out q16)
          have D16 := hide (heap_below D15.out q16)
          have Y16 := hide (heap_below Y15.out q16)
          have V16 := hide (heap_below V15.out q16)
          have Q16 := hide (below_next Q15.out Q15.out.size q16)
          have TH := hide (show ((w15.alloc (.cells zCl.cs.toArray 31)).alloc (.cells (evL 0 zFr 0).toArray 40)).there w15.heap.size 0 23 from there_heap (cs := zCl.cs) Z16)
          clear q16 C15 D15 Y15 V15 Q15
          obtain ⟨wx, hwx⟩ : ∃ wx, wx = (w15.alloc (.cells zCl.cs.toArray 31)).alloc (.cells (evL 0 zFr 0).toArray 40) := ⟨_, rfl⟩
          rw [← hwx] at C16 D16 Y16 V16 Q16 Z16 U16
          go_wp2_with (refine wpList_store_hid (by rfl) 31 (.tmp 17) (.tmp 95) (by rfl) w15.heap.size 0 c2.cs (by rfl) (by rfl) (by exact TH.out) (by kernel_rfl) (by simp [Value.oneCell', Cl.cs]) ?_)
          intro w17 e17
          have e17' : w17 = wx.setCells w15.heap.size 0 c2.cs := by rw [hwx]; exact e17.out
          have C17 := hide (show w17.heap[x5]? = some (.cells cc.cs.toArray 31 (0, 0)) by rw [e17']; exact other_heap (by omega) _ _ _ C16.out)
          have D17 := hide (show w17.heap[x5 + 1]? = some (.cells cc.cs.toArray 31 (0, 0)) by rw [e17']; exact other_heap (by omega) _ _ _ D16.out)
          have Y17 := hide (show w17.heap[y1]? = some (.cells c2.cs.toArray 31 (0, 0)) by rw [e17']; exact other_heap (by omega) _ _ _ Y16.out)
          have V17 := hide (show w17.heap[y1 + 1]? = some (.cells (evL 0 zFr 0).toArray 40 (0, 0)) by rw [e17']; exact other_heap (by omega) _ _ _ V16.out)
          have Z17 := hide (show w17.heap[w15.heap.size]? = some (.cells c2.cs.toArray 31 (0, 0)) by rw [e17']; exact whole_heap c2.cs (xs := zCl.cs) Z16 rfl)
          have U17 := hide (show w17.heap[w15.heap.size + 1]? = some (.cells (evL 0 zFr 0).toArray 40 (0, 0)) by rw [e17']; exact other_heap (by omega) _ _ _ U16)
          have Q17 := hide (show Below w.heap.size w w17 by rw [e17']; exact Q16.out.trans (below_setCells _ _ _ (by omega)))
          clear e17 e17' TH C16 D16 Y16 V16 Q16 Z16 U16 hwx
          have TV := hide (show w17.there (w15.heap.size + 1) 0 7 from there_heap (cs := evL 0 zFr 0) U17.out)
          go_wp2_with (refine wpList_store_hid (by rfl) 40 (.tmp 18) (.tmp 96) (by rfl) (w15.heap.size + 1) 0 (evL 0 zFr 0) (by rfl) (by rfl) (by exact TV.out) (by kernel_rfl) (by simp [Value.oneCell', evL]) ?_)
          intro w18 e18
          have C18 := hide (show w18.heap[x5]? = some (.cells cc.cs.toArray 31 (0, 0)) by rw [e18.out]; exact other_heap (by omega) _ _ _ C17.out)
          have D18 := hide (show w18.heap[x5 + 1]? = some (.cells cc.cs.toArray 31 (0, 0)) by rw [e18.out]; exact other_heap (by omega) _ _ _ D17.out)
          have Y18 := hide (show w18.heap[y1]? = some (.cells c2.cs.toArray 31 (0, 0)) by rw [e18.out]; exact other_heap (by omega) _ _ _ Y17.out)
          have V18 := hide (show w18.heap[y1 + 1]? = some (.cells #[.int .i64 0, .int .u32 0, .bool false, .bool false, .int .i64 0, .string ⟨#[]⟩, .int .i64 0] 40 (0, 0)) by rw [e18.out]; exact other_heap (by omega) _ _ _ V17.out)
          have Z18 := hide (show w18.heap[w15.heap.size]? = some (.cells c2.cs.toArray 31 (0, 0)) by rw [e18.out]; exact other_heap (by omega) _ _ _ Z17.out)
          have U18 := hide (show w18.heap[w15.heap.size + 1]? = some (.cells #[.int .i64 0, .int .u32 0, .bool false, .bool false, .int .i64 0, .string ⟨#[]⟩, .int .i64 0] 40 (0, 0)) by rw [e18.out]; exact whole_heap (evL 0 zFr 0) (xs := evL 0 zFr 0) U17.out rfl)
          have Q18 := hide (show Below w.heap.size w w18 by rw [e18.out]; exact Q17.out.trans (below_setCells _ _ _ (by omega)))
          clear e18 TV C17 D17 Y17 V17 Z17 U17 Q17
          generalize w15.heap.size = y2 at *
          go_wp2_with (first | (refine wpList_load_rowG (by kernel_rfl) 40 (.tmp 15) (by rfl) (y1 + 1) (by rfl) 40 #[.int .i64 0, .int .u32 0, .bool false, .bool false, .int .i64 0, .string ⟨#[]⟩, .int .i64 0] (0, 0) _ (by exact V18.out) Tryd.underlying40 (by rfl) (by kernel_rfl) ?_) | (refine wpList_load_rowG (by kernel_rfl) 40 (.tmp 18) (by rfl) (y2 + 1) (by rfl) 40 #[.int .i64 0, .int .u32 0, .bool false, .bool false, .int .i64 0, .string ⟨#[]⟩, .int .i64 0] (0, 0) _ (by exact U18.out) Tryd.underlying40 (by rfl) (by kernel_rfl) ?_))
          refine wp_region_L [0, 1] [(0, fun W => W.heap[y1]? = some (.cells c2.cs.toArray 31 (0, 0))), (1, fun W => W.heap[y2]? = some (.cells c2.cs.toArray 31 (0, 0)))] (by kernel_rfl) ?_
          replace C18 := hide (show w18.drew.heap[x5]? = _ from C18.out)
          replace D18 := hide (show w18.drew.heap[x5 + 1]? = _ from D18.out)
          replace Y18 := hide (show w18.drew.heap[y1]? = _ from Y18.out)
          replace Z18 := hide (show w18.drew.heap[y2]? = _ from Z18.out)
          replace Q18 := hide (show Below w.heap.size w w18.drew from Q18.out.drew)
          clear V18 U18
          generalize w18.drew = w19 at *
          refine wpAnyL_load (i := 0) (v := .agg c2.cs.toArray) rfl rfl (by kernel_rfl) (by kernel_rfl) (by kernel_rfl) (by kernel_rfl) (by kernel_rfl) (fun _ _ _ h => h) rfl (fun W h => exec_heap W y1 31 _ _ h Tryd.underlying31 rfl (by kernel_rfl) _ _ (.tmp 14) (by rfl) (by rfl)) (Y18.out) ?_
          go_simp
          refine wpAnyL_load (i := 1) (v := .agg c2.cs.toArray) rfl rfl (by kernel_rfl) (by kernel_rfl) (by kernel_rfl) (by kernel_rfl) (by kernel_rfl) (fun _ _ _ h => h) rfl (fun W h => exec_heap W y2 31 _ _ h Tryd.underlying31 rfl (by kernel_rfl) _ _ (.tmp 17) (by rfl) (by rfl)) (Z18.out) ?_
          go_simp
          have TC := hide (show w19.there x5 0 23 from there_heap (cs := cc.cs) C18.out)
          refine wpAnyL_one (i := 2) (by kernel_rfl) ?_
          refine wpOp_do rfl rfl ?_
          refine wp_store_as 31 (.tmp 5) (.tmp 114) rfl x5 0 c2.cs (by rfl) (by rfl) (by exact TC.out) (by kernel_rfl) (by simp [Value.oneCell', Cl.cs]) ?_
          intro w20 e20
          have C20 := hide (show w20.heap[x5]? = some (.cells c2.cs.toArray 31 (0, 0)) by rw [e20]; exact whole_heap c2.cs (xs := cc.cs) C18.out rfl)
          have D20 := hide (show w20.heap[x5 + 1]? = some (.cells cc.cs.toArray 31 (0, 0)) by rw [e20]; exact other_heap (by omega) _ _ _ D18.out)
          have Z20 := hide (show w20.heap[y2]? = some (.cells c2.cs.toArray 31 (0, 0)) by rw [e20]; exact other_heap (by omega) _ _ _ Z18.out)
          have Q20 := hide (show Below w.heap.size w w20 by rw [e20]; exact Q18.out.trans (below_setCells _ _ _ (by omega)))
          clear e20 TC C18 D18 Y18 Z18 Q18
          refine ⟨keepsL_mk (by kernel_rfl) (.past (by kernel_rfl) (.cons Z20.out .nil)), ?_⟩
          go_simp
          have TD := hide (show w20.there (x5 + 1) 0 23 from there_heap (cs := cc.cs) D20.out)
          refine wpAnyL_one (i := 3) (by kernel_rfl) ?_
          refine wpOp_do rfl rfl ?_
          refine wp_store_as 31 (.tmp 6) (.tmp 115) rfl (x5 + 1) 0 c2.cs (by rfl) (by rfl) (by exact TD.out) (by kernel_rfl) (by simp [Value.oneCell', Cl.cs]) ?_
          intro w21 e21
          have D21 := hide (show w21.heap[x5 + 1]? = some (.cells c2.cs.toArray 31 (0, 0)) by rw [e21]; exact whole_heap c2.cs (xs := cc.cs) D20.out rfl)
          have C21 := hide (show w21.heap[x5]? = some (.cells c2.cs.toArray 31 (0, 0)) by rw [e21]; exact other_heap (by omega) _ _ _ C20.out)
          have Q21 := hide (show Below w.heap.size w w21 by rw [e21]; exact Q20.out.trans (below_setCells _ _ _ (by omega)))
          clear e21 TD C20 D20 Z20 Q20
          refine ⟨keepsL_all (by kernel_rfl) (by kernel_rfl), ?_⟩
          go_simp
          refine wpAnyL_done (by kernel_rfl) ?_ _
          go_wp2_with fail
          go_roundw
          case rel => exact ⟨k + 1, by omega, by go_num, by rw [HC2.out]; exact C21, by rw [HC2.out]; exact D21, Q21⟩
          case measure => simp [intOf]; omega
      · obtain rfl : k = N := by omega
        have A1 := hide (AL.out wr)
        clear C D
        go_wp2_with fail
        (with_reducible refine (A1.out).mono ?_)
        rintro e9 w9 ⟨rfl, q9⟩
        have Q9 := hide (below_next QQ.out QQ.out.size q9)
        go_wp2_with fail
        go_ret
        exact ⟨rfl, Q9.out⟩
end Go.Proofs.YtkkkhbgjnfkpaaaDoor
