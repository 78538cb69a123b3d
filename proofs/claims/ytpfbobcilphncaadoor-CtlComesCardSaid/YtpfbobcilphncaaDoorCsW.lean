/- The walk of campanilelaw07.CtlComes. -/
import Derived.Test.YtpfbobcilphncaaDoorMgCsCP
namespace Go.Proofs.YtpfbobcilphncaaDoor
open Go.ChangeShapes Go.WideShapes Go.ChangeAt Go.RowKit
open FP (Fr bitsF bodyF)

theorem fr_box {W : World} {b : Nat} {f : Fr} {t : TypeId} {fz : Nat × Nat} (h : W.heap[b]? = some (.cells (frc f).toArray t fz)) : W.cell? ⟨b, 0, none⟩ = some (.int .u32 f.id) ∧ W.cell? ⟨b, 1, none⟩ = some (.bool f.ext) ∧ W.cell? ⟨b, 2, none⟩ = some (.bool f.rem) ∧ W.cell? ⟨b, 3, none⟩ = some (.int .i64 f.dlc) ∧ W.cell? ⟨b, 4, none⟩ = some (.string f.data) := by
  simp [World.cell?, h, frc]
theorem pair_at {W : World} {b k : Nat} {f g : Fr} {t : TypeId} {fz : Nat × Nat} (h : W.heap[b]? = some (.cells (frc f ++ frc g).toArray t fz)) (hk : k < 2) : W.rangeAt b (k * 5) (frc (if k = 0 then f else g)) := fun j v hj => by
  have hl : j < 5 := (List.getElem?_eq_some_iff.1 hj).1
  have hr := range_heap h (k * 5 + j) v
  rw [Nat.zero_add] at hr
  refine hr ?_
  obtain rfl | rfl : k = 0 ∨ k = 1 := by omega
  · rw [show 0 * 5 + j = j by omega, List.getElem?_append_left (by show j < 5; omega)]; exact hj
  · rw [show 1 * 5 + j = 5 + j by omega, List.getElem?_append_right (by show 5 ≤ 5 + j; omega), show 5 + j - (frc f).length = j by show 5 + j - 5 = j; omega]; exact hj

set_option maxRecDepth 100000 in
set_option maxHeartbeats 32000000 in
theorem ctlComes_walk (f0 g0 : Fr) (w : World) (hid : f0.id < 4294967296) (hid' : g0.id < 4294967296) (hs : f0.data.size ≤ maxLen) (hs' : g0.data.size ≤ maxLen) : Calls Tryd.prog 3 #[.agg (frc f0).toArray, .agg (frc g0).toArray] w fun e w' => e = .returned (.bool true) ∧ Below w.heap.size w w' := by
  obtain ⟨w0, hw0⟩ : ∃ w0, w0 = (w.alloc (.cells (frc f0).toArray 24)).alloc (.cells (frc g0).toArray 24) := ⟨_, rfl⟩
  have step : ∀ (W : World) (o : Obj), Below W.heap.size W (W.alloc o) := fun W o => (Below.refl _ _).alloc (Nat.le_refl _) _
  have F0 := hide (heap_below (World.alloc_heap_new w (.cells (frc f0).toArray 24)) (step _ (.cells (frc g0).toArray 24)))
  have G0 := hide (World.alloc_heap_new (w.alloc (.cells (frc f0).toArray 24)) (.cells (frc g0).toArray 24))
  have Q0 : Hid (Below w.heap.size w w0) := by rw [hw0]; exact hide ((step _ _).alloc (by simp) _)
  rw [← hw0] at F0 G0
  simp only [World.size_alloc] at G0
  have FW := hide (fun W => few07_any f0 W hs)
  have GW := hide (fun W => few07_any g0 W hs')
  clear hs hs' step
  go_enter Tryd.func3, Tryd.ntmps3
  go_upto_region 1 with fail
  change Code.wp _ _ _ _ ((w.alloc (.cells (frc f0).toArray 24)).alloc (.cells (frc g0).toArray 24))
  rw [← hw0]
  clear hw0
  refine wp_region_L [0, 2] [(0, fun W => W.heap[w.heap.size]? = some (.cells (frc f0).toArray 24 (0, 0))), (2, fun W => W.heap[w.heap.size + 1]? = some (.cells (frc g0).toArray 24 (0, 0)))] (by kernel_rfl) ?_
  replace F0 := hide (show w0.drew.heap[w.heap.size]? = some (.cells (frc f0).toArray 24 (0, 0)) from F0.out)
  replace G0 := hide (show w0.drew.heap[w.heap.size + 1]? = some (.cells (frc g0).toArray 24 (0, 0)) from G0.out)
  replace Q0 := hide (show Below w.heap.size w w0.drew from Q0.out.drew)
  generalize w0.drew = w1 at *
  refine wpAnyL_load (i := 0) (v := .agg (frc f0).toArray) rfl rfl (by kernel_rfl) (by kernel_rfl) (by kernel_rfl) (by kernel_rfl) (by kernel_rfl) (fun _ _ _ h => h) rfl (fun W h => exec_heap W w.heap.size 24 _ _ h Tryd.underlying24 rfl (by kernel_rfl) _ _ (.tmp 2) (by rfl) (by rfl)) (F0.out) ?_
  go_simp
  refine wpAnyL_load (i := 2) (v := .agg (frc g0).toArray) rfl rfl (by kernel_rfl) (by kernel_rfl) (by kernel_rfl) (by kernel_rfl) (by kernel_rfl) (fun _ _ _ h => h) rfl (fun W h => exec_heap W (w.heap.size + 1) 24 _ _ h Tryd.underlying24 rfl (by kernel_rfl) _ _ (.tmp 3) (by rfl) (by rfl)) (G0.out) ?_
  go_simp
  refine wpAnyL_one (i := 1) (by kernel_rfl) ?_
  refine wpOp_do rfl rfl ?_
  go_simp
  (with_reducible refine (FW.out _).mono ?_)
  rintro e2 w2 ⟨rfl, q2⟩
  have F2 := hide (heap_below F0.out q2)
  have G2 := hide (heap_below G0.out q2)
  have Q2 := hide (below_next Q0.out Q0.out.size q2)
  clear q2 F0 G0 Q0 FW
  go_simp
  refine ⟨keepsL_mk (by kernel_rfl) (.cons F2.out (.cons G2.out .nil)), ?_⟩
  go_simp
  refine wpAnyL_one (i := 3) (by kernel_rfl) ?_
  refine wpOp_do rfl rfl ?_
  go_simp
  (with_reducible refine (GW.out _).mono ?_)
  rintro e3 w3 ⟨rfl, q3⟩
  have F3 := hide (heap_below F2.out q3)
  have G3 := hide (heap_below G2.out q3)
  have Q3 := hide (below_next Q2.out Q2.out.size q3)
  clear q3 F2 G2 Q2 GW
  have hf2 : (cut7 f0).id < 4294967296 := hid
  have hg2 : (cut7 g0).id < 4294967296 := hid'
  clear hid hid'
  generalize cut7 f0 = f at *
  generalize cut7 g0 = g at *
  go_simp
  refine ⟨keepsL_all (by kernel_rfl) (by kernel_rfl), ?_⟩
  go_simp
  refine wpAnyL_one (i := 4) (by kernel_rfl) ?_
  refine wpOp_do rfl rfl ?_
  refine wp_store_as 24 (.tmp 2) (.tmp 20) rfl w.heap.size 0 (frc f) (by rfl) (by rfl) (by exact (show World.there _ w.heap.size 0 5 from there_heap (cs := frc f0) F3.out)) (by kernel_rfl) (by simp [Value.oneCell', frc]) ?_
  intro w4 e4
  have F4 := hide (show w4.heap[w.heap.size]? = some (.cells (frc f).toArray 24 (0, 0)) by rw [e4]; exact whole_heap (frc f) (xs := frc f0) F3.out rfl)
  have G4 := hide (show w4.heap[w.heap.size + 1]? = some (.cells (frc g0).toArray 24 (0, 0)) by rw [e4]; exact other_heap (by omega) _ _ _ G3.out)
  have Q4 := hide (show Below w.heap.size w w4 by rw [e4]; exact Q3.out.trans (below_setCells _ _ _ (Nat.le_refl _)))
  clear e4 F3 G3 Q3
  refine ⟨keepsL_all (by kernel_rfl) (by kernel_rfl), ?_⟩
  go_simp
  refine wpAnyL_one (i := 5) (by kernel_rfl) ?_
  refine wpOp_do rfl rfl ?_
  refine wp_store_as 24 (.tmp 3) (.tmp 22) rfl (w.heap.size + 1) 0 (frc g) (by rfl) (by rfl) (by exact (show World.there _ (w.heap.size + 1) 0 5 from there_heap (cs := frc g0) G4.out)) (by kernel_rfl) (by simp [Value.oneCell', frc]) ?_
  intro w5 e5
  have F5 := hide (show w5.heap[w.heap.size]? = some (.cells (frc f).toArray 24 (0, 0)) by rw [e5]; exact other_heap (by omega) _ _ _ F4.out)
  have G5 := hide (show w5.heap[w.heap.size + 1]? = some (.cells (frc g).toArray 24 (0, 0)) by rw [e5]; exact whole_heap (frc g) (xs := frc g0) G4.out rfl)
  have Q5 := hide (show Below w.heap.size w w5 by rw [e5]; exact Q4.out.trans (below_setCells _ _ _ (by omega)))
  clear e5 F4 G4 Q4
  refine ⟨keepsL_all (by kernel_rfl) (by kernel_rfl), ?_⟩
  go_simp
  refine wpAnyL_done (by kernel_rfl) ?_ _
  have RF := hide (fun W => show Calls Tryd.prog 8 #[.agg (frc f).toArray] W fun e w' => e = .returned (.bool (FP.rightB f)) ∧ Below W.heap.size W w' from refRight04_any f W hf2)
  have RG := hide (fun W => show Calls Tryd.prog 8 #[.agg (frc g).toArray] W fun e w' => e = .returned (.bool (FP.rightB g)) ∧ Below W.heap.size W w' from refRight04_any g W hg2)
  have AL := hide (fun W => alive07_any W)
  go_wp2_with (refine wpList_load_row rfl 24 (.tmp 2) (by rfl) w.heap.size (by rfl) 24 (frc f).toArray (0, 0) _ (by exact F5.out) Tryd.underlying24 (by rfl) (by kernel_rfl) ?_)
  (with_reducible refine (RF.out _).mono ?_)
  rintro e6 w6 ⟨rfl, q6⟩
  have F6 := hide (heap_below F5.out q6)
  have G6 := hide (heap_below G5.out q6)
  have Q6 := hide (below_next Q5.out Q5.out.size q6)
  clear q6 F5 G5 Q5
  rcases Bool.eq_false_or_eq_true (FP.rightB f) with hrf | hrf
  case inr =>
    rw [hrf]
    go_wp2_with fail
    (with_reducible refine (AL.out _).mono ?_)
    rintro e8 w8 ⟨rfl, q8⟩
    have Q8 := hide (below_next Q6.out Q6.out.size q8)
    go_wp2_with fail
    go_ret
    exact ⟨rfl, Q8.out⟩
  case inl =>
  rw [hrf]
  go_wp2_with (refine wpList_load_rowG (by kernel_rfl) 24 (.tmp 3) (by rfl) (w.heap.size + 1) (by rfl) 24 (frc g).toArray (0, 0) _ (by exact G6.out) Tryd.underlying24 (by rfl) (by kernel_rfl) ?_)
  (with_reducible refine (RG.out _).mono ?_)
  rintro e7 w7 ⟨rfl, q7⟩
  have F7 := hide (heap_below F6.out q7)
  have G7 := hide (heap_below G6.out q7)
  have Q7 := hide (below_next Q6.out Q6.out.size q7)
  clear q7 F6 G6 Q6 RF RG
  rcases Bool.eq_false_or_eq_true (FP.rightB g) with hrg | hrg
  case inr =>
    rw [hrg]
    go_wp2_with fail
    (with_reducible refine (AL.out _).mono ?_)
    rintro e8 w8 ⟨rfl, q8⟩
    have Q8 := hide (below_next Q7.out Q7.out.size q8)
    go_wp2_with fail
    go_ret
    exact ⟨rfl, Q8.out⟩
  case inl =>
  rw [hrg]
  have RY := hide (ready_any w7)
  obtain ⟨c0, hc0⟩ : ∃ c0, c0 = idleC := ⟨_, rfl⟩
  rw [← hc0] at RY
  have HC0 := hide hc0
  clear hc0
  go_wp2_with fail
  (with_reducible refine (RY.out).mono ?_)
  rintro e8 w8 ⟨rfl, q8⟩
  have qa : Below w8.heap.size w8 (w8.alloc (.cells zCl.cs.toArray 33)) := (Below.refl _ _).alloc (Nat.le_refl _) _
  have F8 := hide (heap_below (heap_below F7.out q8) qa)
  have G8 := hide (heap_below (heap_below G7.out q8) qa)
  have C8 := hide (World.alloc_heap_new w8 (.cells zCl.cs.toArray 33))
  have z8 : w.heap.size + 1 < w8.heap.size := heap_lt (heap_below G7.out q8)
  have Q8 := hide (below_next (below_next Q7.out Q7.out.size q8) (below_next Q7.out Q7.out.size q8).size qa)
  have T8 := hide (show (w8.alloc (.cells zCl.cs.toArray 33)).there w8.heap.size 0 23 from there_heap (cs := zCl.cs) C8.out)
  clear q8 qa F7 G7 Q7 RY
  go_wp2_with (refine wpList_store_hid (by rfl) 33 (.tmp 5) (.tmp 34) (by rfl) w8.heap.size 0 c0.cs (by rfl) (by rfl) (by exact T8.out) (by kernel_rfl) (by simp [Value.oneCell', Cl.cs]) ?_)
  intro w9 e9
  have C9 := hide (show w9.heap[w8.heap.size]? = some (.cells c0.cs.toArray 33 (0, 0)) by rw [e9.out]; exact whole_heap c0.cs (xs := zCl.cs) C8.out rfl)
  have F9 := hide (show w9.heap[w.heap.size]? = some (.cells (frc f).toArray 24 (0, 0)) by rw [e9.out]; exact other_heap (by omega) _ _ _ F8.out)
  have G9 := hide (show w9.heap[w.heap.size + 1]? = some (.cells (frc g).toArray 24 (0, 0)) by rw [e9.out]; exact other_heap (by omega) _ _ _ G8.out)
  have Q9 := hide (show Below w.heap.size w w9 by rw [e9.out]; exact Q8.out.trans (below_setCells _ _ _ (by omega)))
  clear e9 T8 C8 F8 G8 Q8
  generalize w8.heap.size = y at *
  go_wp2_with fail
  (with_reducible refine (AL.out _).mono ?_)
  rintro e10 w10 ⟨rfl, q10⟩
  have C10 := hide (heap_below C9.out q10)
  have F10 := hide (heap_below F9.out q10)
  have G10 := hide (heap_below G9.out q10)
  have Q10 := hide (below_next Q9.out Q9.out.size q10)
  clear q10 C9 F9 G9 Q9 AL
  obtain ⟨g1, g2, g3, g4, g5⟩ := fr_box G10.out
  obtain ⟨f1, f2, f3, f4, f5⟩ := fr_box F10.out
  go_upto_region 8 with fail
  have qb : Below w10.heap.size w10 (w10.alloc (.cells (frc f ++ frc g).toArray 24)) := (Below.refl _ _).alloc (Nat.le_refl _) _
  have L11 := hide (World.alloc_heap_new w10 (.cells (frc f ++ frc g).toArray 24))
  have C11 := hide (heap_below C10.out qb)
  have Q11 := hide (below_next Q10.out Q10.out.size qb)
  have z11 : y < w10.heap.size := heap_lt C10.out
  change Code.wp _ _ _ _ (w10.alloc (.cells (frc f ++ frc g).toArray 24))
  clear qb C10 Q10 F10 G10 g1 g2 g3 g4 g5 f1 f2 f3 f4 f5
  generalize w10.alloc (.cells (frc f ++ frc g).toArray 24) = w11 at *
  generalize w10.heap.size = bs at *
  go_loopw [46] (fun vi W => ∃ k : Nat, k ≤ 2 ∧ vi = .int .i64 k ∧ Hid (W.heap[y]? = some (.cells c0.cs.toArray 33 (0, 0))) ∧ Hid (W.heap[bs]? = some (.cells (frc f ++ frc g).toArray 24 (0, 0))) ∧ Hid (Below w.heap.size w W)) (fun vi _ => 2 - (intOf vi).toNat)
  case atStart => exact ⟨0, by omega, rfl, C11, L11, Q11⟩
  case round =>
    clear C11 L11 Q11
    obtain ⟨k, hk, rfl, C, L, Q⟩ := hrel
    by_cases hlt : k < 2
    · obtain ⟨x, hx⟩ : ∃ x, x = if k = 0 then f else g := ⟨_, rfl⟩
      have hrx : FP.rightB x = true := by rw [hx]; split; exact hrf; exact hrg
      have PA := hide (show wr.rangeAt bs (k * 5) (frc x) by rw [hx]; exact pair_at L.out hlt)
      have RB := hide (fun W => show Calls Tryd.prog 11 #[.agg (frc x).toArray] W fun e w' => e = .returned (.string ⟨(bitsF x).toArray⟩) ∧ Below W.heap.size W w' from refBits_any x W hrx)
      obtain ⟨S, hS⟩ : ∃ S : ByteArray, S = ⟨(bitsF x).toArray⟩ := ⟨_, rfl⟩
      rw [← hS] at RB
      have HSL := hide (show S.data.toList = bitsF x by rw [hS])
      have hk2 : (k : Int) < 2 := by omega
      clear hS hx
      have zb : bs < wr.heap.size := heap_lt L.out
      have zy : y < wr.heap.size := heap_lt C.out
      have qz : Below wr.heap.size wr (wr.alloc (.cells (frc zFr).toArray 24)) := (Below.refl _ _).alloc (Nat.le_refl _) _
      have X1 := hide (World.alloc_heap_new wr (.cells (frc zFr).toArray 24))
      have C1 := hide (heap_below C.out qz)
      have L1 := hide (heap_below L.out qz)
      have Q1 := hide (below_next Q.out Q.out.size qz)
      have TX := hide (show (wr.alloc (.cells (frc zFr).toArray 24)).there wr.heap.size 0 5 from there_heap (cs := frc zFr) X1.out)
      clear qz C L Q
      go_wp2_with (first | (refine wpList_load_midG (by kernel_rfl) 24 (.tmp 48) (by rfl) bs (k * 5) (by rfl) (frc x) _ (by exact PA.out) Tryd.underlying24 (by rfl) (by kernel_rfl) ?_) | (refine wpList_store_hid (by rfl) 24 (.tmp 8) (.tmp 49) (by rfl) wr.heap.size 0 (frc x) (by rfl) (by rfl) (by exact TX.out) (by kernel_rfl) (by simp [Value.oneCell', frc]) ?_))
      intro w2' e2'
      have X2 := hide (show w2'.heap[wr.heap.size]? = some (.cells (frc x).toArray 24 (0, 0)) by rw [e2'.out]; exact whole_heap (frc x) (xs := frc zFr) X1.out rfl)
      have C2 := hide (show w2'.heap[y]? = some (.cells c0.cs.toArray 33 (0, 0)) by rw [e2'.out]; exact other_heap (by omega) _ _ _ C1.out)
      have L2 := hide (show w2'.heap[bs]? = some (.cells (frc f ++ frc g).toArray 24 (0, 0)) by rw [e2'.out]; exact other_heap (by omega) _ _ _ L1.out)
      have Q2' := hide (show Below w.heap.size w w2' by rw [e2'.out]; exact Q1.out.trans (below_setCells _ _ _ (by omega)))
      clear e2' TX X1 C1 L1 Q1 PA
      generalize wr.heap.size = z at *
      go_wp2_with (refine wpList_load_row rfl 24 (.tmp 8) (by rfl) z (by rfl) 24 (frc x).toArray (0, 0) _ (by exact X2.out) Tryd.underlying24 (by rfl) (by kernel_rfl) ?_)
      (with_reducible refine (RB.out _).mono ?_)
      rintro e3' w3' ⟨rfl, q3'⟩
      have X3 := hide (heap_below X2.out q3')
      have C3 := hide (heap_below C2.out q3')
      have L3 := hide (heap_below L2.out q3')
      have Q3' := hide (below_next Q2'.out Q2'.out.size q3')
      clear q3' X2 C2 L2 Q2' RB
      have hsz : S.size = (bitsF x).length := by rw [← HSL.out]; exact Array.length_toList.symm
      have hn : S.size = (bodyF x).length + 10 := by rw [hsz]; exact FP.body_len x
      have hn2 : S.size ≤ 157 := by have := FP.body_le hrx; omega
      have hn3 : 44 ≤ S.size := by have := FP.body_ge hrx; omega
      obtain ⟨m1, hm1⟩ : ∃ m1 : Nat, (S.size : Int) - 9 = m1 := ⟨S.size - 9, by omega⟩
      obtain ⟨m2, hm2⟩ : ∃ m2 : Nat, (S.size : Int) - 8 = m2 := ⟨S.size - 8, by omega⟩
      obtain ⟨TS, hTS⟩ : ∃ TS : ByteArray, TS = S.extract 0 m1 ++ ⟨#[48]⟩ ++ S.extract m2 S.size := ⟨_, rfl⟩
      have HTL := hide (show TS.data.toList = toldF x by
        rw [hTS, ByteArray.data_append, ByteArray.data_append, Array.toList_append, Array.toList_append, toList_extract, toList_extract, HSL.out, List.extract_eq_take_drop, List.extract_eq_take_drop, List.drop_zero]
        unfold toldF
        rw [show m1 - 0 = (bitsF x).length - 9 by omega, show m2 = (bitsF x).length - 8 by omega, List.take_of_length_le (l := (bitsF x).drop _) (by rw [List.length_drop]; omega)]
        simp)
      have hts : TS.size = S.size := by
        have h1 : TS.data.toList.length = TS.size := Array.length_toList
        rw [← h1, HTL.out, told_len, ← hsz]
      have HTS := hide hTS
      have HN := hide hn
      have HSZ := hide hsz
      have HTSZ := hide hts
      clear hTS hn hsz hts
      go_upto_region 12 with fail
      go_cut [9] (fun v W => v = .string TS ∧ Hid (Below w3'.heap.size w3' W))
      case first =>
        have hml1 : (m1 : Int) ≤ S.size := by omega
        have hml2 : (m2 : Int) ≤ S.size := by omega
        have hm14 : (m1 : Int) ≤ 157 := by omega
        have hm24 : (m2 : Int) ≤ 157 := by omega
        have hc1 : ¬ 9223372036854775807 < (S.extract 0 m1).size + 1 := by rw [ByteArray.size_extract]; omega
        have hc2 : ¬ 9223372036854775807 < (S.extract 0 m1 ++ ⟨#[48]⟩ : ByteArray).size + (S.extract m2 S.size).size := by rw [ByteArray.size_append, ByteArray.size_extract, ByteArray.size_extract]; show ¬ 9223372036854775807 < _ + 1 + _; omega
        have hc3 : ¬ 9223372036854775807 < min m1 S.size + 1 := by omega
        have hc4 : ¬ 9223372036854775807 < min m1 S.size + 1 + (S.size - m2) := by omega
        clear X3 C3 L3 Q3' HSL HTL
        have hw1 : IntKind.i64.wrap (m1 : Int) = (m1 : Int) := IntWalk.i64_in _ (by omega)
        have hw2 : IntKind.i64.wrap (m2 : Int) = (m2 : Int) := IntWalk.i64_in _ (by omega)
        refine wp_region_L [0, 1, 2, 3, 4, 5, 6, 7, 8, 9] [] (by kernel_rfl) ?_
        have qd : Below w3'.heap.size w3' w3'.drew := (Below.refl _ _).drew
        have QD := hide qd
        clear qd
        generalize w3'.drew = wd at *
        refine wpAnyL_pure (i := 0) (v := .string S) rfl rfl (by kernel_rfl) (by kernel_rfl) (by kernel_rfl) (by kernel_rfl) (by kernel_rfl) (fun _ _ _ h => h) rfl (fun W => by go_simp) ?_
        go_simp
        refine wpAnyL_pure (i := 1) (v := .int .i64 S.size) rfl rfl (by kernel_rfl) (by kernel_rfl) (by kernel_rfl) (by kernel_rfl) (by kernel_rfl) (fun _ _ _ h => h) rfl (fun W => by go_simp) ?_
        go_simp
        refine wpAnyL_pure (i := 2) (v := .int .i64 m1) rfl rfl (by kernel_rfl) (by kernel_rfl) (by kernel_rfl) (by kernel_rfl) (by kernel_rfl) (fun _ _ _ h => h) rfl (fun W => by go_simp) ?_
        go_simp
        refine wpAnyL_pure (i := 3) (v := .string (S.extract 0 m1)) rfl rfl (by kernel_rfl) (by kernel_rfl) (by kernel_rfl) (by kernel_rfl) (by kernel_rfl) (fun _ _ _ h => h) rfl (fun W => by go_simp) ?_
        go_simp
        refine wpAnyL_pure (i := 4) (v := .string (S.extract 0 m1 ++ ⟨#[48]⟩)) rfl rfl (by kernel_rfl) (by kernel_rfl) (by kernel_rfl) (by kernel_rfl) (by kernel_rfl) (fun _ _ _ h => h) rfl (fun W => by go_simp) ?_
        go_simp
        refine wpAnyL_pure (i := 5) (v := .string S) rfl rfl (by kernel_rfl) (by kernel_rfl) (by kernel_rfl) (by kernel_rfl) (by kernel_rfl) (fun _ _ _ h => h) rfl (fun W => by go_simp) ?_
        go_simp
        refine wpAnyL_pure (i := 6) (v := .int .i64 S.size) rfl rfl (by kernel_rfl) (by kernel_rfl) (by kernel_rfl) (by kernel_rfl) (by kernel_rfl) (fun _ _ _ h => h) rfl (fun W => by go_simp) ?_
        go_simp
        refine wpAnyL_pure (i := 7) (v := .int .i64 m2) rfl rfl (by kernel_rfl) (by kernel_rfl) (by kernel_rfl) (by kernel_rfl) (by kernel_rfl) (fun _ _ _ h => h) rfl (fun W => by go_simp) ?_
        go_simp
        refine wpAnyL_pure (i := 8) (v := .string (S.extract m2 S.size)) rfl rfl (by kernel_rfl) (by kernel_rfl) (by kernel_rfl) (by kernel_rfl) (by kernel_rfl) (fun _ _ _ h => h) rfl (fun W => by go_simp) ?_
        go_simp
        refine wpAnyL_pure (i := 9) (v := .string (S.extract 0 m1 ++ ⟨#[48]⟩ ++ S.extract m2 S.size)) rfl rfl (by kernel_rfl) (by kernel_rfl) (by kernel_rfl) (by kernel_rfl) (by kernel_rfl) (fun _ _ _ h => h) rfl (fun W => by go_simp) ?_
        go_simp
        refine wpAnyL_one (i := 10) (by kernel_rfl) ?_
        refine wpOp_do rfl rfl ?_
        go_simp
        refine ⟨keepsL_all (by kernel_rfl) (by kernel_rfl), ?_⟩
        refine wpAnyL_done (by kernel_rfl) ?_ _
        go_wp2_with fail
        go_meet
        exact ⟨by rw [HTS.out], QD⟩
      case rest =>
      obtain ⟨rfl, q4'⟩ := hcut
      have X := hide (heap_below X3.out q4'.out)
      have C := hide (heap_below C3.out q4'.out)
      have L := hide (heap_below L3.out q4'.out)
      have Q := hide (below_next Q3'.out Q3'.out.size q4'.out)
      have hcst : c0.st = 1 ∧ c0.has = false ∧ c0.Ok := by rw [HC0.out]; exact ⟨rfl, rfl, idle_ok⟩
      have STEP := hide (fun (i : Nat) (hi : i < TS.size) => show (rcvS c0 x i).Ok ∧ (TS[i] = 48 ∨ TS[i] = 49) ∧ (rcvS c0 x i).drv = (if i = S.size - 9 then 48 else 49) ∧ (rcvS c0 x i).samp TS[i] = ⟨rcvS c0 x (i + 1), if i + 2 = S.size then 2 else 0, if i + 2 = S.size then x else zFr, 0⟩ from by
        have hi2 : i < (bitsF x).length := by rw [← HSZ.out, ← HTSZ.out]; exact hi
        obtain ⟨b, hb, hbit⟩ := bits_some x (i := i) hi2
        have ht : TS[i] = busB x i b := by
          have h1 : TS.data.toList[i]? = some TS[i] := get_some TS i hi
          rw [HTL.out, told_at x hb] at h1
          exact (Option.some.inj h1).symm
        have st := rcv_step hrx hcst.1 hcst.2.1 hi2 hb
        have hN := HN.out
        have e1 : (i = (bodyF x).length + 1) = (i = S.size - 9) := propext ⟨fun _ => by omega, fun _ => by omega⟩
        have e2 : (i = (bodyF x).length + 8) = (i + 2 = S.size) := propext ⟨fun _ => by omega, fun _ => by omega⟩
        rw [ht]
        refine ⟨rcv_ok hcst.2.2 hrx hcst.1 hcst.2.1 i (by omega), busB_bit hbit, ?_, ?_⟩
        · rw [st.1]; simp only [e1]
        · rw [st.2]; simp only [e2])
      have CE := hide (show Calls Tryd.prog 14 #[.agg (rcvS c0 x S.size).cs.toArray, .string ⟨#[49, 49, 49]⟩] wc (fun _ _ => True) ∨ True from .inr trivial)
      have FD := hide (fun W => show Calls Tryd.prog 14 #[.agg (rcvS c0 x S.size).cs.toArray, .string ⟨#[49, 49, 49]⟩] W fun e w' => e = .returned (.tuple #[.agg c0.cs.toArray, .bool true]) ∧ Below W.heap.size W w' from by
        have h1 : (rcvS c0 x S.size).Ok := rcv_ok hcst.2.2 hrx hcst.1 hcst.2.1 _ (by rw [HSZ.out]; exact Nat.le_refl _)
        have := feed_any (rcvS c0 x S.size) ⟨#[49, 49, 49]⟩ W h1 (by decide) (by decide)
        have e : (rcvS c0 x S.size).run (⟨#[49, 49, 49]⟩ : ByteArray).data.toList = c0 := by
          rw [HC0.out, HSZ.out, rcv_end]
          exact rcv_idle x _
        rw [e] at this
        exact this)
      have HTS2 := hide (show TS.size = S.size from HTSZ.out)
      have CC := hide (show wc.heap[y]? = some (.cells (rcvS c0 x 0).cs.toArray 33 (0, 0)) from C.out)
      clear CE q4' X3 C3 L3 Q3' C HTSZ HSZ HN HTL HTS HSL hcst hm1 hm2
      go_wp2_with fail
      go_loopw [65] (fun vi W => ∃ i : Nat, i ≤ S.size ∧ vi = .int .i64 i ∧ Hid (W.heap[y]? = some (.cells (rcvS c0 x i).cs.toArray 33 (0, 0))) ∧ Hid (W.heap[z]? = some (.cells (frc x).toArray 24 (0, 0))) ∧ Hid (W.heap[bs]? = some (.cells (frc f ++ frc g).toArray 24 (0, 0))) ∧ Hid (Below w.heap.size w W)) (fun vi _ => S.size - (intOf vi).toNat)
      case atStart => exact ⟨0, Nat.zero_le _, rfl, CC, X, L, Q⟩
      case round =>
        clear CC X L Q
        obtain ⟨i, hi, rfl, C, X, L, Q⟩ := hrel
        by_cases hil : i < S.size
        · have hit : i < TS.size := by rw [HTS2.out]; exact hil
          obtain ⟨hok, hbit, hdrv, hsamp⟩ := STEP.out i hit
          have DR := hide (fun W => hdrv ▸ ctlDrive_ok (rcvS c0 x i) W hok)
          have SA := hide (fun W => ctlSample_ok (rcvS c0 x i) TS[i] hbit W hok)
          rw [hsamp] at SA
          obtain ⟨kd, hkd⟩ : ∃ kd : Int, kd = if i + 2 = S.size then 2 else 0 := ⟨_, rfl⟩
          obtain ⟨ef, hef⟩ : ∃ ef, ef = if i + 2 = S.size then x else zFr := ⟨_, rfl⟩
          rw [← hkd, ← hef] at SA
          have HKD := hide hkd
          have HEF := hide hef
          obtain ⟨db, hdb⟩ : ∃ db : UInt8, db = if i = S.size - 9 then 48 else 49 := ⟨_, rfl⟩
          rw [← hdb] at DR
          have HDB := hide hdb
          generalize hdk : rcvS c0 x i = d at *
          obtain ⟨d2, hd2⟩ : ∃ d2, d2 = rcvS c0 x (i + 1) := ⟨_, rfl⟩
          rw [← hd2] at SA
          have HD2 := hide hd2
          clear hok hdrv hsamp hkd hef hdb hdk hd2 hbit
          have hki : (i : Int) < (S.size : Int) := by omega
          have hkt : (i : Int) < (TS.size : Int) := by omega
          go_wp2_with (refine wpList_load_row rfl 33 (.tmp 5) (by rfl) y (by rfl) 33 d.cs.toArray (0, 0) _ (by exact C.out) Tryd.underlying33 (by rfl) (by kernel_rfl) ?_)
          (with_reducible refine (DR.out _).mono ?_)
          rintro e10 wd0 ⟨rfl, q10⟩
          replace C := hide (heap_below C.out q10)
          replace X := hide (heap_below X.out q10)
          replace L := hide (heap_below L.out q10)
          replace Q := hide (below_next Q.out Q.out.size q10)
          clear q10 DR
          go_upto_region 17 with fail
          go_cut [14, 15, 16] (fun vx vv ve W => ∃ x7 x8, vx = .pointer (some ⟨x7, 0, none⟩) ∧ vv = .pointer (some ⟨x8, 0, none⟩) ∧ ve = .int .i64 0 ∧ Hid (W.heap[x7]? = some (.cells d2.cs.toArray 33 (0, 0))) ∧ Hid (W.heap[x8]? = some (.cells (evL kd ef 0).toArray 42 (0, 0))) ∧ Hid (W.heap[y]? = some (.cells d.cs.toArray 33 (0, 0))) ∧ Hid (W.heap[z]? = some (.cells (frc x).toArray 24 (0, 0))) ∧ Hid (W.heap[bs]? = some (.cells (frc f ++ frc g).toArray 24 (0, 0))) ∧ Hid (Below w.heap.size w W) ∧ y < x7 ∧ z < x7 ∧ bs < x7 ∧ y < x8 ∧ bs < x8)
          case first =>
            clear HKD HEF HDB HD2 STEP FD
            go_wp2_with fail
            refine wp_region_L [0, 1, 2, 3, 5, 6, 7, 8] [(0, fun W => W.heap[y]? = some (.cells d.cs.toArray 33 (0, 0)))] (by kernel_rfl) ?_
            replace C := hide (show wd0.drew.heap[y]? = some (.cells d.cs.toArray 33 (0, 0)) from C.out)
            replace X := hide (show wd0.drew.heap[z]? = some (.cells (frc x).toArray 24 (0, 0)) from X.out)
            replace L := hide (show wd0.drew.heap[bs]? = some (.cells (frc f ++ frc g).toArray 24 (0, 0)) from L.out)
            replace Q := hide (show Below w.heap.size w wd0.drew from Q.out.drew)
            generalize wd0.drew = wd at *
            refine wpAnyL_load (i := 0) (v := .agg d.cs.toArray) rfl rfl (by kernel_rfl) (by kernel_rfl) (by kernel_rfl) (by kernel_rfl) (by kernel_rfl) (fun _ _ _ h => h) rfl (fun W h => exec_heap W y 33 _ _ h Tryd.underlying33 rfl (by kernel_rfl) _ _ (.tmp 5) (by rfl) (by rfl)) (C.out) ?_
            go_simp
            refine wpAnyL_pure (i := 1) (v := .string TS) rfl rfl (by kernel_rfl) (by kernel_rfl) (by kernel_rfl) (by kernel_rfl) (by kernel_rfl) (fun _ _ _ h => h) rfl (fun W => by go_simp) ?_
            go_simp
            refine wpAnyL_pure (i := 2) (v := .int .i64 i) rfl rfl (by kernel_rfl) (by kernel_rfl) (by kernel_rfl) (by kernel_rfl) (by kernel_rfl) (fun _ _ _ h => h) rfl (fun W => by go_simp) ?_
            go_simp
            refine wpAnyL_pure (i := 3) (v := .int .u8 TS[i].toNat) rfl rfl (by kernel_rfl) (by kernel_rfl) (by kernel_rfl) (by kernel_rfl) (by kernel_rfl) (fun _ _ _ h => h) rfl (fun W => by go_simp) ?_
            go_simp
            refine wpAnyL_three (i := 4) (k := 9) (m := 10) (by kernel_rfl) ?_ ?_ ?_
            · refine wpOp_do rfl rfl ?_
              go_simp
              (with_reducible refine (SA.out _).mono ?_)
              rintro ewda wda ⟨rfl, q⟩
              replace C := hide (heap_below C.out q)
              replace X := hide (heap_below X.out q)
              replace L := hide (heap_below L.out q)
              replace Q := hide (below_next Q.out Q.out.size q)
              clear q
              go_simp
              refine ⟨keepsL_all (by kernel_rfl) (by kernel_rfl), ?_⟩
              go_simp
              refine wpAnyL_pure (i := 5) (v := .tuple #[.agg (d2.cs).toArray, .agg (evL kd ef 0).toArray, .int .i64 0]) rfl rfl (by kernel_rfl) (by kernel_rfl) (by kernel_rfl) (by kernel_rfl) (by kernel_rfl) (fun _ _ _ h => h) rfl (fun W => by go_simp) ?_
              go_simp
              refine wpAnyL_pure (i := 6) (v := .agg (d2.cs).toArray) rfl rfl (by kernel_rfl) (by kernel_rfl) (by kernel_rfl) (by kernel_rfl) (by kernel_rfl) (fun _ _ _ h => h) rfl (fun W => by go_simp) ?_
              go_simp
              refine wpAnyL_pure (i := 7) (v := .agg (evL kd ef 0).toArray) rfl rfl (by kernel_rfl) (by kernel_rfl) (by kernel_rfl) (by kernel_rfl) (by kernel_rfl) (fun _ _ _ h => h) rfl (fun W => by go_simp) ?_
              go_simp
              refine wpAnyL_pure (i := 8) (v := .int .i64 0) rfl rfl (by kernel_rfl) (by kernel_rfl) (by kernel_rfl) (by kernel_rfl) (by kernel_rfl) (fun _ _ _ h => h) rfl (fun W => by go_simp) ?_
              go_simp
              refine wpAnyL_two (i := 9) (k := 10) (by kernel_rfl) ?_ ?_
              · refine wpOp_do rfl rfl ?_
                go_simp
                have q : Below wda.heap.size wda (wda.alloc (.cells zCl.cs.toArray 33)) := (Below.refl _ _).alloc (Nat.le_refl _) _
                have N7 := hide (World.alloc_heap_new wda (.cells zCl.cs.toArray 33))
                have z7C : y < wda.heap.size := heap_lt C.out
                have z7X : z < wda.heap.size := heap_lt X.out
                have z7L : bs < wda.heap.size := heap_lt L.out
                replace C := hide (heap_below C.out q)
                replace X := hide (heap_below X.out q)
                replace L := hide (heap_below L.out q)
                replace Q := hide (below_next Q.out Q.out.size q)
                clear q
                refine ⟨keepsL_mk (by kernel_rfl) (.cons C.out .nil), ?_⟩
                change wpAnyL _ _ _ _ _ _ _ _ _ (wda.alloc (.cells zCl.cs.toArray 33))
                generalize wda.alloc (.cells zCl.cs.toArray 33) = wdab at *
                generalize wda.heap.size = x7 at *
                go_simp
                refine wpAnyL_one (i := 10) (by kernel_rfl) ?_
                refine wpOp_do rfl rfl ?_
                go_simp
                have q : Below wdab.heap.size wdab (wdab.alloc (.cells (evL 0 zFr 0).toArray 42)) := (Below.refl _ _).alloc (Nat.le_refl _) _
                have N8 := hide (World.alloc_heap_new wdab (.cells (evL 0 zFr 0).toArray 42))
                have z8C : y < wdab.heap.size := heap_lt C.out
                have z8X : z < wdab.heap.size := heap_lt X.out
                have z8L : bs < wdab.heap.size := heap_lt L.out
                have z78 : x7 < wdab.heap.size := heap_lt N7.out
                replace C := hide (heap_below C.out q)
                replace X := hide (heap_below X.out q)
                replace L := hide (heap_below L.out q)
                replace N7 := hide (heap_below N7.out q)
                replace Q := hide (below_next Q.out Q.out.size q)
                clear q
                refine ⟨keepsL_mk (by kernel_rfl) (.cons C.out .nil), ?_⟩
                change wpAnyL _ _ _ _ _ _ _ _ _ (wdab.alloc (.cells (evL 0 zFr 0).toArray 42))
                generalize wdab.alloc (.cells (evL 0 zFr 0).toArray 42) = wdabc at *
                generalize wdab.heap.size = x8 at *
                go_simp
                have T7 := hide (show wdabc.there x7 0 23 from there_heap (cs := zCl.cs) N7.out)
                refine wpAnyL_one (i := 11) (by kernel_rfl) ?_
                refine wpOp_do rfl rfl ?_
                refine wp_store_as 33 (.tmp 14) (.tmp 79) rfl x7 0 (d2.cs) (by rfl) (by rfl) (by exact T7.out) (by kernel_rfl) (by simp [Value.oneCell', Cl.cs]) ?_
                intro wa ea
                have N7a := hide (show wa.heap[x7]? = some (.cells (d2.cs).toArray 33 (0, 0)) by rw [ea]; exact whole_heap (d2.cs) (xs := zCl.cs) N7.out rfl)
                have N8a := hide (show wa.heap[x8]? = some (.cells (evL 0 zFr 0).toArray 42 (0, 0)) by rw [ea]; exact other_heap (by omega) _ _ _ N8.out)
                have Ca := hide (show wa.heap[y]? = some (.cells d.cs.toArray 33 (0, 0)) by rw [ea]; exact other_heap (by omega) _ _ _ C.out)
                have Xa := hide (show wa.heap[z]? = some (.cells (frc x).toArray 24 (0, 0)) by rw [ea]; exact other_heap (by omega) _ _ _ X.out)
                have La := hide (show wa.heap[bs]? = some (.cells (frc f ++ frc g).toArray 24 (0, 0)) by rw [ea]; exact other_heap (by omega) _ _ _ L.out)
                have Qa := hide (show Below w.heap.size w wa by rw [ea]; exact Q.out.trans (below_setCells _ _ _ (by have := Q.out.size; omega)))
                clear ea T7 N7 N8 Q C X L
                refine ⟨keepsL_all (by kernel_rfl) (by kernel_rfl), ?_⟩
                go_simp
                have T8 := hide (show wa.there x8 0 7 from there_heap (cs := evL 0 zFr 0) N8a.out)
                refine wpAnyL_one (i := 12) (by kernel_rfl) ?_
                refine wpOp_do rfl rfl ?_
                refine wp_store_as 42 (.tmp 15) (.tmp 80) rfl x8 0 (evL kd ef 0) (by rfl) (by rfl) (by exact T8.out) (by kernel_rfl) (by simp [Value.oneCell', evL]) ?_
                intro wb eb
                have N7 := hide (show wb.heap[x7]? = some (.cells (d2.cs).toArray 33 (0, 0)) by rw [eb]; exact other_heap (by omega) _ _ _ N7a.out)
                have N8 := hide (show wb.heap[x8]? = some (.cells (evL kd ef 0).toArray 42 (0, 0)) by rw [eb]; exact whole_heap (evL kd ef 0) (xs := evL 0 zFr 0) N8a.out rfl)
                have C := hide (show wb.heap[y]? = some (.cells d.cs.toArray 33 (0, 0)) by rw [eb]; exact other_heap (by omega) _ _ _ Ca.out)
                have X := hide (show wb.heap[z]? = some (.cells (frc x).toArray 24 (0, 0)) by rw [eb]; exact other_heap (by omega) _ _ _ Xa.out)
                have L := hide (show wb.heap[bs]? = some (.cells (frc f ++ frc g).toArray 24 (0, 0)) by rw [eb]; exact other_heap (by omega) _ _ _ La.out)
                have Q := hide (show Below w.heap.size w wb by rw [eb]; exact Qa.out.trans (below_setCells _ _ _ (by have := Qa.out.size; omega)))
                clear eb T8 N7a N8a Qa Ca Xa La
                refine ⟨keepsL_all (by kernel_rfl) (by kernel_rfl), ?_⟩
                go_simp
                refine wpAnyL_one (i := 13) (by kernel_rfl) ?_
                refine wpOp_do rfl rfl ?_
                go_simp
                refine ⟨keepsL_all (by kernel_rfl) (by kernel_rfl), ?_⟩
                go_simp
                refine wpAnyL_done (by kernel_rfl) ?_ _
                go_wp2_with fail
                go_meet
                exact ⟨x7, x8, rfl, rfl, rfl, N7, N8, C, X, L, Q, by omega, by omega, by omega, by omega, by omega⟩
              · refine wpOp_do rfl rfl ?_
                go_simp
                have q : Below wda.heap.size wda (wda.alloc (.cells (evL 0 zFr 0).toArray 42)) := (Below.refl _ _).alloc (Nat.le_refl _) _
                have N8 := hide (World.alloc_heap_new wda (.cells (evL 0 zFr 0).toArray 42))
                have z8C : y < wda.heap.size := heap_lt C.out
                have z8X : z < wda.heap.size := heap_lt X.out
                have z8L : bs < wda.heap.size := heap_lt L.out
                replace C := hide (heap_below C.out q)
                replace X := hide (heap_below X.out q)
                replace L := hide (heap_below L.out q)
                replace Q := hide (below_next Q.out Q.out.size q)
                clear q
                refine ⟨keepsL_mk (by kernel_rfl) (.cons C.out .nil), ?_⟩
                change wpAnyL _ _ _ _ _ _ _ _ _ (wda.alloc (.cells (evL 0 zFr 0).toArray 42))
                generalize wda.alloc (.cells (evL 0 zFr 0).toArray 42) = wdac at *
                generalize wda.heap.size = x8 at *
                go_simp
                refine wpAnyL_one (i := 9) (by kernel_rfl) ?_
                refine wpOp_do rfl rfl ?_
                go_simp
                have q : Below wdac.heap.size wdac (wdac.alloc (.cells zCl.cs.toArray 33)) := (Below.refl _ _).alloc (Nat.le_refl _) _
                have N7 := hide (World.alloc_heap_new wdac (.cells zCl.cs.toArray 33))
                have z7C : y < wdac.heap.size := heap_lt C.out
                have z7X : z < wdac.heap.size := heap_lt X.out
                have z7L : bs < wdac.heap.size := heap_lt L.out
                have z78 : x8 < wdac.heap.size := heap_lt N8.out
                replace C := hide (heap_below C.out q)
                replace X := hide (heap_below X.out q)
                replace L := hide (heap_below L.out q)
                replace N8 := hide (heap_below N8.out q)
                replace Q := hide (below_next Q.out Q.out.size q)
                clear q
                refine ⟨keepsL_mk (by kernel_rfl) (.cons C.out .nil), ?_⟩
                change wpAnyL _ _ _ _ _ _ _ _ _ (wdac.alloc (.cells zCl.cs.toArray 33))
                generalize wdac.alloc (.cells zCl.cs.toArray 33) = wdacb at *
                generalize wdac.heap.size = x7 at *
                go_simp
                have T7 := hide (show wdacb.there x7 0 23 from there_heap (cs := zCl.cs) N7.out)
                refine wpAnyL_one (i := 11) (by kernel_rfl) ?_
                refine wpOp_do rfl rfl ?_
                refine wp_store_as 33 (.tmp 14) (.tmp 79) rfl x7 0 (d2.cs) (by rfl) (by rfl) (by exact T7.out) (by kernel_rfl) (by simp [Value.oneCell', Cl.cs]) ?_
                intro wa ea
                have N7a := hide (show wa.heap[x7]? = some (.cells (d2.cs).toArray 33 (0, 0)) by rw [ea]; exact whole_heap (d2.cs) (xs := zCl.cs) N7.out rfl)
                have N8a := hide (show wa.heap[x8]? = some (.cells (evL 0 zFr 0).toArray 42 (0, 0)) by rw [ea]; exact other_heap (by omega) _ _ _ N8.out)
                have Ca := hide (show wa.heap[y]? = some (.cells d.cs.toArray 33 (0, 0)) by rw [ea]; exact other_heap (by omega) _ _ _ C.out)
                have Xa := hide (show wa.heap[z]? = some (.cells (frc x).toArray 24 (0, 0)) by rw [ea]; exact other_heap (by omega) _ _ _ X.out)
                have La := hide (show wa.heap[bs]? = some (.cells (frc f ++ frc g).toArray 24 (0, 0)) by rw [ea]; exact other_heap (by omega) _ _ _ L.out)
                have Qa := hide (show Below w.heap.size w wa by rw [ea]; exact Q.out.trans (below_setCells _ _ _ (by have := Q.out.size; omega)))
                clear ea T7 N7 N8 Q C X L
                refine ⟨keepsL_all (by kernel_rfl) (by kernel_rfl), ?_⟩
                go_simp
                have T8 := hide (show wa.there x8 0 7 from there_heap (cs := evL 0 zFr 0) N8a.out)
                refine wpAnyL_one (i := 12) (by kernel_rfl) ?_
                refine wpOp_do rfl rfl ?_
                refine wp_store_as 42 (.tmp 15) (.tmp 80) rfl x8 0 (evL kd ef 0) (by rfl) (by rfl) (by exact T8.out) (by kernel_rfl) (by simp [Value.oneCell', evL]) ?_
                intro wb eb
                have N7 := hide (show wb.heap[x7]? = some (.cells (d2.cs).toArray 33 (0, 0)) by rw [eb]; exact other_heap (by omega) _ _ _ N7a.out)
                have N8 := hide (show wb.heap[x8]? = some (.cells (evL kd ef 0).toArray 42 (0, 0)) by rw [eb]; exact whole_heap (evL kd ef 0) (xs := evL 0 zFr 0) N8a.out rfl)
                have C := hide (show wb.heap[y]? = some (.cells d.cs.toArray 33 (0, 0)) by rw [eb]; exact other_heap (by omega) _ _ _ Ca.out)
                have X := hide (show wb.heap[z]? = some (.cells (frc x).toArray 24 (0, 0)) by rw [eb]; exact other_heap (by omega) _ _ _ Xa.out)
                have L := hide (show wb.heap[bs]? = some (.cells (frc f ++ frc g).toArray 24 (0, 0)) by rw [eb]; exact other_heap (by omega) _ _ _ La.out)
                have Q := hide (show Below w.heap.size w wb by rw [eb]; exact Qa.out.trans (below_setCells _ _ _ (by have := Qa.out.size; omega)))
                clear eb T8 N7a N8a Qa Ca Xa La
                refine ⟨keepsL_all (by kernel_rfl) (by kernel_rfl), ?_⟩
                go_simp
                refine wpAnyL_one (i := 13) (by kernel_rfl) ?_
                refine wpOp_do rfl rfl ?_
                go_simp
                refine ⟨keepsL_all (by kernel_rfl) (by kernel_rfl), ?_⟩
                go_simp
                refine wpAnyL_done (by kernel_rfl) ?_ _
                go_wp2_with fail
                go_meet
                exact ⟨x7, x8, rfl, rfl, rfl, N7, N8, C, X, L, Q, by omega, by omega, by omega, by omega, by omega⟩
            · refine wpOp_do rfl rfl ?_
              go_simp
              have q : Below wd.heap.size wd (wd.alloc (.cells zCl.cs.toArray 33)) := (Below.refl _ _).alloc (Nat.le_refl _) _
              have N7 := hide (World.alloc_heap_new wd (.cells zCl.cs.toArray 33))
              have z7C : y < wd.heap.size := heap_lt C.out
              have z7X : z < wd.heap.size := heap_lt X.out
              have z7L : bs < wd.heap.size := heap_lt L.out
              replace C := hide (heap_below C.out q)
              replace X := hide (heap_below X.out q)
              replace L := hide (heap_below L.out q)
              replace Q := hide (below_next Q.out Q.out.size q)
              clear q
              refine ⟨keepsL_mk (by kernel_rfl) (.cons C.out .nil), ?_⟩
              change wpAnyL _ _ _ _ _ _ _ _ _ (wd.alloc (.cells zCl.cs.toArray 33))
              generalize wd.alloc (.cells zCl.cs.toArray 33) = wdb at *
              generalize wd.heap.size = x7 at *
              go_simp
              refine wpAnyL_two (i := 4) (k := 10) (by kernel_rfl) ?_ ?_
              · refine wpOp_do rfl rfl ?_
                go_simp
                (with_reducible refine (SA.out _).mono ?_)
                rintro ewdba wdba ⟨rfl, q⟩
                replace C := hide (heap_below C.out q)
                replace X := hide (heap_below X.out q)
                replace L := hide (heap_below L.out q)
                replace N7 := hide (heap_below N7.out q)
                replace Q := hide (below_next Q.out Q.out.size q)
                clear q
                go_simp
                refine ⟨keepsL_all (by kernel_rfl) (by kernel_rfl), ?_⟩
                go_simp
                refine wpAnyL_pure (i := 5) (v := .tuple #[.agg (d2.cs).toArray, .agg (evL kd ef 0).toArray, .int .i64 0]) rfl rfl (by kernel_rfl) (by kernel_rfl) (by kernel_rfl) (by kernel_rfl) (by kernel_rfl) (fun _ _ _ h => h) rfl (fun W => by go_simp) ?_
                go_simp
                refine wpAnyL_pure (i := 6) (v := .agg (d2.cs).toArray) rfl rfl (by kernel_rfl) (by kernel_rfl) (by kernel_rfl) (by kernel_rfl) (by kernel_rfl) (fun _ _ _ h => h) rfl (fun W => by go_simp) ?_
                go_simp
                refine wpAnyL_pure (i := 7) (v := .agg (evL kd ef 0).toArray) rfl rfl (by kernel_rfl) (by kernel_rfl) (by kernel_rfl) (by kernel_rfl) (by kernel_rfl) (fun _ _ _ h => h) rfl (fun W => by go_simp) ?_
                go_simp
                refine wpAnyL_pure (i := 8) (v := .int .i64 0) rfl rfl (by kernel_rfl) (by kernel_rfl) (by kernel_rfl) (by kernel_rfl) (by kernel_rfl) (fun _ _ _ h => h) rfl (fun W => by go_simp) ?_
                go_simp
                refine wpAnyL_one (i := 10) (by kernel_rfl) ?_
                refine wpOp_do rfl rfl ?_
                go_simp
                have q : Below wdba.heap.size wdba (wdba.alloc (.cells (evL 0 zFr 0).toArray 42)) := (Below.refl _ _).alloc (Nat.le_refl _) _
                have N8 := hide (World.alloc_heap_new wdba (.cells (evL 0 zFr 0).toArray 42))
                have z8C : y < wdba.heap.size := heap_lt C.out
                have z8X : z < wdba.heap.size := heap_lt X.out
                have z8L : bs < wdba.heap.size := heap_lt L.out
                have z78 : x7 < wdba.heap.size := heap_lt N7.out
                replace C := hide (heap_below C.out q)
                replace X := hide (heap_below X.out q)
                replace L := hide (heap_below L.out q)
                replace N7 := hide (heap_below N7.out q)
                replace Q := hide (below_next Q.out Q.out.size q)
                clear q
                refine ⟨keepsL_mk (by kernel_rfl) (.cons C.out .nil), ?_⟩
                change wpAnyL _ _ _ _ _ _ _ _ _ (wdba.alloc (.cells (evL 0 zFr 0).toArray 42))
                generalize wdba.alloc (.cells (evL 0 zFr 0).toArray 42) = wdbac at *
                generalize wdba.heap.size = x8 at *
                go_simp
                have T7 := hide (show wdbac.there x7 0 23 from there_heap (cs := zCl.cs) N7.out)
                refine wpAnyL_one (i := 11) (by kernel_rfl) ?_
                refine wpOp_do rfl rfl ?_
                refine wp_store_as 33 (.tmp 14) (.tmp 79) rfl x7 0 (d2.cs) (by rfl) (by rfl) (by exact T7.out) (by kernel_rfl) (by simp [Value.oneCell', Cl.cs]) ?_
                intro wa ea
                have N7a := hide (show wa.heap[x7]? = some (.cells (d2.cs).toArray 33 (0, 0)) by rw [ea]; exact whole_heap (d2.cs) (xs := zCl.cs) N7.out rfl)
                have N8a := hide (show wa.heap[x8]? = some (.cells (evL 0 zFr 0).toArray 42 (0, 0)) by rw [ea]; exact other_heap (by omega) _ _ _ N8.out)
                have Ca := hide (show wa.heap[y]? = some (.cells d.cs.toArray 33 (0, 0)) by rw [ea]; exact other_heap (by omega) _ _ _ C.out)
                have Xa := hide (show wa.heap[z]? = some (.cells (frc x).toArray 24 (0, 0)) by rw [ea]; exact other_heap (by omega) _ _ _ X.out)
                have La := hide (show wa.heap[bs]? = some (.cells (frc f ++ frc g).toArray 24 (0, 0)) by rw [ea]; exact other_heap (by omega) _ _ _ L.out)
                have Qa := hide (show Below w.heap.size w wa by rw [ea]; exact Q.out.trans (below_setCells _ _ _ (by have := Q.out.size; omega)))
                clear ea T7 N7 N8 Q C X L
                refine ⟨keepsL_all (by kernel_rfl) (by kernel_rfl), ?_⟩
                go_simp
                have T8 := hide (show wa.there x8 0 7 from there_heap (cs := evL 0 zFr 0) N8a.out)
                refine wpAnyL_one (i := 12) (by kernel_rfl) ?_
                refine wpOp_do rfl rfl ?_
                refine wp_store_as 42 (.tmp 15) (.tmp 80) rfl x8 0 (evL kd ef 0) (by rfl) (by rfl) (by exact T8.out) (by kernel_rfl) (by simp [Value.oneCell', evL]) ?_
                intro wb eb
                have N7 := hide (show wb.heap[x7]? = some (.cells (d2.cs).toArray 33 (0, 0)) by rw [eb]; exact other_heap (by omega) _ _ _ N7a.out)
                have N8 := hide (show wb.heap[x8]? = some (.cells (evL kd ef 0).toArray 42 (0, 0)) by rw [eb]; exact whole_heap (evL kd ef 0) (xs := evL 0 zFr 0) N8a.out rfl)
                have C := hide (show wb.heap[y]? = some (.cells d.cs.toArray 33 (0, 0)) by rw [eb]; exact other_heap (by omega) _ _ _ Ca.out)
                have X := hide (show wb.heap[z]? = some (.cells (frc x).toArray 24 (0, 0)) by rw [eb]; exact other_heap (by omega) _ _ _ Xa.out)
                have L := hide (show wb.heap[bs]? = some (.cells (frc f ++ frc g).toArray 24 (0, 0)) by rw [eb]; exact other_heap (by omega) _ _ _ La.out)
                have Q := hide (show Below w.heap.size w wb by rw [eb]; exact Qa.out.trans (below_setCells _ _ _ (by have := Qa.out.size; omega)))
                clear eb T8 N7a N8a Qa Ca Xa La
                refine ⟨keepsL_all (by kernel_rfl) (by kernel_rfl), ?_⟩
                go_simp
                refine wpAnyL_one (i := 13) (by kernel_rfl) ?_
                refine wpOp_do rfl rfl ?_
                go_simp
                refine ⟨keepsL_all (by kernel_rfl) (by kernel_rfl), ?_⟩
                go_simp
                refine wpAnyL_done (by kernel_rfl) ?_ _
                go_wp2_with fail
                go_meet
                exact ⟨x7, x8, rfl, rfl, rfl, N7, N8, C, X, L, Q, by omega, by omega, by omega, by omega, by omega⟩
              · refine wpOp_do rfl rfl ?_
                go_simp
                have q : Below wdb.heap.size wdb (wdb.alloc (.cells (evL 0 zFr 0).toArray 42)) := (Below.refl _ _).alloc (Nat.le_refl _) _
                have N8 := hide (World.alloc_heap_new wdb (.cells (evL 0 zFr 0).toArray 42))
                have z8C : y < wdb.heap.size := heap_lt C.out
                have z8X : z < wdb.heap.size := heap_lt X.out
                have z8L : bs < wdb.heap.size := heap_lt L.out
                have z78 : x7 < wdb.heap.size := heap_lt N7.out
                replace C := hide (heap_below C.out q)
                replace X := hide (heap_below X.out q)
                replace L := hide (heap_below L.out q)
                replace N7 := hide (heap_below N7.out q)
                replace Q := hide (below_next Q.out Q.out.size q)
                clear q
                refine ⟨keepsL_mk (by kernel_rfl) (.cons C.out .nil), ?_⟩
                change wpAnyL _ _ _ _ _ _ _ _ _ (wdb.alloc (.cells (evL 0 zFr 0).toArray 42))
                generalize wdb.alloc (.cells (evL 0 zFr 0).toArray 42) = wdbc at *
                generalize wdb.heap.size = x8 at *
                go_simp
                refine wpAnyL_one (i := 4) (by kernel_rfl) ?_
                refine wpOp_do rfl rfl ?_
                go_simp
                (with_reducible refine (SA.out _).mono ?_)
                rintro ewdbca wdbca ⟨rfl, q⟩
                replace C := hide (heap_below C.out q)
                replace X := hide (heap_below X.out q)
                replace L := hide (heap_below L.out q)
                replace N7 := hide (heap_below N7.out q)
                replace N8 := hide (heap_below N8.out q)
                replace Q := hide (below_next Q.out Q.out.size q)
                clear q
                go_simp
                refine ⟨keepsL_all (by kernel_rfl) (by kernel_rfl), ?_⟩
                go_simp
                refine wpAnyL_pure (i := 5) (v := .tuple #[.agg (d2.cs).toArray, .agg (evL kd ef 0).toArray, .int .i64 0]) rfl rfl (by kernel_rfl) (by kernel_rfl) (by kernel_rfl) (by kernel_rfl) (by kernel_rfl) (fun _ _ _ h => h) rfl (fun W => by go_simp) ?_
                go_simp
                refine wpAnyL_pure (i := 6) (v := .agg (d2.cs).toArray) rfl rfl (by kernel_rfl) (by kernel_rfl) (by kernel_rfl) (by kernel_rfl) (by kernel_rfl) (fun _ _ _ h => h) rfl (fun W => by go_simp) ?_
                go_simp
                refine wpAnyL_pure (i := 7) (v := .agg (evL kd ef 0).toArray) rfl rfl (by kernel_rfl) (by kernel_rfl) (by kernel_rfl) (by kernel_rfl) (by kernel_rfl) (fun _ _ _ h => h) rfl (fun W => by go_simp) ?_
                go_simp
                refine wpAnyL_pure (i := 8) (v := .int .i64 0) rfl rfl (by kernel_rfl) (by kernel_rfl) (by kernel_rfl) (by kernel_rfl) (by kernel_rfl) (fun _ _ _ h => h) rfl (fun W => by go_simp) ?_
                go_simp
                have T7 := hide (show wdbca.there x7 0 23 from there_heap (cs := zCl.cs) N7.out)
                refine wpAnyL_one (i := 11) (by kernel_rfl) ?_
                refine wpOp_do rfl rfl ?_
                refine wp_store_as 33 (.tmp 14) (.tmp 79) rfl x7 0 (d2.cs) (by rfl) (by rfl) (by exact T7.out) (by kernel_rfl) (by simp [Value.oneCell', Cl.cs]) ?_
                intro wa ea
                have N7a := hide (show wa.heap[x7]? = some (.cells (d2.cs).toArray 33 (0, 0)) by rw [ea]; exact whole_heap (d2.cs) (xs := zCl.cs) N7.out rfl)
                have N8a := hide (show wa.heap[x8]? = some (.cells (evL 0 zFr 0).toArray 42 (0, 0)) by rw [ea]; exact other_heap (by omega) _ _ _ N8.out)
                have Ca := hide (show wa.heap[y]? = some (.cells d.cs.toArray 33 (0, 0)) by rw [ea]; exact other_heap (by omega) _ _ _ C.out)
                have Xa := hide (show wa.heap[z]? = some (.cells (frc x).toArray 24 (0, 0)) by rw [ea]; exact other_heap (by omega) _ _ _ X.out)
                have La := hide (show wa.heap[bs]? = some (.cells (frc f ++ frc g).toArray 24 (0, 0)) by rw [ea]; exact other_heap (by omega) _ _ _ L.out)
                have Qa := hide (show Below w.heap.size w wa by rw [ea]; exact Q.out.trans (below_setCells _ _ _ (by have := Q.out.size; omega)))
                clear ea T7 N7 N8 Q C X L
                refine ⟨keepsL_all (by kernel_rfl) (by kernel_rfl), ?_⟩
                go_simp
                have T8 := hide (show wa.there x8 0 7 from there_heap (cs := evL 0 zFr 0) N8a.out)
                refine wpAnyL_one (i := 12) (by kernel_rfl) ?_
                refine wpOp_do rfl rfl ?_
                refine wp_store_as 42 (.tmp 15) (.tmp 80) rfl x8 0 (evL kd ef 0) (by rfl) (by rfl) (by exact T8.out) (by kernel_rfl) (by simp [Value.oneCell', evL]) ?_
                intro wb eb
                have N7 := hide (show wb.heap[x7]? = some (.cells (d2.cs).toArray 33 (0, 0)) by rw [eb]; exact other_heap (by omega) _ _ _ N7a.out)
                have N8 := hide (show wb.heap[x8]? = some (.cells (evL kd ef 0).toArray 42 (0, 0)) by rw [eb]; exact whole_heap (evL kd ef 0) (xs := evL 0 zFr 0) N8a.out rfl)
                have C := hide (show wb.heap[y]? = some (.cells d.cs.toArray 33 (0, 0)) by rw [eb]; exact other_heap (by omega) _ _ _ Ca.out)
                have X := hide (show wb.heap[z]? = some (.cells (frc x).toArray 24 (0, 0)) by rw [eb]; exact other_heap (by omega) _ _ _ Xa.out)
                have L := hide (show wb.heap[bs]? = some (.cells (frc f ++ frc g).toArray 24 (0, 0)) by rw [eb]; exact other_heap (by omega) _ _ _ La.out)
                have Q := hide (show Below w.heap.size w wb by rw [eb]; exact Qa.out.trans (below_setCells _ _ _ (by have := Qa.out.size; omega)))
                clear eb T8 N7a N8a Qa Ca Xa La
                refine ⟨keepsL_all (by kernel_rfl) (by kernel_rfl), ?_⟩
                go_simp
                refine wpAnyL_one (i := 13) (by kernel_rfl) ?_
                refine wpOp_do rfl rfl ?_
                go_simp
                refine ⟨keepsL_all (by kernel_rfl) (by kernel_rfl), ?_⟩
                go_simp
                refine wpAnyL_done (by kernel_rfl) ?_ _
                go_wp2_with fail
                go_meet
                exact ⟨x7, x8, rfl, rfl, rfl, N7, N8, C, X, L, Q, by omega, by omega, by omega, by omega, by omega⟩
            · refine wpOp_do rfl rfl ?_
              go_simp
              have q : Below wd.heap.size wd (wd.alloc (.cells (evL 0 zFr 0).toArray 42)) := (Below.refl _ _).alloc (Nat.le_refl _) _
              have N8 := hide (World.alloc_heap_new wd (.cells (evL 0 zFr 0).toArray 42))
              have z8C : y < wd.heap.size := heap_lt C.out
              have z8X : z < wd.heap.size := heap_lt X.out
              have z8L : bs < wd.heap.size := heap_lt L.out
              replace C := hide (heap_below C.out q)
              replace X := hide (heap_below X.out q)
              replace L := hide (heap_below L.out q)
              replace Q := hide (below_next Q.out Q.out.size q)
              clear q
              refine ⟨keepsL_mk (by kernel_rfl) (.cons C.out .nil), ?_⟩
              change wpAnyL _ _ _ _ _ _ _ _ _ (wd.alloc (.cells (evL 0 zFr 0).toArray 42))
              generalize wd.alloc (.cells (evL 0 zFr 0).toArray 42) = wdc at *
              generalize wd.heap.size = x8 at *
              go_simp
              refine wpAnyL_two (i := 4) (k := 9) (by kernel_rfl) ?_ ?_
              · refine wpOp_do rfl rfl ?_
                go_simp
                (with_reducible refine (SA.out _).mono ?_)
                rintro ewdca wdca ⟨rfl, q⟩
                replace C := hide (heap_below C.out q)
                replace X := hide (heap_below X.out q)
                replace L := hide (heap_below L.out q)
                replace N8 := hide (heap_below N8.out q)
                replace Q := hide (below_next Q.out Q.out.size q)
                clear q
                go_simp
                refine ⟨keepsL_all (by kernel_rfl) (by kernel_rfl), ?_⟩
                go_simp
                refine wpAnyL_pure (i := 5) (v := .tuple #[.agg (d2.cs).toArray, .agg (evL kd ef 0).toArray, .int .i64 0]) rfl rfl (by kernel_rfl) (by kernel_rfl) (by kernel_rfl) (by kernel_rfl) (by kernel_rfl) (fun _ _ _ h => h) rfl (fun W => by go_simp) ?_
                go_simp
                refine wpAnyL_pure (i := 6) (v := .agg (d2.cs).toArray) rfl rfl (by kernel_rfl) (by kernel_rfl) (by kernel_rfl) (by kernel_rfl) (by kernel_rfl) (fun _ _ _ h => h) rfl (fun W => by go_simp) ?_
                go_simp
                refine wpAnyL_pure (i := 7) (v := .agg (evL kd ef 0).toArray) rfl rfl (by kernel_rfl) (by kernel_rfl) (by kernel_rfl) (by kernel_rfl) (by kernel_rfl) (fun _ _ _ h => h) rfl (fun W => by go_simp) ?_
                go_simp
                refine wpAnyL_pure (i := 8) (v := .int .i64 0) rfl rfl (by kernel_rfl) (by kernel_rfl) (by kernel_rfl) (by kernel_rfl) (by kernel_rfl) (fun _ _ _ h => h) rfl (fun W => by go_simp) ?_
                go_simp
                refine wpAnyL_one (i := 9) (by kernel_rfl) ?_
                refine wpOp_do rfl rfl ?_
                go_simp
                have q : Below wdca.heap.size wdca (wdca.alloc (.cells zCl.cs.toArray 33)) := (Below.refl _ _).alloc (Nat.le_refl _) _
                have N7 := hide (World.alloc_heap_new wdca (.cells zCl.cs.toArray 33))
                have z7C : y < wdca.heap.size := heap_lt C.out
                have z7X : z < wdca.heap.size := heap_lt X.out
                have z7L : bs < wdca.heap.size := heap_lt L.out
                have z78 : x8 < wdca.heap.size := heap_lt N8.out
                replace C := hide (heap_below C.out q)
                replace X := hide (heap_below X.out q)
                replace L := hide (heap_below L.out q)
                replace N8 := hide (heap_below N8.out q)
                replace Q := hide (below_next Q.out Q.out.size q)
                clear q
                refine ⟨keepsL_mk (by kernel_rfl) (.cons C.out .nil), ?_⟩
                change wpAnyL _ _ _ _ _ _ _ _ _ (wdca.alloc (.cells zCl.cs.toArray 33))
                generalize wdca.alloc (.cells zCl.cs.toArray 33) = wdcab at *
                generalize wdca.heap.size = x7 at *
                go_simp
                have T7 := hide (show wdcab.there x7 0 23 from there_heap (cs := zCl.cs) N7.out)
                refine wpAnyL_one (i := 11) (by kernel_rfl) ?_
                refine wpOp_do rfl rfl ?_
                refine wp_store_as 33 (.tmp 14) (.tmp 79) rfl x7 0 (d2.cs) (by rfl) (by rfl) (by exact T7.out) (by kernel_rfl) (by simp [Value.oneCell', Cl.cs]) ?_
                intro wa ea
                have N7a := hide (show wa.heap[x7]? = some (.cells (d2.cs).toArray 33 (0, 0)) by rw [ea]; exact whole_heap (d2.cs) (xs := zCl.cs) N7.out rfl)
                have N8a := hide (show wa.heap[x8]? = some (.cells (evL 0 zFr 0).toArray 42 (0, 0)) by rw [ea]; exact other_heap (by omega) _ _ _ N8.out)
                have Ca := hide (show wa.heap[y]? = some (.cells d.cs.toArray 33 (0, 0)) by rw [ea]; exact other_heap (by omega) _ _ _ C.out)
                have Xa := hide (show wa.heap[z]? = some (.cells (frc x).toArray 24 (0, 0)) by rw [ea]; exact other_heap (by omega) _ _ _ X.out)
                have La := hide (show wa.heap[bs]? = some (.cells (frc f ++ frc g).toArray 24 (0, 0)) by rw [ea]; exact other_heap (by omega) _ _ _ L.out)
                have Qa := hide (show Below w.heap.size w wa by rw [ea]; exact Q.out.trans (below_setCells _ _ _ (by have := Q.out.size; omega)))
                clear ea T7 N7 N8 Q C X L
                refine ⟨keepsL_all (by kernel_rfl) (by kernel_rfl), ?_⟩
                go_simp
                have T8 := hide (show wa.there x8 0 7 from there_heap (cs := evL 0 zFr 0) N8a.out)
                refine wpAnyL_one (i := 12) (by kernel_rfl) ?_
                refine wpOp_do rfl rfl ?_
                refine wp_store_as 42 (.tmp 15) (.tmp 80) rfl x8 0 (evL kd ef 0) (by rfl) (by rfl) (by exact T8.out) (by kernel_rfl) (by simp [Value.oneCell', evL]) ?_
                intro wb eb
                have N7 := hide (show wb.heap[x7]? = some (.cells (d2.cs).toArray 33 (0, 0)) by rw [eb]; exact other_heap (by omega) _ _ _ N7a.out)
                have N8 := hide (show wb.heap[x8]? = some (.cells (evL kd ef 0).toArray 42 (0, 0)) by rw [eb]; exact whole_heap (evL kd ef 0) (xs := evL 0 zFr 0) N8a.out rfl)
                have C := hide (show wb.heap[y]? = some (.cells d.cs.toArray 33 (0, 0)) by rw [eb]; exact other_heap (by omega) _ _ _ Ca.out)
                have X := hide (show wb.heap[z]? = some (.cells (frc x).toArray 24 (0, 0)) by rw [eb]; exact other_heap (by omega) _ _ _ Xa.out)
                have L := hide (show wb.heap[bs]? = some (.cells (frc f ++ frc g).toArray 24 (0, 0)) by rw [eb]; exact other_heap (by omega) _ _ _ La.out)
                have Q := hide (show Below w.heap.size w wb by rw [eb]; exact Qa.out.trans (below_setCells _ _ _ (by have := Qa.out.size; omega)))
                clear eb T8 N7a N8a Qa Ca Xa La
                refine ⟨keepsL_all (by kernel_rfl) (by kernel_rfl), ?_⟩
                go_simp
                refine wpAnyL_one (i := 13) (by kernel_rfl) ?_
                refine wpOp_do rfl rfl ?_
                go_simp
                refine ⟨keepsL_all (by kernel_rfl) (by kernel_rfl), ?_⟩
                go_simp
                refine wpAnyL_done (by kernel_rfl) ?_ _
                go_wp2_with fail
                go_meet
                exact ⟨x7, x8, rfl, rfl, rfl, N7, N8, C, X, L, Q, by omega, by omega, by omega, by omega, by omega⟩
              · refine wpOp_do rfl rfl ?_
                go_simp
                have q : Below wdc.heap.size wdc (wdc.alloc (.cells zCl.cs.toArray 33)) := (Below.refl _ _).alloc (Nat.le_refl _) _
                have N7 := hide (World.alloc_heap_new wdc (.cells zCl.cs.toArray 33))
                have z7C : y < wdc.heap.size := heap_lt C.out
                have z7X : z < wdc.heap.size := heap_lt X.out
                have z7L : bs < wdc.heap.size := heap_lt L.out
                have z78 : x8 < wdc.heap.size := heap_lt N8.out
                replace C := hide (heap_below C.out q)
                replace X := hide (heap_below X.out q)
                replace L := hide (heap_below L.out q)
                replace N8 := hide (heap_below N8.out q)
                replace Q := hide (below_next Q.out Q.out.size q)
                clear q
                refine ⟨keepsL_mk (by kernel_rfl) (.cons C.out .nil), ?_⟩
                change wpAnyL _ _ _ _ _ _ _ _ _ (wdc.alloc (.cells zCl.cs.toArray 33))
                generalize wdc.alloc (.cells zCl.cs.toArray 33) = wdcb at *
                generalize wdc.heap.size = x7 at *
                go_simp
                refine wpAnyL_one (i := 4) (by kernel_rfl) ?_
                refine wpOp_do rfl rfl ?_
                go_simp
                (with_reducible refine (SA.out _).mono ?_)
                rintro ewdcba wdcba ⟨rfl, q⟩
                replace C := hide (heap_below C.out q)
                replace X := hide (heap_below X.out q)
                replace L := hide (heap_below L.out q)
                replace N7 := hide (heap_below N7.out q)
                replace N8 := hide (heap_below N8.out q)
                replace Q := hide (below_next Q.out Q.out.size q)
                clear q
                go_simp
                refine ⟨keepsL_all (by kernel_rfl) (by kernel_rfl), ?_⟩
                go_simp
                refine wpAnyL_pure (i := 5) (v := .tuple #[.agg (d2.cs).toArray, .agg (evL kd ef 0).toArray, .int .i64 0]) rfl rfl (by kernel_rfl) (by kernel_rfl) (by kernel_rfl) (by kernel_rfl) (by kernel_rfl) (fun _ _ _ h => h) rfl (fun W => by go_simp) ?_
                go_simp
                refine wpAnyL_pure (i := 6) (v := .agg (d2.cs).toArray) rfl rfl (by kernel_rfl) (by kernel_rfl) (by kernel_rfl) (by kernel_rfl) (by kernel_rfl) (fun _ _ _ h => h) rfl (fun W => by go_simp) ?_
                go_simp
                refine wpAnyL_pure (i := 7) (v := .agg (evL kd ef 0).toArray) rfl rfl (by kernel_rfl) (by kernel_rfl) (by kernel_rfl) (by kernel_rfl) (by kernel_rfl) (fun _ _ _ h => h) rfl (fun W => by go_simp) ?_
                go_simp
                refine wpAnyL_pure (i := 8) (v := .int .i64 0) rfl rfl (by kernel_rfl) (by kernel_rfl) (by kernel_rfl) (by kernel_rfl) (by kernel_rfl) (fun _ _ _ h => h) rfl (fun W => by go_simp) ?_
                go_simp
                have T7 := hide (show wdcba.there x7 0 23 from there_heap (cs := zCl.cs) N7.out)
                refine wpAnyL_one (i := 11) (by kernel_rfl) ?_
                refine wpOp_do rfl rfl ?_
                refine wp_store_as 33 (.tmp 14) (.tmp 79) rfl x7 0 (d2.cs) (by rfl) (by rfl) (by exact T7.out) (by kernel_rfl) (by simp [Value.oneCell', Cl.cs]) ?_
                intro wa ea
                have N7a := hide (show wa.heap[x7]? = some (.cells (d2.cs).toArray 33 (0, 0)) by rw [ea]; exact whole_heap (d2.cs) (xs := zCl.cs) N7.out rfl)
                have N8a := hide (show wa.heap[x8]? = some (.cells (evL 0 zFr 0).toArray 42 (0, 0)) by rw [ea]; exact other_heap (by omega) _ _ _ N8.out)
                have Ca := hide (show wa.heap[y]? = some (.cells d.cs.toArray 33 (0, 0)) by rw [ea]; exact other_heap (by omega) _ _ _ C.out)
                have Xa := hide (show wa.heap[z]? = some (.cells (frc x).toArray 24 (0, 0)) by rw [ea]; exact other_heap (by omega) _ _ _ X.out)
                have La := hide (show wa.heap[bs]? = some (.cells (frc f ++ frc g).toArray 24 (0, 0)) by rw [ea]; exact other_heap (by omega) _ _ _ L.out)
                have Qa := hide (show Below w.heap.size w wa by rw [ea]; exact Q.out.trans (below_setCells _ _ _ (by have := Q.out.size; omega)))
                clear ea T7 N7 N8 Q C X L
                refine ⟨keepsL_all (by kernel_rfl) (by kernel_rfl), ?_⟩
                go_simp
                have T8 := hide (show wa.there x8 0 7 from there_heap (cs := evL 0 zFr 0) N8a.out)
                refine wpAnyL_one (i := 12) (by kernel_rfl) ?_
                refine wpOp_do rfl rfl ?_
                refine wp_store_as 42 (.tmp 15) (.tmp 80) rfl x8 0 (evL kd ef 0) (by rfl) (by rfl) (by exact T8.out) (by kernel_rfl) (by simp [Value.oneCell', evL]) ?_
                intro wb eb
                have N7 := hide (show wb.heap[x7]? = some (.cells (d2.cs).toArray 33 (0, 0)) by rw [eb]; exact other_heap (by omega) _ _ _ N7a.out)
                have N8 := hide (show wb.heap[x8]? = some (.cells (evL kd ef 0).toArray 42 (0, 0)) by rw [eb]; exact whole_heap (evL kd ef 0) (xs := evL 0 zFr 0) N8a.out rfl)
                have C := hide (show wb.heap[y]? = some (.cells d.cs.toArray 33 (0, 0)) by rw [eb]; exact other_heap (by omega) _ _ _ Ca.out)
                have X := hide (show wb.heap[z]? = some (.cells (frc x).toArray 24 (0, 0)) by rw [eb]; exact other_heap (by omega) _ _ _ Xa.out)
                have L := hide (show wb.heap[bs]? = some (.cells (frc f ++ frc g).toArray 24 (0, 0)) by rw [eb]; exact other_heap (by omega) _ _ _ La.out)
                have Q := hide (show Below w.heap.size w wb by rw [eb]; exact Qa.out.trans (below_setCells _ _ _ (by have := Qa.out.size; omega)))
                clear eb T8 N7a N8a Qa Ca Xa La
                refine ⟨keepsL_all (by kernel_rfl) (by kernel_rfl), ?_⟩
                go_simp
                refine wpAnyL_one (i := 13) (by kernel_rfl) ?_
                refine wpOp_do rfl rfl ?_
                go_simp
                refine ⟨keepsL_all (by kernel_rfl) (by kernel_rfl), ?_⟩
                go_simp
                refine wpAnyL_done (by kernel_rfl) ?_ _
                go_wp2_with fail
                go_meet
                exact ⟨x7, x8, rfl, rfl, rfl, N7, N8, C, X, L, Q, by omega, by omega, by omega, by omega, by omega⟩
          case rest =>
          clear C X L Q SA
          obtain ⟨x7, x8, rfl, rfl, rfl, N7, N8, C, X, L, Q, y7, z7, b7, y8, b8⟩ := hcut
          go_upto_region 18 with fail
          go_cut [87, 122] (fun _ v W => v = .bool false ∧ W = wc)
          case first =>
            obtain ⟨v0, v1, v2, v3, v4, v5, -⟩ := ev_cells N8.out
            obtain ⟨g0', g1', g2', g3', g4'⟩ := fr_box X.out
            have hk2' := HKD.out
            have he2' := HEF.out
            have hd2' := HDB.out
            clear HKD HEF HDB HD2 C X L Q N7 N8 STEP FD
            by_cases h9 : i = S.size - 9
            · rw [if_pos h9] at hd2'
              rw [if_neg (by omega)] at hk2' he2'
              subst hd2'
              subst hk2'
              subst he2'
              have hq9 : ((i : Int) == (S.size : Int) - 9) = true := by rw [beq_iff_eq]; omega
              have hq2 : ((i : Int) == (S.size : Int) - 2) = false := by rw [beq_eq_false_iff_ne]; omega
              clear h9
              go_wp2_with fail
              go_meet
              exact ⟨rfl, rfl⟩
            · rw [if_neg h9] at hd2'
              have hq9 : ((i : Int) == (S.size : Int) - 9) = false := by rw [beq_eq_false_iff_ne]; omega
              subst hd2'
              by_cases hl : i + 2 = S.size
              · rw [if_pos hl] at hk2' he2'
                subst hk2'
                subst he2'
                have hq2 : ((i : Int) == (S.size : Int) - 2) = true := by rw [beq_iff_eq]; omega
                clear h9 hl
                go_wp2_with fail
                go_meet
                exact ⟨rfl, rfl⟩
              · rw [if_neg hl] at hk2' he2'
                subst hk2'
                subst he2'
                have hq2 : ((i : Int) == (S.size : Int) - 2) = false := by rw [beq_eq_false_iff_ne]; omega
                clear h9 hl
                go_wp2_with fail
                go_meet
                exact ⟨rfl, rfl⟩
          case rest =>
          rename_i hK2 _ hK
          obtain ⟨rfl, rfl⟩ := hcut
          refine hK _ _ ?_
          refine wp_cond_false (by rfl) (wp_skip ?_)
          refine hK2 _ _ ?_
          clear hK hK2
          have TB := hide (show World.there _ y 0 23 from there_heap (cs := d.cs) C.out)
          go_wp2_with (first | (refine wpList_load_row rfl 33 (.tmp 14) (by rfl) x7 (by rfl) 33 d2.cs.toArray (0, 0) _ (by exact N7.out) Tryd.underlying33 (by rfl) (by kernel_rfl) ?_) | (refine wpList_store_hid (by rfl) 33 (.tmp 5) (.tmp 123) (by rfl) y 0 d2.cs (by rfl) (by rfl) (by exact TB.out) (by kernel_rfl) (by simp [Value.oneCell', Cl.cs]) ?_))
          intro w15 e15
          have C15 := hide (show w15.heap[y]? = some (.cells (rcvS c0 x (i + 1)).cs.toArray 33 (0, 0)) by rw [e15.out, ← HD2.out]; exact whole_heap d2.cs (xs := d.cs) C.out rfl)
          have X15 := hide (show w15.heap[z]? = some (.cells (frc x).toArray 24 (0, 0)) by rw [e15.out]; exact other_heap (by omega) _ _ _ X.out)
          have L15 := hide (show w15.heap[bs]? = some (.cells (frc f ++ frc g).toArray 24 (0, 0)) by rw [e15.out]; exact other_heap (by omega) _ _ _ L.out)
          have Q15 := hide (show Below w.heap.size w w15 by rw [e15.out]; exact Q.out.trans (below_setCells _ _ _ (by omega)))
          clear e15 TB C X L Q N7 N8
          go_wp2_with fail
          go_roundw
          case rel => exact ⟨i + 1, by omega, by go_num, C15, X15, L15, Q15⟩
          case measure => simp [intOf]; omega
        · obtain rfl : i = S.size := by omega
          generalize hdF : rcvS c0 x S.size = dF at *
          clear STEP hdF
          go_wp2_with (refine wpList_load_row rfl 33 (.tmp 5) (by rfl) y (by rfl) 33 dF.cs.toArray (0, 0) _ (by exact C.out) Tryd.underlying33 (by rfl) (by kernel_rfl) ?_)
          (with_reducible refine (FD.out _).mono ?_)
          rintro e20 w20 ⟨rfl, q20⟩
          have qv : Below w20.heap.size w20 (w20.alloc (.cells zCl.cs.toArray 33)) := (Below.refl _ _).alloc (Nat.le_refl _) _
          have Y21 := hide (World.alloc_heap_new w20 (.cells zCl.cs.toArray 33))
          have C21 := hide (heap_below (heap_below C.out q20) qv)
          have L21 := hide (heap_below (heap_below L.out q20) qv)
          have Q21 := hide (below_next (below_next Q.out Q.out.size q20) (below_next Q.out Q.out.size q20).size qv)
          have zy2 : y < w20.heap.size := heap_lt (heap_below C.out q20)
          have zb2 : bs < w20.heap.size := heap_lt (heap_below L.out q20)
          have TY := hide (show (w20.alloc (.cells zCl.cs.toArray 33)).there w20.heap.size 0 23 from there_heap (cs := zCl.cs) Y21.out)
          clear q20 qv C X L Q FD
          go_wp2_with (refine wpList_store_hid (by rfl) 33 (.tmp 17) (.tmp 128) (by rfl) w20.heap.size 0 c0.cs (by rfl) (by rfl) (by exact TY.out) (by kernel_rfl) (by simp [Value.oneCell', Cl.cs]) ?_)
          intro w22 e22
          have Y22 := hide (show w22.heap[w20.heap.size]? = some (.cells c0.cs.toArray 33 (0, 0)) by rw [e22.out]; exact whole_heap c0.cs (xs := zCl.cs) Y21.out rfl)
          have C22 := hide (show w22.heap[y]? = some (.cells dF.cs.toArray 33 (0, 0)) by rw [e22.out]; exact other_heap (by omega) _ _ _ C21.out)
          have L22 := hide (show w22.heap[bs]? = some (.cells (frc f ++ frc g).toArray 24 (0, 0)) by rw [e22.out]; exact other_heap (by omega) _ _ _ L21.out)
          have Q22 := hide (show Below w.heap.size w w22 by rw [e22.out]; exact Q21.out.trans (below_setCells _ _ _ (by have := Q21.out.size; omega)))
          clear e22 TY Y21 C21 L21 Q21
          generalize w20.heap.size = v at *
          obtain ⟨c1', c2', c3', c4', c5'⟩ : w22.cell? ⟨v, 0, none⟩ = some (.int .i64 0) ∧ w22.cell? ⟨v, 1, none⟩ = some (.int .i64 0) ∧ w22.cell? ⟨v, 2, none⟩ = some (.bool false) ∧ w22.cell? ⟨v, 3, none⟩ = some (.int .i64 0) ∧ w22.cell? ⟨v, 4, none⟩ = some (.int .i64 1) := by
            obtain ⟨⟨a0, a1, a2, a3⟩, ⟨a4, -⟩, -⟩ := cl_cells Y22.out
            rw [HC0.out] at a0 a1 a2 a3 a4
            exact ⟨a0, a1, a2, a3, a4⟩
          have TC := hide (show w22.there y 0 23 from there_heap (cs := dF.cs) C22.out)
          go_wp2_with (first | (refine wpList_load_row rfl 33 (.tmp 17) (by rfl) v (by rfl) 33 c0.cs.toArray (0, 0) _ (by exact Y22.out) Tryd.underlying33 (by rfl) (by kernel_rfl) ?_) | (refine wpList_store_hid (by rfl) 33 (.tmp 5) (.tmp 143) (by rfl) y 0 c0.cs (by rfl) (by rfl) (by exact TC.out) (by kernel_rfl) (by simp [Value.oneCell', Cl.cs]) ?_))
          intro w23 e23
          have C23 := hide (show w23.heap[y]? = some (.cells c0.cs.toArray 33 (0, 0)) by rw [e23.out]; exact whole_heap c0.cs (xs := dF.cs) C22.out rfl)
          have L23 := hide (show w23.heap[bs]? = some (.cells (frc f ++ frc g).toArray 24 (0, 0)) by rw [e23.out]; exact other_heap (by omega) _ _ _ L22.out)
          have Q23 := hide (show Below w.heap.size w w23 by rw [e23.out]; exact Q22.out.trans (below_setCells _ _ _ (by omega)))
          clear e23 TC Y22 C22 L22 Q22 c1' c2' c3' c4' c5'
          go_wp2_with fail
          go_roundw
          case rel => exact ⟨k + 1, by omega, by go_num, C23, L23, Q23⟩
          case measure => simp [intOf]; omega
    · obtain rfl : k = 2 := by omega
      clear C L
      go_wp2_with fail
      go_ret
      exact ⟨rfl, Q.out⟩
end Go.Proofs.YtpfbobcilphncaaDoor
