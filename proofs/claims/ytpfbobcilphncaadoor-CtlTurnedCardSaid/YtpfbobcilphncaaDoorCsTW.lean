/- The walk of campanilelaw07.CtlTurned. -/
import Derived.Test.YtpfbobcilphncaaDoorMgStQ
import Derived.Test.YtpfbobcilphncaaDoorMgCtH
namespace Go.Proofs.YtpfbobcilphncaaDoor
open Go.ChangeShapes Go.WideShapes Go.ChangeAt Go.RowKit
open FP (Fr bitsF bodyF)

set_option maxRecDepth 100000 in
set_option maxHeartbeats 64000000 in
theorem ctlTurned_walk (f : Fr) (a : Int) (w : World) (hid : f.id < 4294967296) (hs : f.data.size ≤ maxLen) : Calls Tryd.prog 6 #[.agg (frc f).toArray, .int .i64 a] w fun e w' => e = .returned (.bool true) ∧ Below w.heap.size w w' := by
  obtain ⟨w0, hw0⟩ : ∃ w0, w0 = w.alloc (.cells (frc f).toArray 24) := ⟨_, rfl⟩
  have B0 := hide (World.alloc_heap_new w (.cells (frc f).toArray 24))
  have Q0 : Hid (Below w.heap.size w w0) := by rw [hw0]; exact hide ((Below.refl _ _).alloc (Nat.le_refl _) _)
  rw [← hw0] at B0
  have FW := hide (few07_any f w0 hs)
  clear hs
  go_enter Tryd.func6, Tryd.ntmps6
  go_upto_region 1 with fail
  change Code.wp _ _ _ _ (w.alloc (.cells (frc f).toArray 24))
  rw [← hw0]
  clear hw0
  go_wp2_with (refine wpList_load_row rfl 24 (.tmp 2) (by rfl) w.heap.size (by rfl) 24 (frc f).toArray (0, 0) _ (by exact B0.out) Tryd.underlying24 (by rfl) (by kernel_rfl) ?_)
  (with_reducible refine (FW.out).mono ?_)
  rintro e1 w1 ⟨rfl, q1⟩
  have B1 := hide (heap_below B0.out q1)
  have Q1 := hide (below_next Q0.out Q0.out.size q1)
  have TH := hide (show w1.there w.heap.size 0 5 from there_heap (cs := frc f) B1.out)
  have hid2 : (cut7 f).id < 4294967296 := hid
  clear q1 B0 Q0 FW hid
  generalize cut7 f = g at *
  go_wp2_with (refine wpList_store_hid (by rfl) 24 (.tmp 2) (.tmp 14) (by rfl) w.heap.size 0 (frc g) (by rfl) (by rfl) (by exact TH.out) (by kernel_rfl) (by simp [Value.oneCell', frc]) ?_)
  intro w2 e2
  have G := hide (show w2.heap[w.heap.size]? = some (.cells (frc g).toArray 24 (0, 0)) by rw [e2.out]; exact whole_heap (frc g) (xs := frc f) B1.out rfl)
  have Q := hide (show Below w.heap.size w w2 by rw [e2.out]; exact Q1.out.trans (below_setCells _ _ _ (Nat.le_refl _)))
  clear e2 TH B1 Q1
  have RR := hide (fun W => show Calls Tryd.prog 8 #[.agg (frc g).toArray] W fun e w' => e = .returned (.bool (FP.rightB g)) ∧ Below W.heap.size W w' from refRight04_any g W hid2)
  have AL := hide (fun W => alive07_any W)
  go_wp2_with (refine wpList_load_row rfl 24 (.tmp 2) (by rfl) w.heap.size (by rfl) 24 (frc g).toArray (0, 0) _ (by exact G.out) Tryd.underlying24 (by rfl) (by kernel_rfl) ?_)
  (with_reducible refine (RR.out _).mono ?_)
  rintro ew1' w1' ⟨rfl, qw1'⟩
  replace G := hide (heap_below G.out qw1')
  replace Q := hide (below_next Q.out Q.out.size qw1')
  clear qw1'
  clear RR
  rcases Bool.eq_false_or_eq_true (FP.rightB g) with hr | hr
  case inr =>
    rw [hr]
    go_wp2_with fail
    (with_reducible refine (AL.out _).mono ?_)
    rintro ew2' w2' ⟨rfl, qw2'⟩
    replace G := hide (heap_below G.out qw2')
    replace Q := hide (below_next Q.out Q.out.size qw2')
    clear qw2'
    clear AL
    go_wp2_with fail
    go_ret
    exact ⟨rfl, Q.out⟩
  case inl =>
  rw [hr]
  have RB := hide (fun W => show Calls Tryd.prog 11 #[.agg (frc g).toArray] W fun e w' => e = .returned (.string ⟨(bitsF g).toArray⟩) ∧ Below W.heap.size W w' from refBits_any g W hr)
  obtain ⟨S, hS⟩ : ∃ S : ByteArray, S = ⟨(bitsF g).toArray⟩ := ⟨_, rfl⟩
  rw [← hS] at RB
  have HSL := hide (show S.data.toList = bitsF g by rw [hS])
  clear hS
  go_wp2_with (refine wpList_load_row rfl 24 (.tmp 2) (by rfl) w.heap.size (by rfl) 24 (frc g).toArray (0, 0) _ (by exact G.out) Tryd.underlying24 (by rfl) (by kernel_rfl) ?_)
  (with_reducible refine (RB.out _).mono ?_)
  rintro ew3' w3' ⟨rfl, qw3'⟩
  replace G := hide (heap_below G.out qw3')
  replace Q := hide (below_next Q.out Q.out.size qw3')
  clear qw3'
  clear RB
  have hsz : S.size = (bitsF g).length := by rw [← HSL.out]; exact Array.length_toList.symm
  have HN := hide (show S.size = (bodyF g).length + 10 by rw [hsz]; exact FP.body_len g)
  have HSZ := hide hsz
  have hn2 : S.size ≤ 157 := by have := FP.body_le hr; have := HN.out; omega
  have hn3 : 44 ≤ S.size := by have := FP.body_ge hr; have := HN.out; omega
  clear hsz
  obtain ⟨m1, hm1⟩ : ∃ m1 : Nat, (S.size : Int) - 9 = m1 := ⟨S.size - 9, by omega⟩
  obtain ⟨m2, hm2⟩ : ∃ m2 : Nat, (S.size : Int) - 8 = m2 := ⟨S.size - 8, by omega⟩
  obtain ⟨TS, hTS⟩ : ∃ TS : ByteArray, TS = S.extract 0 m1 ++ ⟨#[48]⟩ ++ S.extract m2 S.size := ⟨_, rfl⟩
  have HTL := hide (show TS.data.toList = toldF g by
    rw [hTS, ByteArray.data_append, ByteArray.data_append, Array.toList_append, Array.toList_append, toList_extract, toList_extract, HSL.out, List.extract_eq_take_drop, List.extract_eq_take_drop, List.drop_zero]
    unfold toldF
    have hsz := HSZ.out
    rw [show m1 - 0 = (bitsF g).length - 9 by omega, show m2 = (bitsF g).length - 8 by omega, List.take_of_length_le (l := (bitsF g).drop _) (by rw [List.length_drop]; omega)]
    simp)
  have HTZ := hide (show TS.size = S.size from by
    have h1 : TS.data.toList.length = TS.size := Array.length_toList
    rw [← h1, HTL.out, HSZ.out, told_len])
  have HTS := hide hTS
  clear hTS
  go_upto_region 6 with fail
  go_cut [5] (fun v W => v = .string TS ∧ Below w3'.heap.size w3' W)
  case first =>
    have hml1 : (m1 : Int) ≤ S.size := by omega
    have hml2 : (m2 : Int) ≤ S.size := by omega
    have hm14 : (m1 : Int) ≤ 157 := by omega
    have hm24 : (m2 : Int) ≤ 157 := by omega
    have hw1 : IntKind.i64.wrap (m1 : Int) = (m1 : Int) := IntWalk.i64_in _ (by omega)
    have hw2 : IntKind.i64.wrap (m2 : Int) = (m2 : Int) := IntWalk.i64_in _ (by omega)
    have hc1 : ¬ 9223372036854775807 < (S.extract 0 m1).size + 1 := by rw [ByteArray.size_extract]; omega
    have hc2 : ¬ 9223372036854775807 < (S.extract 0 m1 ++ ⟨#[48]⟩ : ByteArray).size + (S.extract m2 S.size).size := by rw [ByteArray.size_append, ByteArray.size_extract, ByteArray.size_extract]; show ¬ 9223372036854775807 < _ + 1 + _; omega
    have hc3 : ¬ 9223372036854775807 < min m1 S.size + 1 := by omega
    have hc4 : ¬ 9223372036854775807 < min m1 S.size + 1 + (S.size - m2) := by omega
    clear HTL HTZ HSL HSZ HN G Q
    refine wp_region_L [0, 1, 2, 3, 4, 5, 6, 7, 8, 9] [] (by kernel_rfl) ?_
    have QD := hide (show Below w3'.heap.size w3' w3'.drew from (Below.refl _ _).drew)
    generalize w3'.drew = wd at *
    refine wpAnyL_pure (i := 0) (v := .string S) rfl rfl (by kernel_rfl) (by kernel_rfl) (by kernel_rfl) (by kernel_rfl) (by kernel_rfl) (fun _ _ _ h => h) rfl (fun W => by go_simp) ?_
    go_simp
    refine wpAnyL_pure (i := 1) (v := .int .i64 S.size) rfl rfl (by kernel_rfl) (by kernel_rfl) (by kernel_rfl) (by kernel_rfl) (by kernel_rfl) (fun _ _ _ h => h) rfl (fun W => by go_simp) ?_
    go_simp
    refine wpAnyL_pure (i := 2) (v := .int .i64 m1) rfl rfl (by kernel_rfl) (by kernel_rfl) (by kernel_rfl) (by kernel_rfl) (by kernel_rfl) (fun _ _ _ h => h) rfl (fun W => by go_simp) ?_
    go_simp
    refine wpAnyL_pure (i := 3) (v := .string (S.extract 0 m1)) rfl rfl (by kernel_rfl) (by kernel_rfl) (by kernel_rfl) (by kernel_rfl) (by kernel_rfl) (fun _ _ _ h => h) rfl (fun W => by go_simp) ?_
    go_simp
    refine wpAnyL_pure (i := 4) (v := .string (S.extract 0 m1 ++ ⟨#[48]⟩)) rfl rfl (by kernel_rfl) (by kernel_rfl) (by kernel_rfl) (by kernel_rfl) (by kernel_rfl) (fun _ _ _ h => h) rfl (fun W => by go_simp) ?_
    go_simp
    refine wpAnyL_pure (i := 5) (v := .string S) rfl rfl (by kernel_rfl) (by kernel_rfl) (by kernel_rfl) (by kernel_rfl) (by kernel_rfl) (fun _ _ _ h => h) rfl (fun W => by go_simp) ?_
    go_simp
    refine wpAnyL_pure (i := 6) (v := .int .i64 S.size) rfl rfl (by kernel_rfl) (by kernel_rfl) (by kernel_rfl) (by kernel_rfl) (by kernel_rfl) (fun _ _ _ h => h) rfl (fun W => by go_simp) ?_
    go_simp
    refine wpAnyL_pure (i := 7) (v := .int .i64 m2) rfl rfl (by kernel_rfl) (by kernel_rfl) (by kernel_rfl) (by kernel_rfl) (by kernel_rfl) (fun _ _ _ h => h) rfl (fun W => by go_simp) ?_
    go_simp
    refine wpAnyL_pure (i := 8) (v := .string (S.extract m2 S.size)) rfl rfl (by kernel_rfl) (by kernel_rfl) (by kernel_rfl) (by kernel_rfl) (by kernel_rfl) (fun _ _ _ h => h) rfl (fun W => by go_simp) ?_
    go_simp
    refine wpAnyL_pure (i := 9) (v := .string (S.extract 0 m1 ++ ⟨#[48]⟩ ++ S.extract m2 S.size)) rfl rfl (by kernel_rfl) (by kernel_rfl) (by kernel_rfl) (by kernel_rfl) (by kernel_rfl) (fun _ _ _ h => h) rfl (fun W => by go_simp) ?_
    go_simp
    refine wpAnyL_one (i := 10) (by kernel_rfl) ?_
    refine wpOp_do rfl rfl ?_
    go_simp
    refine ⟨keepsL_all (by kernel_rfl) (by kernel_rfl), ?_⟩
    refine wpAnyL_done (by kernel_rfl) ?_ _
    go_wp2_with fail
    go_meet
    exact ⟨by rw [HTS.out], QD.out⟩
  case rest =>
  obtain ⟨rfl, qc⟩ := hcut
  replace G := hide (heap_below G.out qc)
  replace Q := hide (below_next Q.out Q.out.size qc)
  clear qc
  obtain ⟨M, hM⟩ : ∃ M : Nat, (S.size : Int) - 11 = M := ⟨S.size - 11, by omega⟩
  have hM1 : (0 : Int) < M := by omega
  obtain ⟨r1, r2, r3, r4, r5⟩ := remN a M hM1
  obtain ⟨A0, hA0⟩ : ∃ A0 : Nat, (a.tmod M + M) % M = (A0 : Int) := ⟨((a.tmod M + M) % M).toNat, by omega⟩
  obtain ⟨A, hA⟩ : ∃ A : Nat, 1 + (A0 : Int) = A := ⟨1 + A0, by omega⟩
  have hAM : (A : Int) ≤ M := by omega
  have hA1 : 1 ≤ A := by omega
  have hAB : A < (bodyF g).length := by have := HN.out; omega
  have hAS : A < TS.size := by have := HTZ.out; omega
  have hnn : ((M : Int) == 0) = false := by rw [beq_eq_false_iff_ne]; omega
  have hMs : M ≤ 157 := by omega
  have TN := hide (fun W => refTurn_any TS A A W rfl hAS (by rw [HTL.out]; exact told_bits g) (by have := HTZ.out; omega))
  obtain ⟨US, hUS⟩ : ∃ US : ByteArray, US = ⟨(FP.turnF TS.data.toList A).toArray⟩ := ⟨_, rfl⟩
  rw [← hUS] at TN
  have hUZ : US.size = TS.size := by rw [hUS, size_of, FP.turn_len (by rw [Array.length_toList]; exact hAS), Array.length_toList]; rfl
  obtain ⟨VS, hVS⟩ : ∃ VS : ByteArray, VS = US ++ ⟨#[49, 49, 49, 49, 49, 49, 49, 49, 49, 49, 49]⟩ := ⟨_, rfl⟩
  have HVL := hide (show VS.data.toList = trnF g A by
    rw [hVS, ByteArray.data_append, Array.toList_append, hUS, HTL.out]
    rfl)
  have hUx : US.size ≤ 157 := by have := HTZ.out; omega
  have hVz : VS.size = US.size + 11 := by rw [hVS, ByteArray.size_append]; rfl
  have HVS := hide hVS
  have HVZ := hide hVz
  have hun : ¬ 9223372036854775807 < US.size + 11 := by omega
  clear hUS hVS hUZ hVz r1 r2
  go_upto_region 7 with fail
  go_cut [1] (fun v W => v = .int .i64 A ∧ W = wc)
  case first =>
    have hwm : IntKind.i64.wrap (M : Int) = (M : Int) := IntWalk.i64_in _ (by omega)
    go_wp2_with fail
    go_meet
    refine ⟨?_, rfl⟩
    first | rfl | (congr 1; rw [← hA, ← hA0]; first | rfl | (rw [Int.tmod_eq_emod_of_nonneg (by omega)]))
  case rest =>
  obtain ⟨rfl, rfl⟩ := hcut
  clear hA0 hA r3 r4 r5 hm1 hm2 hM
  go_wp2_with fail
  (with_reducible refine (TN.out _).mono ?_)
  rintro ew4' w4' ⟨rfl, qw4'⟩
  replace G := hide (heap_below G.out qw4')
  replace Q := hide (below_next Q.out Q.out.size qw4')
  clear qw4'
  clear TN
  have RY := hide (fun W => ready_any W)
  obtain ⟨c0, hc0⟩ : ∃ c0, c0 = idleC := ⟨_, rfl⟩
  rw [← hc0] at RY
  have HC0 := hide hc0
  clear hc0
  go_upto_region 9 with fail
  rw [← HVS.out]
  go_wp2_with fail
  (with_reducible refine (RY.out _).mono ?_)
  rintro ew5' w5' ⟨rfl, qw5'⟩
  replace G := hide (heap_below G.out qw5')
  replace Q := hide (below_next Q.out Q.out.size qw5')
  clear qw5'
  clear RY
  have q6' : Below w5'.heap.size w5' (w5'.alloc (.cells zCl.cs.toArray 33)) := (Below.refl _ _).alloc (Nat.le_refl _) _
  have C := World.alloc_heap_new w5' (.cells zCl.cs.toArray 33)
  have zGy : w.heap.size < w5'.heap.size := heap_lt G.out
  replace G := hide (heap_below G.out q6')
  replace Q := hide (below_next Q.out Q.out.size q6')
  clear q6'
  obtain ⟨w7', hw7'⟩ : ∃ wx, wx = w5'.alloc (.cells zCl.cs.toArray 33) := ⟨_, rfl⟩
  rw [← hw7'] at Q G C
  replace C := hide C
  have Tw8' := hide (show (w5'.alloc (.cells zCl.cs.toArray 33)).there w5'.heap.size 0 23 by rw [← hw7']; exact there_heap (cs := zCl.cs) C.out)
  go_wp2_with (refine wpList_store_hid (by rfl) 33 (.tmp 7) (.tmp 50) (by rfl) w5'.heap.size 0 c0.cs (by rfl) (by rfl) (by exact Tw8'.out) (by kernel_rfl) (by simp [Value.oneCell', Cl.cs]) ?_)
  intro w8' ew8'
  replace ew8' : Hid (w8' = w7'.setCells w5'.heap.size 0 c0.cs) := by rw [hw7']; exact ew8'
  replace G := hide (show w8'.heap[w.heap.size]? = some (.cells (frc g).toArray 24 (0, 0)) by rw [ew8'.out]; exact other_heap (by omega) _ _ _ G.out)
  replace Q := hide (show Below w.heap.size w w8' by rw [ew8'.out]; exact Q.out.trans (below_setCells _ _ _ (by have := Q.out.size; omega)))
  replace C := hide (show w8'.heap[w5'.heap.size]? = some (.cells c0.cs.toArray 33 (0, 0)) by rw [ew8'.out]; exact whole_heap c0.cs (xs := zCl.cs) C.out rfl)
  clear ew8' Tw8' hw7'
  generalize w5'.heap.size = y at *
  go_wp2_with fail
  (with_reducible refine (AL.out _).mono ?_)
  rintro ew9' w9' ⟨rfl, qw9'⟩
  replace G := hide (heap_below G.out qw9')
  replace C := hide (heap_below C.out qw9')
  replace Q := hide (below_next Q.out Q.out.size qw9')
  clear qw9'
  clear AL
  have STEP := hide (fun (i : Nat) (hi : i < VS.size) => show (VS[i] = 48 ∨ VS[i] = 49) ∧ ∀ c : Cl, c.Ok → Lone (trnF g A) i c → Lone (trnF g A) (i + 1) (c.samp VS[i]).c ∧ ((c.samp VS[i]).kind = 2 → (c.samp VS[i]).ef ≠ g) from by
    have hg : (trnF g A)[i]? = some VS[i] := by rw [← HVL.out]; exact get_some VS i hi
    have hb := trn_bits g A _ (List.mem_of_getElem? hg)
    refine ⟨hb, fun c hk hl => ?_⟩
    have h := lone_step (trn_zero g hA1 hAB) hl hk hb hg
    refine ⟨h.1, fun e e2 => ?_⟩
    have h2 := h.2 e
    rw [e2] at h2
    have hl2 : i < (trnF g A).length := by rw [← HVL.out]; show i < VS.data.toList.length; rw [Array.length_toList]; exact hi
    exact trn_never hAB hl2 h2)
  have hv2 : VS.size ≤ 168 := by have := HVZ.out; omega
  have HL0 := hide (show Lone (trnF g A) 0 c0 ∧ c0.Ok by rw [HC0.out]; exact ⟨lone_zero _, idle_ok⟩)
  generalize trnF g A = tl at *
  clear HVL HTL HTZ HTS HSL HSZ HN HVS HVZ HC0 hA1 hAB hAS hAM hM1 hnn hMs hun hUx hn2 hn3
  go_wp2_with fail
  go_loopw [60] (fun vi W => ∃ k : Nat, k ≤ VS.size ∧ vi = .int .i64 k ∧ ∃ d : Cl, d.Ok ∧ Hid (Lone tl k d) ∧ Hid (W.heap[w.heap.size]? = some (.cells (frc g).toArray 24 (0, 0))) ∧ Hid (W.heap[y]? = some (.cells d.cs.toArray 33 (0, 0))) ∧ Hid (Below w.heap.size w W) ∧ y < W.heap.size) (fun vi _ => VS.size - (intOf vi).toNat)
  case atStart => exact ⟨0, Nat.zero_le _, rfl, c0, HL0.out.2, hide HL0.out.1, G, C, Q, heap_lt C.out⟩
  case round =>
    clear G C Q HL0
    obtain ⟨k, hk, rfl, d, hok, HL, G, C, Q, zy⟩ := hrel
    by_cases hlt : k < VS.size
    · have hki : (k : Int) < (VS.size : Int) := by omega
      obtain ⟨hbit, hst⟩ := STEP.out k hlt
      have SA := hide (fun (W : World) => ctlSample_ok d VS[k] hbit W hok)
      have hst2 := hst d hok HL.out
      have hok2 := hok.samp VS[k] hbit
      generalize d.samp VS[k] = M at *
      obtain ⟨e2, kd, ef, bd⟩ := M
      dsimp only at hst2 hok2 SA
      have HST := hide hst2
      clear hst hst2 hbit hok HL
      go_upto_region 15 with fail
      go_cut [10, 11, 12] (fun vx vv ve W => ∃ x7 x8, vx = .pointer (some ⟨x7, 0, none⟩) ∧ vv = .pointer (some ⟨x8, 0, none⟩) ∧ ve = .int .i64 0 ∧ Hid (W.heap[x7]? = some (.cells e2.cs.toArray 33 (0, 0))) ∧ Hid (W.heap[x8]? = some (.cells (evL kd ef bd).toArray 42 (0, 0))) ∧ Hid (W.heap[w.heap.size]? = some (.cells (frc g).toArray 24 (0, 0))) ∧ Hid (W.heap[y]? = some (.cells d.cs.toArray 33 (0, 0))) ∧ Hid (Below w.heap.size w W) ∧ y < x7 ∧ w.heap.size < x7)
      case first =>
        clear HST STEP
        go_wp2_with fail
        refine wp_region_L [0, 1, 2, 3, 5, 6, 7, 8] [(0, fun W => W.heap[y]? = some (.cells d.cs.toArray 33 (0, 0)))] (by kernel_rfl) ?_
        replace G := hide (show wr.drew.heap[w.heap.size]? = some (.cells (frc g).toArray 24 (0, 0)) from G.out)
        replace C := hide (show wr.drew.heap[y]? = some (.cells d.cs.toArray 33 (0, 0)) from C.out)
        replace Q := hide (show Below w.heap.size w wr.drew from Q.out.drew)
        generalize wr.drew = wd at *
        refine wpAnyL_load (i := 0) (v := .agg d.cs.toArray) rfl rfl (by kernel_rfl) (by kernel_rfl) (by kernel_rfl) (by kernel_rfl) (by kernel_rfl) (fun _ _ _ h => h) rfl (fun W h => exec_heap W y 33 _ _ h Tryd.underlying33 rfl (by kernel_rfl) _ _ (.tmp 7) (by rfl) (by rfl)) (C.out) ?_
        go_simp
        refine wpAnyL_pure (i := 1) (v := .string VS) rfl rfl (by kernel_rfl) (by kernel_rfl) (by kernel_rfl) (by kernel_rfl) (by kernel_rfl) (fun _ _ _ h => h) rfl (fun W => by go_simp) ?_
        go_simp
        refine wpAnyL_pure (i := 2) (v := .int .i64 k) rfl rfl (by kernel_rfl) (by kernel_rfl) (by kernel_rfl) (by kernel_rfl) (by kernel_rfl) (fun _ _ _ h => h) rfl (fun W => by go_simp) ?_
        go_simp
        refine wpAnyL_pure (i := 3) (v := .int .u8 VS[k].toNat) rfl rfl (by kernel_rfl) (by kernel_rfl) (by kernel_rfl) (by kernel_rfl) (by kernel_rfl) (fun _ _ _ h => h) rfl (fun W => by go_simp) ?_
        go_simp
        refine wpAnyL_three (i := 4) (k := 9) (m := 10) (by kernel_rfl) ?_ ?_ ?_
        · refine wpOp_do rfl rfl ?_
          go_simp
          (with_reducible refine (SA.out _).mono ?_)
          rintro ewda wda ⟨rfl, q⟩
          replace G := hide (heap_below G.out q)
          replace C := hide (heap_below C.out q)
          replace Q := hide (below_next Q.out Q.out.size q)
          clear q
          go_simp
          refine ⟨keepsL_all (by kernel_rfl) (by kernel_rfl), ?_⟩
          go_simp
          refine wpAnyL_pure (i := 5) (v := .tuple #[.agg (e2.cs).toArray, .agg (evL kd ef bd).toArray, .int .i64 0]) rfl rfl (by kernel_rfl) (by kernel_rfl) (by kernel_rfl) (by kernel_rfl) (by kernel_rfl) (fun _ _ _ h => h) rfl (fun W => by go_simp) ?_
          go_simp
          refine wpAnyL_pure (i := 6) (v := .agg (e2.cs).toArray) rfl rfl (by kernel_rfl) (by kernel_rfl) (by kernel_rfl) (by kernel_rfl) (by kernel_rfl) (fun _ _ _ h => h) rfl (fun W => by go_simp) ?_
          go_simp
          refine wpAnyL_pure (i := 7) (v := .agg (evL kd ef bd).toArray) rfl rfl (by kernel_rfl) (by kernel_rfl) (by kernel_rfl) (by kernel_rfl) (by kernel_rfl) (fun _ _ _ h => h) rfl (fun W => by go_simp) ?_
          go_simp
          refine wpAnyL_pure (i := 8) (v := .int .i64 0) rfl rfl (by kernel_rfl) (by kernel_rfl) (by kernel_rfl) (by kernel_rfl) (by kernel_rfl) (fun _ _ _ h => h) rfl (fun W => by go_simp) ?_
          go_simp
          refine wpAnyL_two (i := 9) (k := 10) (by kernel_rfl) ?_ ?_
          · refine wpOp_do rfl rfl ?_
            go_simp
            have q : Below wda.heap.size wda (wda.alloc (.cells zCl.cs.toArray 33)) := (Below.refl _ _).alloc (Nat.le_refl _) _
            have N7 := hide (World.alloc_heap_new wda (.cells zCl.cs.toArray 33))
            have z7G : w.heap.size < wda.heap.size := heap_lt G.out
            have z7C : y < wda.heap.size := heap_lt C.out
            replace G := hide (heap_below G.out q)
            replace C := hide (heap_below C.out q)
            replace Q := hide (below_next Q.out Q.out.size q)
            clear q
            refine ⟨keepsL_mk (by kernel_rfl) (.cons C.out .nil), ?_⟩
            change wpAnyL _ _ _ _ _ _ _ _ _ (wda.alloc (.cells zCl.cs.toArray 33))
            generalize wda.alloc (.cells zCl.cs.toArray 33) = wdab at *
            generalize wda.heap.size = x7 at *
            go_simp
            refine wpAnyL_one (i := 10) (by kernel_rfl) ?_
            refine wpOp_do rfl rfl ?_
            go_simp
            have q : Below wdab.heap.size wdab (wdab.alloc (.cells (evL 0 zFr 0).toArray 42)) := (Below.refl _ _).alloc (Nat.le_refl _) _
            have N8 := hide (World.alloc_heap_new wdab (.cells (evL 0 zFr 0).toArray 42))
            have z8G : w.heap.size < wdab.heap.size := heap_lt G.out
            have z8C : y < wdab.heap.size := heap_lt C.out
            have z78 : x7 < wdab.heap.size := heap_lt N7.out
            replace G := hide (heap_below G.out q)
            replace C := hide (heap_below C.out q)
            replace N7 := hide (heap_below N7.out q)
            replace Q := hide (below_next Q.out Q.out.size q)
            clear q
            refine ⟨keepsL_mk (by kernel_rfl) (.cons C.out .nil), ?_⟩
            change wpAnyL _ _ _ _ _ _ _ _ _ (wdab.alloc (.cells (evL 0 zFr 0).toArray 42))
            generalize wdab.alloc (.cells (evL 0 zFr 0).toArray 42) = wdabc at *
            generalize wdab.heap.size = x8 at *
            go_simp
            have T7 := hide (show wdabc.there x7 0 23 from there_heap (cs := zCl.cs) N7.out)
            refine wpAnyL_one (i := 11) (by kernel_rfl) ?_
            refine wpOp_do rfl rfl ?_
            refine wp_store_as 33 (.tmp 10) (.tmp 69) rfl x7 0 (e2.cs) (by rfl) (by rfl) (by exact T7.out) (by kernel_rfl) (by simp [Value.oneCell', Cl.cs]) ?_
            intro wa ea
            have N7a := hide (show wa.heap[x7]? = some (.cells (e2.cs).toArray 33 (0, 0)) by rw [ea]; exact whole_heap (e2.cs) (xs := zCl.cs) N7.out rfl)
            have N8a := hide (show wa.heap[x8]? = some (.cells (evL 0 zFr 0).toArray 42 (0, 0)) by rw [ea]; exact other_heap (by omega) _ _ _ N8.out)
            have Ga := hide (show wa.heap[w.heap.size]? = some (.cells (frc g).toArray 24 (0, 0)) by rw [ea]; exact other_heap (by omega) _ _ _ G.out)
            have Ca := hide (show wa.heap[y]? = some (.cells d.cs.toArray 33 (0, 0)) by rw [ea]; exact other_heap (by omega) _ _ _ C.out)
            have Qa := hide (show Below w.heap.size w wa by rw [ea]; exact Q.out.trans (below_setCells _ _ _ (by have := Q.out.size; omega)))
            clear ea T7 N7 N8 Q G C
            refine ⟨keepsL_all (by kernel_rfl) (by kernel_rfl), ?_⟩
            go_simp
            have T8 := hide (show wa.there x8 0 7 from there_heap (cs := evL 0 zFr 0) N8a.out)
            refine wpAnyL_one (i := 12) (by kernel_rfl) ?_
            refine wpOp_do rfl rfl ?_
            refine wp_store_as 42 (.tmp 11) (.tmp 70) rfl x8 0 (evL kd ef bd) (by rfl) (by rfl) (by exact T8.out) (by kernel_rfl) (by simp [Value.oneCell', evL]) ?_
            intro wb eb
            have N7 := hide (show wb.heap[x7]? = some (.cells (e2.cs).toArray 33 (0, 0)) by rw [eb]; exact other_heap (by omega) _ _ _ N7a.out)
            have N8 := hide (show wb.heap[x8]? = some (.cells (evL kd ef bd).toArray 42 (0, 0)) by rw [eb]; exact whole_heap (evL kd ef bd) (xs := evL 0 zFr 0) N8a.out rfl)
            have G := hide (show wb.heap[w.heap.size]? = some (.cells (frc g).toArray 24 (0, 0)) by rw [eb]; exact other_heap (by omega) _ _ _ Ga.out)
            have C := hide (show wb.heap[y]? = some (.cells d.cs.toArray 33 (0, 0)) by rw [eb]; exact other_heap (by omega) _ _ _ Ca.out)
            have Q := hide (show Below w.heap.size w wb by rw [eb]; exact Qa.out.trans (below_setCells _ _ _ (by have := Qa.out.size; omega)))
            clear eb T8 N7a N8a Qa Ga Ca
            refine ⟨keepsL_all (by kernel_rfl) (by kernel_rfl), ?_⟩
            go_simp
            refine wpAnyL_one (i := 13) (by kernel_rfl) ?_
            refine wpOp_do rfl rfl ?_
            go_simp
            refine ⟨keepsL_all (by kernel_rfl) (by kernel_rfl), ?_⟩
            go_simp
            refine wpAnyL_done (by kernel_rfl) ?_ _
            go_wp2_with fail
            go_meet
            exact ⟨x7, x8, rfl, rfl, rfl, N7, N8, G, C, Q, by omega, by omega⟩
          · refine wpOp_do rfl rfl ?_
            go_simp
            have q : Below wda.heap.size wda (wda.alloc (.cells (evL 0 zFr 0).toArray 42)) := (Below.refl _ _).alloc (Nat.le_refl _) _
            have N8 := hide (World.alloc_heap_new wda (.cells (evL 0 zFr 0).toArray 42))
            have z8G : w.heap.size < wda.heap.size := heap_lt G.out
            have z8C : y < wda.heap.size := heap_lt C.out
            replace G := hide (heap_below G.out q)
            replace C := hide (heap_below C.out q)
            replace Q := hide (below_next Q.out Q.out.size q)
            clear q
            refine ⟨keepsL_mk (by kernel_rfl) (.cons C.out .nil), ?_⟩
            change wpAnyL _ _ _ _ _ _ _ _ _ (wda.alloc (.cells (evL 0 zFr 0).toArray 42))
            generalize wda.alloc (.cells (evL 0 zFr 0).toArray 42) = wdac at *
            generalize wda.heap.size = x8 at *
            go_simp
            refine wpAnyL_one (i := 9) (by kernel_rfl) ?_
            refine wpOp_do rfl rfl ?_
            go_simp
            have q : Below wdac.heap.size wdac (wdac.alloc (.cells zCl.cs.toArray 33)) := (Below.refl _ _).alloc (Nat.le_refl _) _
            have N7 := hide (World.alloc_heap_new wdac (.cells zCl.cs.toArray 33))
            have z7G : w.heap.size < wdac.heap.size := heap_lt G.out
            have z7C : y < wdac.heap.size := heap_lt C.out
            have z78 : x8 < wdac.heap.size := heap_lt N8.out
            replace G := hide (heap_below G.out q)
            replace C := hide (heap_below C.out q)
            replace N8 := hide (heap_below N8.out q)
            replace Q := hide (below_next Q.out Q.out.size q)
            clear q
            refine ⟨keepsL_mk (by kernel_rfl) (.cons C.out .nil), ?_⟩
            change wpAnyL _ _ _ _ _ _ _ _ _ (wdac.alloc (.cells zCl.cs.toArray 33))
            generalize wdac.alloc (.cells zCl.cs.toArray 33) = wdacb at *
            generalize wdac.heap.size = x7 at *
            go_simp
            have T7 := hide (show wdacb.there x7 0 23 from there_heap (cs := zCl.cs) N7.out)
            refine wpAnyL_one (i := 11) (by kernel_rfl) ?_
            refine wpOp_do rfl rfl ?_
            refine wp_store_as 33 (.tmp 10) (.tmp 69) rfl x7 0 (e2.cs) (by rfl) (by rfl) (by exact T7.out) (by kernel_rfl) (by simp [Value.oneCell', Cl.cs]) ?_
            intro wa ea
            have N7a := hide (show wa.heap[x7]? = some (.cells (e2.cs).toArray 33 (0, 0)) by rw [ea]; exact whole_heap (e2.cs) (xs := zCl.cs) N7.out rfl)
            have N8a := hide (show wa.heap[x8]? = some (.cells (evL 0 zFr 0).toArray 42 (0, 0)) by rw [ea]; exact other_heap (by omega) _ _ _ N8.out)
            have Ga := hide (show wa.heap[w.heap.size]? = some (.cells (frc g).toArray 24 (0, 0)) by rw [ea]; exact other_heap (by omega) _ _ _ G.out)
            have Ca := hide (show wa.heap[y]? = some (.cells d.cs.toArray 33 (0, 0)) by rw [ea]; exact other_heap (by omega) _ _ _ C.out)
            have Qa := hide (show Below w.heap.size w wa by rw [ea]; exact Q.out.trans (below_setCells _ _ _ (by have := Q.out.size; omega)))
            clear ea T7 N7 N8 Q G C
            refine ⟨keepsL_all (by kernel_rfl) (by kernel_rfl), ?_⟩
            go_simp
            have T8 := hide (show wa.there x8 0 7 from there_heap (cs := evL 0 zFr 0) N8a.out)
            refine wpAnyL_one (i := 12) (by kernel_rfl) ?_
            refine wpOp_do rfl rfl ?_
            refine wp_store_as 42 (.tmp 11) (.tmp 70) rfl x8 0 (evL kd ef bd) (by rfl) (by rfl) (by exact T8.out) (by kernel_rfl) (by simp [Value.oneCell', evL]) ?_
            intro wb eb
            have N7 := hide (show wb.heap[x7]? = some (.cells (e2.cs).toArray 33 (0, 0)) by rw [eb]; exact other_heap (by omega) _ _ _ N7a.out)
            have N8 := hide (show wb.heap[x8]? = some (.cells (evL kd ef bd).toArray 42 (0, 0)) by rw [eb]; exact whole_heap (evL kd ef bd) (xs := evL 0 zFr 0) N8a.out rfl)
            have G := hide (show wb.heap[w.heap.size]? = some (.cells (frc g).toArray 24 (0, 0)) by rw [eb]; exact other_heap (by omega) _ _ _ Ga.out)
            have C := hide (show wb.heap[y]? = some (.cells d.cs.toArray 33 (0, 0)) by rw [eb]; exact other_heap (by omega) _ _ _ Ca.out)
            have Q := hide (show Below w.heap.size w wb by rw [eb]; exact Qa.out.trans (below_setCells _ _ _ (by have := Qa.out.size; omega)))
            clear eb T8 N7a N8a Qa Ga Ca
            refine ⟨keepsL_all (by kernel_rfl) (by kernel_rfl), ?_⟩
            go_simp
            refine wpAnyL_one (i := 13) (by kernel_rfl) ?_
            refine wpOp_do rfl rfl ?_
            go_simp
            refine ⟨keepsL_all (by kernel_rfl) (by kernel_rfl), ?_⟩
            go_simp
            refine wpAnyL_done (by kernel_rfl) ?_ _
            go_wp2_with fail
            go_meet
            exact ⟨x7, x8, rfl, rfl, rfl, N7, N8, G, C, Q, by omega, by omega⟩
        · refine wpOp_do rfl rfl ?_
          go_simp
          have q : Below wd.heap.size wd (wd.alloc (.cells zCl.cs.toArray 33)) := (Below.refl _ _).alloc (Nat.le_refl _) _
          have N7 := hide (World.alloc_heap_new wd (.cells zCl.cs.toArray 33))
          have z7G : w.heap.size < wd.heap.size := heap_lt G.out
          have z7C : y < wd.heap.size := heap_lt C.out
          replace G := hide (heap_below G.out q)
          replace C := hide (heap_below C.out q)
          replace Q := hide (below_next Q.out Q.out.size q)
          clear q
          refine ⟨keepsL_mk (by kernel_rfl) (.cons C.out .nil), ?_⟩
          change wpAnyL _ _ _ _ _ _ _ _ _ (wd.alloc (.cells zCl.cs.toArray 33))
          generalize wd.alloc (.cells zCl.cs.toArray 33) = wdb at *
          generalize wd.heap.size = x7 at *
          go_simp
          refine wpAnyL_two (i := 4) (k := 10) (by kernel_rfl) ?_ ?_
          · refine wpOp_do rfl rfl ?_
            go_simp
            (with_reducible refine (SA.out _).mono ?_)
            rintro ewdba wdba ⟨rfl, q⟩
            replace G := hide (heap_below G.out q)
            replace C := hide (heap_below C.out q)
            replace N7 := hide (heap_below N7.out q)
            replace Q := hide (below_next Q.out Q.out.size q)
            clear q
            go_simp
            refine ⟨keepsL_all (by kernel_rfl) (by kernel_rfl), ?_⟩
            go_simp
            refine wpAnyL_pure (i := 5) (v := .tuple #[.agg (e2.cs).toArray, .agg (evL kd ef bd).toArray, .int .i64 0]) rfl rfl (by kernel_rfl) (by kernel_rfl) (by kernel_rfl) (by kernel_rfl) (by kernel_rfl) (fun _ _ _ h => h) rfl (fun W => by go_simp) ?_
            go_simp
            refine wpAnyL_pure (i := 6) (v := .agg (e2.cs).toArray) rfl rfl (by kernel_rfl) (by kernel_rfl) (by kernel_rfl) (by kernel_rfl) (by kernel_rfl) (fun _ _ _ h => h) rfl (fun W => by go_simp) ?_
            go_simp
            refine wpAnyL_pure (i := 7) (v := .agg (evL kd ef bd).toArray) rfl rfl (by kernel_rfl) (by kernel_rfl) (by kernel_rfl) (by kernel_rfl) (by kernel_rfl) (fun _ _ _ h => h) rfl (fun W => by go_simp) ?_
            go_simp
            refine wpAnyL_pure (i := 8) (v := .int .i64 0) rfl rfl (by kernel_rfl) (by kernel_rfl) (by kernel_rfl) (by kernel_rfl) (by kernel_rfl) (fun _ _ _ h => h) rfl (fun W => by go_simp) ?_
            go_simp
            refine wpAnyL_one (i := 10) (by kernel_rfl) ?_
            refine wpOp_do rfl rfl ?_
            go_simp
            have q : Below wdba.heap.size wdba (wdba.alloc (.cells (evL 0 zFr 0).toArray 42)) := (Below.refl _ _).alloc (Nat.le_refl _) _
            have N8 := hide (World.alloc_heap_new wdba (.cells (evL 0 zFr 0).toArray 42))
            have z8G : w.heap.size < wdba.heap.size := heap_lt G.out
            have z8C : y < wdba.heap.size := heap_lt C.out
            have z78 : x7 < wdba.heap.size := heap_lt N7.out
            replace G := hide (heap_below G.out q)
            replace C := hide (heap_below C.out q)
            replace N7 := hide (heap_below N7.out q)
            replace Q := hide (below_next Q.out Q.out.size q)
            clear q
            refine ⟨keepsL_mk (by kernel_rfl) (.cons C.out .nil), ?_⟩
            change wpAnyL _ _ _ _ _ _ _ _ _ (wdba.alloc (.cells (evL 0 zFr 0).toArray 42))
            generalize wdba.alloc (.cells (evL 0 zFr 0).toArray 42) = wdbac at *
            generalize wdba.heap.size = x8 at *
            go_simp
            have T7 := hide (show wdbac.there x7 0 23 from there_heap (cs := zCl.cs) N7.out)
            refine wpAnyL_one (i := 11) (by kernel_rfl) ?_
            refine wpOp_do rfl rfl ?_
            refine wp_store_as 33 (.tmp 10) (.tmp 69) rfl x7 0 (e2.cs) (by rfl) (by rfl) (by exact T7.out) (by kernel_rfl) (by simp [Value.oneCell', Cl.cs]) ?_
            intro wa ea
            have N7a := hide (show wa.heap[x7]? = some (.cells (e2.cs).toArray 33 (0, 0)) by rw [ea]; exact whole_heap (e2.cs) (xs := zCl.cs) N7.out rfl)
            have N8a := hide (show wa.heap[x8]? = some (.cells (evL 0 zFr 0).toArray 42 (0, 0)) by rw [ea]; exact other_heap (by omega) _ _ _ N8.out)
            have Ga := hide (show wa.heap[w.heap.size]? = some (.cells (frc g).toArray 24 (0, 0)) by rw [ea]; exact other_heap (by omega) _ _ _ G.out)
            have Ca := hide (show wa.heap[y]? = some (.cells d.cs.toArray 33 (0, 0)) by rw [ea]; exact other_heap (by omega) _ _ _ C.out)
            have Qa := hide (show Below w.heap.size w wa by rw [ea]; exact Q.out.trans (below_setCells _ _ _ (by have := Q.out.size; omega)))
            clear ea T7 N7 N8 Q G C
            refine ⟨keepsL_all (by kernel_rfl) (by kernel_rfl), ?_⟩
            go_simp
            have T8 := hide (show wa.there x8 0 7 from there_heap (cs := evL 0 zFr 0) N8a.out)
            refine wpAnyL_one (i := 12) (by kernel_rfl) ?_
            refine wpOp_do rfl rfl ?_
            refine wp_store_as 42 (.tmp 11) (.tmp 70) rfl x8 0 (evL kd ef bd) (by rfl) (by rfl) (by exact T8.out) (by kernel_rfl) (by simp [Value.oneCell', evL]) ?_
            intro wb eb
            have N7 := hide (show wb.heap[x7]? = some (.cells (e2.cs).toArray 33 (0, 0)) by rw [eb]; exact other_heap (by omega) _ _ _ N7a.out)
            have N8 := hide (show wb.heap[x8]? = some (.cells (evL kd ef bd).toArray 42 (0, 0)) by rw [eb]; exact whole_heap (evL kd ef bd) (xs := evL 0 zFr 0) N8a.out rfl)
            have G := hide (show wb.heap[w.heap.size]? = some (.cells (frc g).toArray 24 (0, 0)) by rw [eb]; exact other_heap (by omega) _ _ _ Ga.out)
            have C := hide (show wb.heap[y]? = some (.cells d.cs.toArray 33 (0, 0)) by rw [eb]; exact other_heap (by omega) _ _ _ Ca.out)
            have Q := hide (show Below w.heap.size w wb by rw [eb]; exact Qa.out.trans (below_setCells _ _ _ (by have := Qa.out.size; omega)))
            clear eb T8 N7a N8a Qa Ga Ca
            refine ⟨keepsL_all (by kernel_rfl) (by kernel_rfl), ?_⟩
            go_simp
            refine wpAnyL_one (i := 13) (by kernel_rfl) ?_
            refine wpOp_do rfl rfl ?_
            go_simp
            refine ⟨keepsL_all (by kernel_rfl) (by kernel_rfl), ?_⟩
            go_simp
            refine wpAnyL_done (by kernel_rfl) ?_ _
            go_wp2_with fail
            go_meet
            exact ⟨x7, x8, rfl, rfl, rfl, N7, N8, G, C, Q, by omega, by omega⟩
          · refine wpOp_do rfl rfl ?_
            go_simp
            have q : Below wdb.heap.size wdb (wdb.alloc (.cells (evL 0 zFr 0).toArray 42)) := (Below.refl _ _).alloc (Nat.le_refl _) _
            have N8 := hide (World.alloc_heap_new wdb (.cells (evL 0 zFr 0).toArray 42))
            have z8G : w.heap.size < wdb.heap.size := heap_lt G.out
            have z8C : y < wdb.heap.size := heap_lt C.out
            have z78 : x7 < wdb.heap.size := heap_lt N7.out
            replace G := hide (heap_below G.out q)
            replace C := hide (heap_below C.out q)
            replace N7 := hide (heap_below N7.out q)
            replace Q := hide (below_next Q.out Q.out.size q)
            clear q
            refine ⟨keepsL_mk (by kernel_rfl) (.cons C.out .nil), ?_⟩
            change wpAnyL _ _ _ _ _ _ _ _ _ (wdb.alloc (.cells (evL 0 zFr 0).toArray 42))
            generalize wdb.alloc (.cells (evL 0 zFr 0).toArray 42) = wdbc at *
            generalize wdb.heap.size = x8 at *
            go_simp
            refine wpAnyL_one (i := 4) (by kernel_rfl) ?_
            refine wpOp_do rfl rfl ?_
            go_simp
            (with_reducible refine (SA.out _).mono ?_)
            rintro ewdbca wdbca ⟨rfl, q⟩
            replace G := hide (heap_below G.out q)
            replace C := hide (heap_below C.out q)
            replace N7 := hide (heap_below N7.out q)
            replace N8 := hide (heap_below N8.out q)
            replace Q := hide (below_next Q.out Q.out.size q)
            clear q
            go_simp
            refine ⟨keepsL_all (by kernel_rfl) (by kernel_rfl), ?_⟩
            go_simp
            refine wpAnyL_pure (i := 5) (v := .tuple #[.agg (e2.cs).toArray, .agg (evL kd ef bd).toArray, .int .i64 0]) rfl rfl (by kernel_rfl) (by kernel_rfl) (by kernel_rfl) (by kernel_rfl) (by kernel_rfl) (fun _ _ _ h => h) rfl (fun W => by go_simp) ?_
            go_simp
            refine wpAnyL_pure (i := 6) (v := .agg (e2.cs).toArray) rfl rfl (by kernel_rfl) (by kernel_rfl) (by kernel_rfl) (by kernel_rfl) (by kernel_rfl) (fun _ _ _ h => h) rfl (fun W => by go_simp) ?_
            go_simp
            refine wpAnyL_pure (i := 7) (v := .agg (evL kd ef bd).toArray) rfl rfl (by kernel_rfl) (by kernel_rfl) (by kernel_rfl) (by kernel_rfl) (by kernel_rfl) (fun _ _ _ h => h) rfl (fun W => by go_simp) ?_
            go_simp
            refine wpAnyL_pure (i := 8) (v := .int .i64 0) rfl rfl (by kernel_rfl) (by kernel_rfl) (by kernel_rfl) (by kernel_rfl) (by kernel_rfl) (fun _ _ _ h => h) rfl (fun W => by go_simp) ?_
            go_simp
            have T7 := hide (show wdbca.there x7 0 23 from there_heap (cs := zCl.cs) N7.out)
            refine wpAnyL_one (i := 11) (by kernel_rfl) ?_
            refine wpOp_do rfl rfl ?_
            refine wp_store_as 33 (.tmp 10) (.tmp 69) rfl x7 0 (e2.cs) (by rfl) (by rfl) (by exact T7.out) (by kernel_rfl) (by simp [Value.oneCell', Cl.cs]) ?_
            intro wa ea
            have N7a := hide (show wa.heap[x7]? = some (.cells (e2.cs).toArray 33 (0, 0)) by rw [ea]; exact whole_heap (e2.cs) (xs := zCl.cs) N7.out rfl)
            have N8a := hide (show wa.heap[x8]? = some (.cells (evL 0 zFr 0).toArray 42 (0, 0)) by rw [ea]; exact other_heap (by omega) _ _ _ N8.out)
            have Ga := hide (show wa.heap[w.heap.size]? = some (.cells (frc g).toArray 24 (0, 0)) by rw [ea]; exact other_heap (by omega) _ _ _ G.out)
            have Ca := hide (show wa.heap[y]? = some (.cells d.cs.toArray 33 (0, 0)) by rw [ea]; exact other_heap (by omega) _ _ _ C.out)
            have Qa := hide (show Below w.heap.size w wa by rw [ea]; exact Q.out.trans (below_setCells _ _ _ (by have := Q.out.size; omega)))
            clear ea T7 N7 N8 Q G C
            refine ⟨keepsL_all (by kernel_rfl) (by kernel_rfl), ?_⟩
            go_simp
            have T8 := hide (show wa.there x8 0 7 from there_heap (cs := evL 0 zFr 0) N8a.out)
            refine wpAnyL_one (i := 12) (by kernel_rfl) ?_
            refine wpOp_do rfl rfl ?_
            refine wp_store_as 42 (.tmp 11) (.tmp 70) rfl x8 0 (evL kd ef bd) (by rfl) (by rfl) (by exact T8.out) (by kernel_rfl) (by simp [Value.oneCell', evL]) ?_
            intro wb eb
            have N7 := hide (show wb.heap[x7]? = some (.cells (e2.cs).toArray 33 (0, 0)) by rw [eb]; exact other_heap (by omega) _ _ _ N7a.out)
            have N8 := hide (show wb.heap[x8]? = some (.cells (evL kd ef bd).toArray 42 (0, 0)) by rw [eb]; exact whole_heap (evL kd ef bd) (xs := evL 0 zFr 0) N8a.out rfl)
            have G := hide (show wb.heap[w.heap.size]? = some (.cells (frc g).toArray 24 (0, 0)) by rw [eb]; exact other_heap (by omega) _ _ _ Ga.out)
            have C := hide (show wb.heap[y]? = some (.cells d.cs.toArray 33 (0, 0)) by rw [eb]; exact other_heap (by omega) _ _ _ Ca.out)
            have Q := hide (show Below w.heap.size w wb by rw [eb]; exact Qa.out.trans (below_setCells _ _ _ (by have := Qa.out.size; omega)))
            clear eb T8 N7a N8a Qa Ga Ca
            refine ⟨keepsL_all (by kernel_rfl) (by kernel_rfl), ?_⟩
            go_simp
            refine wpAnyL_one (i := 13) (by kernel_rfl) ?_
            refine wpOp_do rfl rfl ?_
            go_simp
            refine ⟨keepsL_all (by kernel_rfl) (by kernel_rfl), ?_⟩
            go_simp
            refine wpAnyL_done (by kernel_rfl) ?_ _
            go_wp2_with fail
            go_meet
            exact ⟨x7, x8, rfl, rfl, rfl, N7, N8, G, C, Q, by omega, by omega⟩
        · refine wpOp_do rfl rfl ?_
          go_simp
          have q : Below wd.heap.size wd (wd.alloc (.cells (evL 0 zFr 0).toArray 42)) := (Below.refl _ _).alloc (Nat.le_refl _) _
          have N8 := hide (World.alloc_heap_new wd (.cells (evL 0 zFr 0).toArray 42))
          have z8G : w.heap.size < wd.heap.size := heap_lt G.out
          have z8C : y < wd.heap.size := heap_lt C.out
          replace G := hide (heap_below G.out q)
          replace C := hide (heap_below C.out q)
          replace Q := hide (below_next Q.out Q.out.size q)
          clear q
          refine ⟨keepsL_mk (by kernel_rfl) (.cons C.out .nil), ?_⟩
          change wpAnyL _ _ _ _ _ _ _ _ _ (wd.alloc (.cells (evL 0 zFr 0).toArray 42))
          generalize wd.alloc (.cells (evL 0 zFr 0).toArray 42) = wdc at *
          generalize wd.heap.size = x8 at *
          go_simp
          refine wpAnyL_two (i := 4) (k := 9) (by kernel_rfl) ?_ ?_
          · refine wpOp_do rfl rfl ?_
            go_simp
            (with_reducible refine (SA.out _).mono ?_)
            rintro ewdca wdca ⟨rfl, q⟩
            replace G := hide (heap_below G.out q)
            replace C := hide (heap_below C.out q)
            replace N8 := hide (heap_below N8.out q)
            replace Q := hide (below_next Q.out Q.out.size q)
            clear q
            go_simp
            refine ⟨keepsL_all (by kernel_rfl) (by kernel_rfl), ?_⟩
            go_simp
            refine wpAnyL_pure (i := 5) (v := .tuple #[.agg (e2.cs).toArray, .agg (evL kd ef bd).toArray, .int .i64 0]) rfl rfl (by kernel_rfl) (by kernel_rfl) (by kernel_rfl) (by kernel_rfl) (by kernel_rfl) (fun _ _ _ h => h) rfl (fun W => by go_simp) ?_
            go_simp
            refine wpAnyL_pure (i := 6) (v := .agg (e2.cs).toArray) rfl rfl (by kernel_rfl) (by kernel_rfl) (by kernel_rfl) (by kernel_rfl) (by kernel_rfl) (fun _ _ _ h => h) rfl (fun W => by go_simp) ?_
            go_simp
            refine wpAnyL_pure (i := 7) (v := .agg (evL kd ef bd).toArray) rfl rfl (by kernel_rfl) (by kernel_rfl) (by kernel_rfl) (by kernel_rfl) (by kernel_rfl) (fun _ _ _ h => h) rfl (fun W => by go_simp) ?_
            go_simp
            refine wpAnyL_pure (i := 8) (v := .int .i64 0) rfl rfl (by kernel_rfl) (by kernel_rfl) (by kernel_rfl) (by kernel_rfl) (by kernel_rfl) (fun _ _ _ h => h) rfl (fun W => by go_simp) ?_
            go_simp
            refine wpAnyL_one (i := 9) (by kernel_rfl) ?_
            refine wpOp_do rfl rfl ?_
            go_simp
            have q : Below wdca.heap.size wdca (wdca.alloc (.cells zCl.cs.toArray 33)) := (Below.refl _ _).alloc (Nat.le_refl _) _
            have N7 := hide (World.alloc_heap_new wdca (.cells zCl.cs.toArray 33))
            have z7G : w.heap.size < wdca.heap.size := heap_lt G.out
            have z7C : y < wdca.heap.size := heap_lt C.out
            have z78 : x8 < wdca.heap.size := heap_lt N8.out
            replace G := hide (heap_below G.out q)
            replace C := hide (heap_below C.out q)
            replace N8 := hide (heap_below N8.out q)
            replace Q := hide (below_next Q.out Q.out.size q)
            clear q
            refine ⟨keepsL_mk (by kernel_rfl) (.cons C.out .nil), ?_⟩
            change wpAnyL _ _ _ _ _ _ _ _ _ (wdca.alloc (.cells zCl.cs.toArray 33))
            generalize wdca.alloc (.cells zCl.cs.toArray 33) = wdcab at *
            generalize wdca.heap.size = x7 at *
            go_simp
            have T7 := hide (show wdcab.there x7 0 23 from there_heap (cs := zCl.cs) N7.out)
            refine wpAnyL_one (i := 11) (by kernel_rfl) ?_
            refine wpOp_do rfl rfl ?_
            refine wp_store_as 33 (.tmp 10) (.tmp 69) rfl x7 0 (e2.cs) (by rfl) (by rfl) (by exact T7.out) (by kernel_rfl) (by simp [Value.oneCell', Cl.cs]) ?_
            intro wa ea
            have N7a := hide (show wa.heap[x7]? = some (.cells (e2.cs).toArray 33 (0, 0)) by rw [ea]; exact whole_heap (e2.cs) (xs := zCl.cs) N7.out rfl)
            have N8a := hide (show wa.heap[x8]? = some (.cells (evL 0 zFr 0).toArray 42 (0, 0)) by rw [ea]; exact other_heap (by omega) _ _ _ N8.out)
            have Ga := hide (show wa.heap[w.heap.size]? = some (.cells (frc g).toArray 24 (0, 0)) by rw [ea]; exact other_heap (by omega) _ _ _ G.out)
            have Ca := hide (show wa.heap[y]? = some (.cells d.cs.toArray 33 (0, 0)) by rw [ea]; exact other_heap (by omega) _ _ _ C.out)
            have Qa := hide (show Below w.heap.size w wa by rw [ea]; exact Q.out.trans (below_setCells _ _ _ (by have := Q.out.size; omega)))
            clear ea T7 N7 N8 Q G C
            refine ⟨keepsL_all (by kernel_rfl) (by kernel_rfl), ?_⟩
            go_simp
            have T8 := hide (show wa.there x8 0 7 from there_heap (cs := evL 0 zFr 0) N8a.out)
            refine wpAnyL_one (i := 12) (by kernel_rfl) ?_
            refine wpOp_do rfl rfl ?_
            refine wp_store_as 42 (.tmp 11) (.tmp 70) rfl x8 0 (evL kd ef bd) (by rfl) (by rfl) (by exact T8.out) (by kernel_rfl) (by simp [Value.oneCell', evL]) ?_
            intro wb eb
            have N7 := hide (show wb.heap[x7]? = some (.cells (e2.cs).toArray 33 (0, 0)) by rw [eb]; exact other_heap (by omega) _ _ _ N7a.out)
            have N8 := hide (show wb.heap[x8]? = some (.cells (evL kd ef bd).toArray 42 (0, 0)) by rw [eb]; exact whole_heap (evL kd ef bd) (xs := evL 0 zFr 0) N8a.out rfl)
            have G := hide (show wb.heap[w.heap.size]? = some (.cells (frc g).toArray 24 (0, 0)) by rw [eb]; exact other_heap (by omega) _ _ _ Ga.out)
            have C := hide (show wb.heap[y]? = some (.cells d.cs.toArray 33 (0, 0)) by rw [eb]; exact other_heap (by omega) _ _ _ Ca.out)
            have Q := hide (show Below w.heap.size w wb by rw [eb]; exact Qa.out.trans (below_setCells _ _ _ (by have := Qa.out.size; omega)))
            clear eb T8 N7a N8a Qa Ga Ca
            refine ⟨keepsL_all (by kernel_rfl) (by kernel_rfl), ?_⟩
            go_simp
            refine wpAnyL_one (i := 13) (by kernel_rfl) ?_
            refine wpOp_do rfl rfl ?_
            go_simp
            refine ⟨keepsL_all (by kernel_rfl) (by kernel_rfl), ?_⟩
            go_simp
            refine wpAnyL_done (by kernel_rfl) ?_ _
            go_wp2_with fail
            go_meet
            exact ⟨x7, x8, rfl, rfl, rfl, N7, N8, G, C, Q, by omega, by omega⟩
          · refine wpOp_do rfl rfl ?_
            go_simp
            have q : Below wdc.heap.size wdc (wdc.alloc (.cells zCl.cs.toArray 33)) := (Below.refl _ _).alloc (Nat.le_refl _) _
            have N7 := hide (World.alloc_heap_new wdc (.cells zCl.cs.toArray 33))
            have z7G : w.heap.size < wdc.heap.size := heap_lt G.out
            have z7C : y < wdc.heap.size := heap_lt C.out
            have z78 : x8 < wdc.heap.size := heap_lt N8.out
            replace G := hide (heap_below G.out q)
            replace C := hide (heap_below C.out q)
            replace N8 := hide (heap_below N8.out q)
            replace Q := hide (below_next Q.out Q.out.size q)
            clear q
            refine ⟨keepsL_mk (by kernel_rfl) (.cons C.out .nil), ?_⟩
            change wpAnyL _ _ _ _ _ _ _ _ _ (wdc.alloc (.cells zCl.cs.toArray 33))
            generalize wdc.alloc (.cells zCl.cs.toArray 33) = wdcb at *
            generalize wdc.heap.size = x7 at *
            go_simp
            refine wpAnyL_one (i := 4) (by kernel_rfl) ?_
            refine wpOp_do rfl rfl ?_
            go_simp
            (with_reducible refine (SA.out _).mono ?_)
            rintro ewdcba wdcba ⟨rfl, q⟩
            replace G := hide (heap_below G.out q)
            replace C := hide (heap_below C.out q)
            replace N7 := hide (heap_below N7.out q)
            replace N8 := hide (heap_below N8.out q)
            replace Q := hide (below_next Q.out Q.out.size q)
            clear q
            go_simp
            refine ⟨keepsL_all (by kernel_rfl) (by kernel_rfl), ?_⟩
            go_simp
            refine wpAnyL_pure (i := 5) (v := .tuple #[.agg (e2.cs).toArray, .agg (evL kd ef bd).toArray, .int .i64 0]) rfl rfl (by kernel_rfl) (by kernel_rfl) (by kernel_rfl) (by kernel_rfl) (by kernel_rfl) (fun _ _ _ h => h) rfl (fun W => by go_simp) ?_
            go_simp
            refine wpAnyL_pure (i := 6) (v := .agg (e2.cs).toArray) rfl rfl (by kernel_rfl) (by kernel_rfl) (by kernel_rfl) (by kernel_rfl) (by kernel_rfl) (fun _ _ _ h => h) rfl (fun W => by go_simp) ?_
            go_simp
            refine wpAnyL_pure (i := 7) (v := .agg (evL kd ef bd).toArray) rfl rfl (by kernel_rfl) (by kernel_rfl) (by kernel_rfl) (by kernel_rfl) (by kernel_rfl) (fun _ _ _ h => h) rfl (fun W => by go_simp) ?_
            go_simp
            refine wpAnyL_pure (i := 8) (v := .int .i64 0) rfl rfl (by kernel_rfl) (by kernel_rfl) (by kernel_rfl) (by kernel_rfl) (by kernel_rfl) (fun _ _ _ h => h) rfl (fun W => by go_simp) ?_
            go_simp
            have T7 := hide (show wdcba.there x7 0 23 from there_heap (cs := zCl.cs) N7.out)
            refine wpAnyL_one (i := 11) (by kernel_rfl) ?_
            refine wpOp_do rfl rfl ?_
            refine wp_store_as 33 (.tmp 10) (.tmp 69) rfl x7 0 (e2.cs) (by rfl) (by rfl) (by exact T7.out) (by kernel_rfl) (by simp [Value.oneCell', Cl.cs]) ?_
            intro wa ea
            have N7a := hide (show wa.heap[x7]? = some (.cells (e2.cs).toArray 33 (0, 0)) by rw [ea]; exact whole_heap (e2.cs) (xs := zCl.cs) N7.out rfl)
            have N8a := hide (show wa.heap[x8]? = some (.cells (evL 0 zFr 0).toArray 42 (0, 0)) by rw [ea]; exact other_heap (by omega) _ _ _ N8.out)
            have Ga := hide (show wa.heap[w.heap.size]? = some (.cells (frc g).toArray 24 (0, 0)) by rw [ea]; exact other_heap (by omega) _ _ _ G.out)
            have Ca := hide (show wa.heap[y]? = some (.cells d.cs.toArray 33 (0, 0)) by rw [ea]; exact other_heap (by omega) _ _ _ C.out)
            have Qa := hide (show Below w.heap.size w wa by rw [ea]; exact Q.out.trans (below_setCells _ _ _ (by have := Q.out.size; omega)))
            clear ea T7 N7 N8 Q G C
            refine ⟨keepsL_all (by kernel_rfl) (by kernel_rfl), ?_⟩
            go_simp
            have T8 := hide (show wa.there x8 0 7 from there_heap (cs := evL 0 zFr 0) N8a.out)
            refine wpAnyL_one (i := 12) (by kernel_rfl) ?_
            refine wpOp_do rfl rfl ?_
            refine wp_store_as 42 (.tmp 11) (.tmp 70) rfl x8 0 (evL kd ef bd) (by rfl) (by rfl) (by exact T8.out) (by kernel_rfl) (by simp [Value.oneCell', evL]) ?_
            intro wb eb
            have N7 := hide (show wb.heap[x7]? = some (.cells (e2.cs).toArray 33 (0, 0)) by rw [eb]; exact other_heap (by omega) _ _ _ N7a.out)
            have N8 := hide (show wb.heap[x8]? = some (.cells (evL kd ef bd).toArray 42 (0, 0)) by rw [eb]; exact whole_heap (evL kd ef bd) (xs := evL 0 zFr 0) N8a.out rfl)
            have G := hide (show wb.heap[w.heap.size]? = some (.cells (frc g).toArray 24 (0, 0)) by rw [eb]; exact other_heap (by omega) _ _ _ Ga.out)
            have C := hide (show wb.heap[y]? = some (.cells d.cs.toArray 33 (0, 0)) by rw [eb]; exact other_heap (by omega) _ _ _ Ca.out)
            have Q := hide (show Below w.heap.size w wb by rw [eb]; exact Qa.out.trans (below_setCells _ _ _ (by have := Qa.out.size; omega)))
            clear eb T8 N7a N8a Qa Ga Ca
            refine ⟨keepsL_all (by kernel_rfl) (by kernel_rfl), ?_⟩
            go_simp
            refine wpAnyL_one (i := 13) (by kernel_rfl) ?_
            refine wpOp_do rfl rfl ?_
            go_simp
            refine ⟨keepsL_all (by kernel_rfl) (by kernel_rfl), ?_⟩
            go_simp
            refine wpAnyL_done (by kernel_rfl) ?_ _
            go_wp2_with fail
            go_meet
            exact ⟨x7, x8, rfl, rfl, rfl, N7, N8, G, C, Q, by omega, by omega⟩
      case rest =>
      clear G C Q SA
      obtain ⟨x7, x8, rfl, rfl, rfl, N7, N8, G, C, Q, y7, b7⟩ := hcut
      go_upto_region 16 with fail
      go_cut [84] (fun v W => v = .bool false ∧ W = wc)
      case first =>
        obtain ⟨v0, v1, v2, v3, v4, v5, -⟩ := ev_cells N8.out
        obtain ⟨g0', g1', g2', g3', g4'⟩ := frCells G.out
        have hneI := HST.out.2
        clear HST STEP N7 N8 G C Q
        by_cases h2 : kd = 2
        · subst h2
          have hneJ := hide (fun (a : ef.id = g.id) (b : ef.ext = g.ext) (c : ef.rem = g.rem) (d : ef.dlc = g.dlc) (e : ef.data.toList = g.data.toList) => hneI rfl (by
            obtain ⟨a1, a2, a3, a4, a5⟩ := ef
            obtain ⟨b1, b2, b3, b4, b5⟩ := g
            dsimp only at a b c d e
            rw [Lib.toList_data, Lib.toList_data] at e
            have e2 : a5 = b5 := by rw [ByteArray.ext_iff, ← Array.toList_inj]; exact e
            rw [a, b, c, d, e2]))
          clear hneI
          go_wp2_with fail
          all_goals first
            | (go_meet; exact ⟨rfl, rfl⟩)
            | exact absurd (hneJ.out (by omega) (by assumption) (by assumption) (by assumption) (by assumption)) (fun h => h)
        · have hb2 : (kd == 2) = false := by simpa using h2
          clear h2 hneI
          go_wp2_with fail
          go_meet
          exact ⟨rfl, rfl⟩
      case rest =>
      rename_i hK2 _ hK
      obtain ⟨rfl, rfl⟩ := hcut
      refine hK _ _ ?_
      refine wp_cond_false (by rfl) (wp_skip ?_)
      refine hK2 _ _ ?_
      clear hK hK2 N8
      have Tw10' := hide (show World.there _ y 0 23 from there_heap (cs := d.cs) C.out)
      go_wp2_with (first | (refine wpList_load_row rfl 33 (.tmp 10) (by rfl) x7 (by rfl) 33 e2.cs.toArray (0, 0) _ (by exact N7.out) Tryd.underlying33 (by rfl) (by kernel_rfl) ?_) | (refine wpList_store_hid (by rfl) 33 (.tmp 7) (.tmp 85) (by rfl) y 0 e2.cs (by rfl) (by rfl) (by exact Tw10'.out) (by kernel_rfl) (by simp [Value.oneCell', Cl.cs]) ?_))
      intro w10' ew10'
      replace G := hide (show w10'.heap[w.heap.size]? = some (.cells (frc g).toArray 24 (0, 0)) by rw [ew10'.out]; exact other_heap (by omega) _ _ _ G.out)
      replace N7 := hide (show w10'.heap[x7]? = some (.cells e2.cs.toArray 33 (0, 0)) by rw [ew10'.out]; exact other_heap (by omega) _ _ _ N7.out)
      replace Q := hide (show Below w.heap.size w w10' by rw [ew10'.out]; exact Q.out.trans (below_setCells _ _ _ (by have := Q.out.size; omega)))
      replace C := hide (show w10'.heap[y]? = some (.cells e2.cs.toArray 33 (0, 0)) by rw [ew10'.out]; exact whole_heap e2.cs (xs := d.cs) C.out rfl)
      clear ew10' Tw10'
      go_wp2_with fail
      go_roundw
      case rel => exact ⟨k + 1, by omega, by go_num, e2, hok2, hide HST.out.1, G, C, Q, heap_lt C.out⟩
      case measure => simp [intOf]; omega
    · obtain rfl : k = VS.size := by omega
      go_wp2_with fail
      go_ret
      exact ⟨rfl, Q.out⟩
end Go.Proofs.YtpfbobcilphncaaDoor
