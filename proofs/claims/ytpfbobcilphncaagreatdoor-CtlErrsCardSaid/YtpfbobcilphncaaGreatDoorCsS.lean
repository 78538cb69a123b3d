/- The walk of campanilelaw07.CtlSends. -/
import Derived.Test.YtpfbobcilphncaaGreatDoorCsM
import Derived.Test.YtpfbobcilphncaaGreatDoorMgRdR
import Derived.Test.YtpfbobcilphncaaGreatDoorMgCsLP
namespace Go.Proofs.YtpfbobcilphncaaGreatDoor
open Go.ChangeShapes Go.WideShapes Go.ChangeAt Go.RowKit
open FP (Fr bitsF bodyF)

theorem idle_q : idleC.Q := ⟨rfl, rfl, (fun e => by cases e), fun _ => rfl, ⟨rfl, rfl, rfl, rfl, rfl, rfl, rfl, rfl, rfl⟩, .inr ⟨rfl, rfl⟩⟩
theorem give_ok {c : Cl} (h : c.Ok) (h1 : c.st = 1) {f : Fr} (hf : FP.rightB f = true) : (c.give f).Ok := ⟨h.cnt, h.offs, fun _ => hf, (fun e => by cases e), h.s0, h.s8, h.n0, h.n9, h.n5, fun e => h.out e, fun e => absurd (h1.symm.trans e) (by decide)⟩
theorem ev_cells {W : World} {x : Nat} {k : Int} {f : Fr} {bad : Int} {t : TypeId} {fz : Nat × Nat} (h : W.heap[x]? = some (.cells (evL k f bad).toArray t fz)) :
    W.cell? ⟨x, 0, none⟩ = some (.int .i64 k) ∧ W.cell? ⟨x, 1, none⟩ = some (.int .u32 f.id) ∧ W.cell? ⟨x, 2, none⟩ = some (.bool f.ext) ∧ W.cell? ⟨x, 3, none⟩ = some (.bool f.rem) ∧ W.cell? ⟨x, 4, none⟩ = some (.int .i64 f.dlc) ∧ W.cell? ⟨x, 5, none⟩ = some (.string f.data) ∧ W.cell? ⟨x, 6, none⟩ = some (.int .i64 bad) := by
  simp [World.cell?, h, evL]

set_option maxRecDepth 100000 in
set_option maxHeartbeats 32000000 in
theorem ctlSends_walk (f : Fr) (w : World) (hid : f.id < 4294967296) (hs : f.data.size ≤ maxLen) : Calls Tryz.prog 4 #[.agg (frc f).toArray] w fun e w' => e = .returned (.bool true) ∧ Below w.heap.size w w' := by
  obtain ⟨w0, hw0⟩ : ∃ w0, w0 = w.alloc (.cells (frc f).toArray 24) := ⟨_, rfl⟩
  have B0 := hide (World.alloc_heap_new w (.cells (frc f).toArray 24))
  have Q0 : Hid (Below w.heap.size w w0) := by rw [hw0]; exact hide ((Below.refl _ _).alloc (Nat.le_refl _) _)
  rw [← hw0] at B0
  have FW := hide (few07_any f w0 hs)
  clear hs
  go_enter Tryz.func4, Tryz.ntmps4
  go_upto_region 1 with fail
  change Code.wp _ _ _ _ (w.alloc (.cells (frc f).toArray 24))
  rw [← hw0]
  clear hw0
  go_wp2_with (refine wpList_load_row rfl 24 (.tmp 1) (by rfl) w.heap.size (by rfl) 24 (frc f).toArray (0, 0) _ (by exact B0.out) Tryz.underlying24 (by rfl) (by kernel_rfl) ?_)
  (with_reducible refine (FW.out).mono ?_)
  rintro e1 w1 ⟨rfl, q1⟩
  have B1 := hide (heap_below B0.out q1)
  have Q1 := hide (below_next Q0.out Q0.out.size q1)
  have TH := hide (show w1.there w.heap.size 0 5 from there_heap (cs := frc f) B1.out)
  have hid2 : (cut7 f).id < 4294967296 := hid
  clear q1 B0 Q0 FW hid
  generalize cut7 f = g at *
  go_wp2_with (refine wpList_store_hid (by rfl) 24 (.tmp 1) (.tmp 14) (by rfl) w.heap.size 0 (frc g) (by rfl) (by rfl) (by exact TH.out) (by kernel_rfl) (by simp [Value.oneCell', frc]) ?_)
  intro w2 e2
  have G2 := hide (show w2.heap[w.heap.size]? = some (.cells (frc g).toArray 24 (0, 0)) by rw [e2.out]; exact whole_heap (frc g) (xs := frc f) B1.out rfl)
  have Q2 := hide (show Below w.heap.size w w2 by rw [e2.out]; exact Q1.out.trans (below_setCells _ _ _ (Nat.le_refl _)))
  clear e2 TH B1 Q1
  have RY := hide (ready_any w2)
  obtain ⟨c0, hc0⟩ : ∃ c0, c0 = idleC := ⟨_, rfl⟩
  rw [← hc0] at RY
  have HC0 := hide hc0
  clear hc0
  go_wp2_with fail
  (with_reducible refine (RY.out).mono ?_)
  rintro e3 w3 ⟨rfl, q3⟩
  have qa : Below w3.heap.size w3 (w3.alloc (.cells zCl.cs.toArray 31)) := (Below.refl _ _).alloc (Nat.le_refl _) _
  have G3 := hide (heap_below (heap_below G2.out q3) qa)
  have C3 := hide (World.alloc_heap_new w3 (.cells zCl.cs.toArray 31))
  have Q3 := hide (below_next (below_next Q2.out Q2.out.size q3) (below_next Q2.out Q2.out.size q3).size qa)
  have z3 : w.heap.size < w3.heap.size := heap_lt (heap_below G2.out q3)
  have T3 := hide (show (w3.alloc (.cells zCl.cs.toArray 31)).there w3.heap.size 0 23 from there_heap (cs := zCl.cs) C3.out)
  obtain ⟨y, hy⟩ : ∃ y, y = w3.heap.size := ⟨_, rfl⟩
  clear q3 qa G2 Q2 RY
  go_wp2_with (refine wpList_store_hid (by rfl) 31 (.tmp 3) (.tmp 17) (by rfl) w3.heap.size 0 c0.cs (by rfl) (by rfl) (by exact T3.out) (by kernel_rfl) (by simp [Value.oneCell', Cl.cs]) ?_)
  intro w4 e4
  have C4 := hide (show w4.heap[w3.heap.size]? = some (.cells c0.cs.toArray 31 (0, 0)) by rw [e4.out]; exact whole_heap c0.cs (xs := zCl.cs) C3.out rfl)
  have G4 := hide (show w4.heap[w.heap.size]? = some (.cells (frc g).toArray 24 (0, 0)) by rw [e4.out]; exact other_heap (by omega) _ _ _ G3.out)
  have Q4 := hide (show Below w.heap.size w w4 by rw [e4.out]; exact Q3.out.trans (below_setCells _ _ _ (by omega)))
  clear e4 T3 C3 G3 Q3
  rw [← hy] at C4 z3
  have SU := hide (show Calls Tryz.prog 8 #[.agg c0.cs.toArray, .agg (frc g).toArray] w4 _ from ctlSubmit_q c0 g w4 (by rw [HC0.out]; exact idle_q) (by rw [HC0.out]; rfl) hid2)
  simp only [← hy]
  clear hy
  go_wp2_with (first | (refine wpList_load_row rfl 31 (.tmp 3) (by rfl) y (by rfl) 31 c0.cs.toArray (0, 0) _ (by exact C4.out) Tryz.underlying31 (by rfl) (by kernel_rfl) ?_) | (refine wpList_load_row rfl 24 (.tmp 1) (by rfl) w.heap.size (by rfl) 24 (frc g).toArray (0, 0) _ (by exact G4.out) Tryz.underlying24 (by rfl) (by kernel_rfl) ?_))
  (with_reducible refine (SU.out).mono ?_)
  rintro e5 w5 ⟨hsub, q5⟩
  have C5 := hide (heap_below C4.out q5)
  have G5 := hide (heap_below G4.out q5)
  have Q5 := hide (below_next Q4.out Q4.out.size q5)
  have T5 := hide (show w5.there y 0 23 from there_heap (cs := c0.cs) C5.out)
  have RR := hide (fun W => show Calls Tryz.prog 10 #[.agg (frc g).toArray] W fun e w' => e = .returned (.bool (FP.rightB g)) ∧ Below W.heap.size W w' from refRight04_any g W hid2)
  have AL := hide (fun W => alive07_any W)
  clear q5 C4 G4 Q4 SU
  rcases hsub with ⟨hr, rfl⟩ | ⟨hr, rfl⟩
  case inr =>
    rw [hr] at RR
    go_wp2_with (refine wpList_store_hid (by rfl) 31 (.tmp 3) (.tmp 23) (by rfl) y 0 zCl.cs (by rfl) (by rfl) (by exact T5.out) (by kernel_rfl) (by simp [Value.oneCell', Cl.cs]) ?_)
    intro w6 e6
    have G6 := hide (show w6.heap[w.heap.size]? = some (.cells (frc g).toArray 24 (0, 0)) by rw [e6.out]; exact other_heap (by omega) _ _ _ G5.out)
    have Q6 := hide (show Below w.heap.size w w6 by rw [e6.out]; exact Q5.out.trans (below_setCells _ _ _ (by omega)))
    clear e6 T5 C5 G5 Q5
    go_wp2_with (refine wpList_load_row rfl 24 (.tmp 1) (by rfl) w.heap.size (by rfl) 24 (frc g).toArray (0, 0) _ (by exact G6.out) Tryz.underlying24 (by rfl) (by kernel_rfl) ?_)
    (with_reducible refine (RR.out _).mono ?_)
    rintro e7 w7 ⟨rfl, q7⟩
    have Q7 := hide (below_next Q6.out Q6.out.size q7)
    clear q7 G6 Q6
    go_wp2_with fail
    (with_reducible refine (AL.out _).mono ?_)
    rintro e8 w8 ⟨rfl, q8⟩
    have Q8 := hide (below_next Q7.out Q7.out.size q8)
    go_wp2_with fail
    go_ret
    exact ⟨rfl, Q8.out⟩
  case inl =>
  rw [hr] at RR
  obtain ⟨gc, hgc⟩ : ∃ gc, gc = c0.give g := ⟨_, rfl⟩
  rw [← hgc]
  have HG := hide (show gc.Ok ∧ gc.st = 1 ∧ gc.has = true ∧ gc.f = g ∧ gc.tc = 0 ∧ gc.rc = 0 by rw [hgc, HC0.out]; exact ⟨give_ok idle_ok rfl hr, rfl, rfl, rfl, rfl, rfl⟩)
  clear hgc
  go_wp2_with (refine wpList_store_hid (by rfl) 31 (.tmp 3) (.tmp 23) (by rfl) y 0 gc.cs (by rfl) (by rfl) (by exact T5.out) (by kernel_rfl) (by simp [Value.oneCell', Cl.cs]) ?_)
  intro w6 e6
  have C6 := hide (show w6.heap[y]? = some (.cells gc.cs.toArray 31 (0, 0)) by rw [e6.out]; exact whole_heap gc.cs (xs := c0.cs) C5.out rfl)
  have G6 := hide (show w6.heap[w.heap.size]? = some (.cells (frc g).toArray 24 (0, 0)) by rw [e6.out]; exact other_heap (by omega) _ _ _ G5.out)
  have Q6 := hide (show Below w.heap.size w w6 by rw [e6.out]; exact Q5.out.trans (below_setCells _ _ _ (by omega)))
  clear e6 T5 C5 G5 Q5
  go_wp2_with (refine wpList_load_row rfl 24 (.tmp 1) (by rfl) w.heap.size (by rfl) 24 (frc g).toArray (0, 0) _ (by exact G6.out) Tryz.underlying24 (by rfl) (by kernel_rfl) ?_)
  (with_reducible refine (RR.out _).mono ?_)
  rintro e7 w7 ⟨rfl, q7⟩
  have C7 := hide (heap_below C6.out q7)
  have G7 := hide (heap_below G6.out q7)
  have Q7 := hide (below_next Q6.out Q6.out.size q7)
  have RB := hide (fun W => show Calls Tryz.prog 11 #[.agg (frc g).toArray] W fun e w' => e = .returned (.string ⟨(bitsF g).toArray⟩) ∧ Below W.heap.size W w' from refBits_any g W hr)
  obtain ⟨S, hS⟩ : ∃ S : ByteArray, S = ⟨(bitsF g).toArray⟩ := ⟨_, rfl⟩
  rw [← hS] at RB
  have HSL := hide (show S.data.toList = bitsF g by rw [hS])
  clear q7 C6 G6 Q6 RR hS
  go_wp2_with (refine wpList_load_row rfl 24 (.tmp 1) (by rfl) w.heap.size (by rfl) 24 (frc g).toArray (0, 0) _ (by exact G7.out) Tryz.underlying24 (by rfl) (by kernel_rfl) ?_)
  (with_reducible refine (RB.out _).mono ?_)
  rintro e8 w8 ⟨rfl, q8⟩
  have C8 := hide (heap_below C7.out q8)
  have G8 := hide (heap_below G7.out q8)
  have Q8 := hide (below_next Q7.out Q7.out.size q8)
  clear q8 C7 G7 Q7 RB
  go_wp2_with fail
  (with_reducible refine (AL.out _).mono ?_)
  rintro e9 w9 ⟨rfl, q9⟩
  have C9 := hide (heap_below C8.out q9)
  have G9 := hide (heap_below G8.out q9)
  have Q9 := hide (below_next Q8.out Q8.out.size q9)
  clear q9 C8 G8 Q8 AL
  have hsz : S.size = (bitsF g).length := by rw [← HSL.out]; exact Array.length_toList.symm
  have hn : S.size = (bodyF g).length + 10 := by rw [hsz]; exact FP.body_len g
  have hn2 : S.size ≤ 157 := by have := FP.body_le hr; omega
  have hn3 : 44 ≤ S.size := by have := FP.body_ge hr; omega
  have STEP := hide (fun (i : Nat) (hi : i < S.size) => show (sndS gc g i).Ok ∧ (S[i] = 48 ∨ S[i] = 49) ∧ (sndS gc g i).drv = S[i] ∧ (sndS gc g i).samp (busB g i S[i]) = ⟨sndS gc g (i + 1), if i + 1 = S.size then 1 else 0, if i + 1 = S.size then g else zFr, 0⟩ from by
    have hg : (bitsF g)[i]? = some S[i] := by rw [← HSL.out]; exact get_some S i hi
    obtain ⟨b, hb, hbit⟩ := bits_some g (i := i) (by omega)
    have hb2 : b = S[i] := by rw [hg] at hb; exact (Option.some.inj hb).symm
    have st := snd_step hr HG.out.2.1 HG.out.2.2.1 HG.out.2.2.2.1 (i := i) (by omega) hg
    rw [← hsz] at st
    exact ⟨snd_ok HG.out.1 hr HG.out.2.1 HG.out.2.2.1 HG.out.2.2.2.1 i (by omega), by rw [← hb2]; exact hbit, st.1, st.2⟩)
  have END := hide (show (sndS gc g S.size).has = false ∧ (sndS gc g S.size).st = 6 ∧ (sndS gc g S.size).tc = 0 ∧ (sndS gc g S.size).rc = 0 ∧ (sndS gc g S.size).off = false ∧ (sndS gc g S.size).rs = 0 by rw [hsz]; exact snd_end HG.out.1 HG.out.2.1 HG.out.2.2.2.2.1 HG.out.2.2.2.2.2)
  have HBB := hide (fun i (b : UInt8) => show busB g i b = if i = S.size - 9 then 48 else b from by unfold busB; rw [show (bodyF g).length + 1 = S.size - 9 by omega])
  have C9' := hide (show w9.heap[y]? = some (.cells (sndS gc g 0).cs.toArray 31 (0, 0)) from C9.out)
  clear hsz hn hr C9 HG HC0 HSL
  go_wp2_with fail
  go_loopw [47] (fun vi W => ∃ k : Nat, k ≤ S.size ∧ vi = .int .i64 k ∧ Hid (W.heap[y]? = some (.cells (sndS gc g k).cs.toArray 31 (0, 0))) ∧ Hid (W.heap[w.heap.size]? = some (.cells (frc g).toArray 24 (0, 0))) ∧ Hid (Below w.heap.size w W)) (fun vi _ => S.size - (intOf vi).toNat)
  case atStart => exact ⟨0, Nat.zero_le _, rfl, C9', G9, Q9⟩
  case round =>
    clear C9' G9 Q9
    obtain ⟨k, hk, rfl, C, G, Q⟩ := hrel
    by_cases hlt : k < S.size
    · obtain ⟨hok, hbit, hdrv, hsamp⟩ := STEP.out k hlt
      have HOK := hide hok
      have DR := hide (fun W => hdrv ▸ ctlDrive_ok (sndS gc g k) W hok)
      have hbb := HBB.out k S[k]
      obtain ⟨bt, hbt⟩ : ∃ bt, bt = busB g k S[k] := ⟨_, rfl⟩
      have hbtb : bt = 48 ∨ bt = 49 := by rw [hbt]; exact busB_bit hbit
      have SA := hide (fun W => ctlSample_ok (sndS gc g k) bt hbtb W hok)
      rw [← hbt] at hsamp hbb
      rw [hsamp] at SA
      obtain ⟨kd, hkd⟩ : ∃ kd : Int, kd = if k + 1 = S.size then 1 else 0 := ⟨_, rfl⟩
      obtain ⟨ef, hef⟩ : ∃ ef, ef = if k + 1 = S.size then g else zFr := ⟨_, rfl⟩
      rw [← hkd, ← hef] at SA
      have HKD := hide hkd
      have HEF := hide hef
      have HBT := hide hbb
      generalize hdk : sndS gc g k = d at *
      obtain ⟨d2, hd2⟩ : ∃ d2, d2 = sndS gc g (k + 1) := ⟨_, rfl⟩
      rw [← hd2] at SA
      have HD2 := hide hd2
      clear hok hbit hdrv hsamp hkd hef hbb hbt hbtb hdk hd2
      have hki : (k : Int) < (S.size : Int) := by omega
      go_wp2_with (refine wpList_load_row rfl 31 (.tmp 3) (by rfl) y (by rfl) 31 d.cs.toArray (0, 0) _ (by exact C.out) Tryz.underlying31 (by rfl) (by kernel_rfl) ?_)
      (with_reducible refine (DR.out _).mono ?_)
      rintro e10 w10 ⟨rfl, q10⟩
      have C10 := hide (heap_below C.out q10)
      have G10 := hide (heap_below G.out q10)
      have Q10 := hide (below_next Q.out Q.out.size q10)
      clear q10 C G Q DR
      go_upto_if 68 with fail
      go_cut [8, 68] (fun v _ W => v = .int .u8 bt.toNat ∧ W = w10)
      case first =>
        have hb2 := HBT.out
        clear HBT SA HKD HEF HD2 C10 G10 Q10 HOK END STEP HBB
        by_cases h9 : k = S.size - 9
        · rw [if_pos h9] at hb2
          subst hb2
          have hq : ((k : Int) == (S.size : Int) - 9) = true := by rw [beq_iff_eq]; omega
          clear h9
          rw [hq]
          go_wp2_with fail
          go_meet
          exact ⟨rfl, rfl⟩
        · rw [if_neg h9] at hb2
          subst hb2
          have hq : ((k : Int) == (S.size : Int) - 9) = false := by rw [beq_eq_false_iff_ne]; omega
          clear h9
          rw [hq]
          go_wp2_with fail
          go_meet
          exact ⟨rfl, rfl⟩
      case rest =>
      obtain ⟨rfl, rfl⟩ := hcut
      go_wp2_with (refine wpList_load_row rfl 31 (.tmp 3) (by rfl) y (by rfl) 31 d.cs.toArray (0, 0) _ (by exact C10.out) Tryz.underlying31 (by rfl) (by kernel_rfl) ?_)
      (with_reducible refine (SA.out _).mono ?_)
      rintro e11 w11 ⟨rfl, q11⟩
      have C11 := hide (heap_below C10.out q11)
      have G11 := hide (heap_below G10.out q11)
      have Q11 := hide (below_next Q10.out Q10.out.size q11)
      clear q11 C10 G10 Q10 SA HBT
      have q12 : Below w11.heap.size w11 ((w11.alloc (.cells zCl.cs.toArray 31)).alloc (.cells (evL 0 zFr 0).toArray 41)) := ((Below.refl _ _).alloc (Nat.le_refl _) _).alloc (by simp) _
      have Y12 := heap_below (World.alloc_heap_new w11 (.cells zCl.cs.toArray 31)) ((Below.refl _ _).alloc (Nat.le_refl _) (.cells (evL 0 zFr 0).toArray 41))
      have V12 := World.alloc_heap_new (w11.alloc (.cells zCl.cs.toArray 31)) (.cells (evL 0 zFr 0).toArray 41)
      simp only [World.size_alloc] at V12
      have zy : y < w11.heap.size := heap_lt C11.out
      have zw : w.heap.size < w11.heap.size := heap_lt G11.out
      have C12 := hide (heap_below C11.out q12)
      have G12 := hide (heap_below G11.out q12)
      have Q12 := hide (below_next Q11.out Q11.out.size q12)
      have TH := hide (show ((w11.alloc (.cells zCl.cs.toArray 31)).alloc (.cells (evL 0 zFr 0).toArray 41)).there w11.heap.size 0 23 from there_heap (cs := zCl.cs) Y12)
      clear q12 C11 G11 Q11
      obtain ⟨wx, hwx⟩ : ∃ wx, wx = (w11.alloc (.cells zCl.cs.toArray 31)).alloc (.cells (evL 0 zFr 0).toArray 41) := ⟨_, rfl⟩
      rw [← hwx] at C12 G12 Y12 V12 Q12
      go_wp2_with (refine wpList_store_hid (by rfl) 31 (.tmp 10) (.tmp 73) (by rfl) w11.heap.size 0 d2.cs (by rfl) (by rfl) (by exact TH.out) (by kernel_rfl) (by simp [Value.oneCell', Cl.cs]) ?_)
      intro w13 e13
      have e13' : w13 = wx.setCells w11.heap.size 0 d2.cs := by rw [hwx]; exact e13.out
      have C13 := hide (show w13.heap[y]? = some (.cells d.cs.toArray 31 (0, 0)) by rw [e13']; exact other_heap (by omega) _ _ _ C12.out)
      have G13 := hide (show w13.heap[w.heap.size]? = some (.cells (frc g).toArray 24 (0, 0)) by rw [e13']; exact other_heap (by omega) _ _ _ G12.out)
      have Y13 := hide (show w13.heap[w11.heap.size]? = some (.cells d2.cs.toArray 31 (0, 0)) by rw [e13']; exact whole_heap d2.cs (xs := zCl.cs) Y12 rfl)
      have V13 := hide (show w13.heap[w11.heap.size + 1]? = some (.cells (evL 0 zFr 0).toArray 41 (0, 0)) by rw [e13']; exact other_heap (by omega) _ _ _ V12)
      have Q13 := hide (show Below w.heap.size w w13 by rw [e13']; exact Q12.out.trans (below_setCells _ _ _ (by omega)))
      clear e13 e13' TH C12 G12 Q12 Y12 V12 hwx
      have TV := hide (show w13.there (w11.heap.size + 1) 0 7 from there_heap (cs := evL 0 zFr 0) V13.out)
      go_wp2_with (refine wpList_store_hid (by rfl) 41 (.tmp 11) (.tmp 74) (by rfl) (w11.heap.size + 1) 0 (evL kd ef 0) (by rfl) (by rfl) (by exact TV.out) (by kernel_rfl) (by simp [Value.oneCell', evL]) ?_)
      intro w14 e14
      have C14 := hide (show w14.heap[y]? = some (.cells d.cs.toArray 31 (0, 0)) by rw [e14.out]; exact other_heap (by omega) _ _ _ C13.out)
      have G14 := hide (show w14.heap[w.heap.size]? = some (.cells (frc g).toArray 24 (0, 0)) by rw [e14.out]; exact other_heap (by omega) _ _ _ G13.out)
      have Y14 := hide (show w14.heap[w11.heap.size]? = some (.cells d2.cs.toArray 31 (0, 0)) by rw [e14.out]; exact other_heap (by omega) _ _ _ Y13.out)
      have V14 := hide (show w14.heap[w11.heap.size + 1]? = some (.cells (evL kd ef 0).toArray 41 (0, 0)) by rw [e14.out]; exact whole_heap (evL kd ef 0) (xs := evL 0 zFr 0) V13.out rfl)
      have Q14 := hide (show Below w.heap.size w w14 by rw [e14.out]; exact Q13.out.trans (below_setCells _ _ _ (by omega)))
      clear e14 TV C13 G13 Y13 V13 Q13
      generalize w11.heap.size = x at *
      go_upto_region 18 with fail
      go_cut [104] (fun v W => v = .bool false ∧ W = w14)
      case first =>
        obtain ⟨v0, v1, v2, v3, v4, v5, -⟩ := ev_cells V14.out
        obtain ⟨g0, g1, g2, g3, g4⟩ := frCells G14.out
        have hk2 := HKD.out
        have he2 := HEF.out
        clear HKD HEF HD2 C14 G14 Y14 V14 Q14 HOK END STEP HBB
        by_cases hl : k + 1 = S.size
        · rw [if_pos hl] at hk2 he2
          subst hk2
          subst he2
          have hq : ((k : Int) == (S.size : Int) - 1) = true := by rw [beq_iff_eq]; omega
          clear hl
          go_wp2_with fail
          go_meet
          exact ⟨rfl, rfl⟩
        · rw [if_neg hl] at hk2 he2
          subst hk2
          subst he2
          have hq : ((k : Int) == (S.size : Int) - 1) = false := by rw [beq_eq_false_iff_ne]; omega
          clear hl
          go_wp2_with fail
          go_meet
          exact ⟨rfl, rfl⟩
      case rest =>
      rename_i hK2 _ hK
      obtain ⟨rfl, rfl⟩ := hcut
      refine hK _ _ ?_
      refine wp_cond_false (by rfl) (wp_skip ?_)
      refine hK2 _ _ ?_
      clear hK hK2
      have TB := hide (show wc.there y 0 23 from there_heap (cs := d.cs) C14.out)
      go_wp2_with (first | (refine wpList_load_row rfl 31 (.tmp 10) (by rfl) x (by rfl) 31 d2.cs.toArray (0, 0) _ (by exact Y14.out) Tryz.underlying31 (by rfl) (by kernel_rfl) ?_) | (refine wpList_store_hid (by rfl) 31 (.tmp 3) (.tmp 105) (by rfl) y 0 d2.cs (by rfl) (by rfl) (by exact TB.out) (by kernel_rfl) (by simp [Value.oneCell', Cl.cs]) ?_))
      intro w15 e15
      have C15 := hide (show w15.heap[y]? = some (.cells (sndS gc g (k + 1)).cs.toArray 31 (0, 0)) by rw [e15.out, ← HD2.out]; exact whole_heap d2.cs (xs := d.cs) C14.out rfl)
      have G15 := hide (show w15.heap[w.heap.size]? = some (.cells (frc g).toArray 24 (0, 0)) by rw [e15.out]; exact other_heap (by omega) _ _ _ G14.out)
      have Q15 := hide (show Below w.heap.size w w15 by rw [e15.out]; exact Q14.out.trans (below_setCells _ _ _ (by omega)))
      clear e15 TB C14 G14 Y14 V14 Q14
      go_wp2_with fail
      go_roundw
      case rel => exact ⟨k + 1, by omega, by go_num, C15, G15, Q15⟩
      case measure => simp [intOf]; omega
    · obtain rfl : k = S.size := by omega
      obtain ⟨E1, E2, E3, E4, E5, E6⟩ := END.out
      generalize sndS gc g S.size = d at *
      obtain ⟨⟨c0', c1', c2', c3'⟩, ⟨c4', -, -, -, c8'⟩, -⟩ := cl_cells C.out
      rw [E3] at c0'
      rw [E4] at c1'
      rw [E5] at c2'
      rw [E6] at c3'
      rw [E2] at c4'
      rw [E1] at c8'
      clear E1 E2 E3 E4 E5 E6 END STEP HBB C G
      go_wp2_with fail
      go_ret
      exact ⟨rfl, Q.out⟩
end Go.Proofs.YtpfbobcilphncaaGreatDoor
