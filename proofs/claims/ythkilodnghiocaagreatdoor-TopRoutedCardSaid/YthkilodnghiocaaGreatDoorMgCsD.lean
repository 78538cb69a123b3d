/- The walk of ctl.Right, of a controller that may be. -/
import Derived.Test.YthkilodnghiocaaGreatDoorCsC
import Derived.Deep.CutBlock
import Derived.Test.YthkilodnghiocaaGreatDoorMgRdD
import Derived.Test.YthkilodnghiocaaGreatDoorMgFbA
namespace Go.Proofs.YthkilodnghiocaaGreatDoor
open Go.ChangeShapes Go.WideShapes Go.ChangeAt Go.RowKit
open FP (Fr)
set_option maxRecDepth 100000 in
set_option maxHeartbeats 16000000 in
theorem ctlRight_ok (c : Cl) (w : World) (h : c.Ok) : Calls Tryz.prog 34 #[.agg c.cs.toArray] w fun e w' => e = .returned (.bool true) ∧ Below w.heap.size w w' := by
  have CN := hide (fun W => (show cntB c.tc c.rc (c.st == 8) c.rs = true by rw [← h.offs]; exact h.cnt) ▸ cntRight_any c.tc c.rc (c.st == 8) c.rs W)
  have OFF := hide h.offs
  have HAS := hide h.has
  have HASN := hide h.hasn
  have INN := hide (fun (e : c.st = 2) W => ctlIn_ok c W (h.inn e) h.has)
  have OUT := hide (fun (e : c.st ≠ 2) W => ctlOut_ok c W (h.out e))
  have ST := hide (show 0 ≤ c.st ∧ c.st ≤ 8 ∧ 0 ≤ c.n ∧ c.n ≤ topN c.st ∧ (c.st = 5 → 1 ≤ c.n) from ⟨h.s0, h.s8, h.n0, h.n9, h.n5⟩)
  clear h
  obtain ⟨w0, hw0⟩ : ∃ w0, w0 = w.alloc (.cells c.cs.toArray 73) := ⟨_, rfl⟩
  have B0 := hide (World.alloc_heap_new w (.cells c.cs.toArray 73))
  have Q0 : Hid (Below w.heap.size w w0) := by rw [hw0]; exact hide ((Below.refl _ _).alloc (Nat.le_refl _) _)
  rw [← hw0] at B0
  obtain ⟨-, ⟨c4, c5, -⟩, -⟩ := cl_cells B0.out
  go_enter Tryz.func34, Tryz.ntmps34
  go_upto_region 2 with fail
  change Code.wp _ _ _ _ (w.alloc (.cells c.cs.toArray 73))
  rw [← hw0]
  clear hw0
  go_upto_block 0 with fail
  go_cut [3, 4] from 5 (fun a b W => ∃ least top : Int, a = .int .i64 least ∧ b = .int .i64 top ∧ Hid (least ≤ c.n ∧ c.n ≤ top) ∧ W = w0)
  case first =>
    obtain ⟨s0, s8, n0, n9, n5⟩ := ST.out
    clear B0 Q0 c5 ST INN OUT CN OFF HAS HASN
    obtain ⟨s, hs⟩ : ∃ s, s = c.st := ⟨_, rfl⟩
    rw [← hs] at c4 s0 s8 n9 n5 ⊢
    clear hs
    obtain rfl | rfl | rfl | rfl | rfl | rfl | rfl | rfl | rfl : s = 0 ∨ s = 1 ∨ s = 2 ∨ s = 3 ∨ s = 4 ∨ s = 5 ∨ s = 6 ∨ s = 7 ∨ s = 8 := by omega
    · have F := hide (show (0 : Int) ≤ c.n ∧ c.n ≤ 10 from ⟨n0, n9⟩)
      clear c4 n0 n9 n5
      go_wp2_with fail
      go_meet
      exact ⟨_, _, rfl, rfl, F, rfl⟩
    · have F := hide (show (0 : Int) ≤ c.n ∧ c.n ≤ 0 from ⟨n0, n9⟩)
      clear c4 n0 n9 n5
      go_wp2_with fail
      go_meet
      exact ⟨_, _, rfl, rfl, F, rfl⟩
    · have F := hide (show (0 : Int) ≤ c.n ∧ c.n ≤ 0 from ⟨n0, n9⟩)
      clear c4 n0 n9 n5
      go_wp2_with fail
      go_meet
      exact ⟨_, _, rfl, rfl, F, rfl⟩
    · have F := hide (show (0 : Int) ≤ c.n ∧ c.n ≤ 5 from ⟨n0, n9⟩)
      clear c4 n0 n9 n5
      go_wp2_with fail
      go_meet
      exact ⟨_, _, rfl, rfl, F, rfl⟩
    · have F := hide (show (0 : Int) ≤ c.n ∧ c.n ≤ 1000000000 from ⟨n0, n9⟩)
      clear c4 n0 n9 n5
      go_wp2_with fail
      go_meet
      exact ⟨_, _, rfl, rfl, F, rfl⟩
    · have F := hide (show (1 : Int) ≤ c.n ∧ c.n ≤ 7 from ⟨n5 rfl, n9⟩)
      clear c4 n0 n9 n5
      go_wp2_with fail
      go_meet
      exact ⟨_, _, rfl, rfl, F, rfl⟩
    · have F := hide (show (0 : Int) ≤ c.n ∧ c.n ≤ 2 from ⟨n0, n9⟩)
      clear c4 n0 n9 n5
      go_wp2_with fail
      go_meet
      exact ⟨_, _, rfl, rfl, F, rfl⟩
    · have F := hide (show (0 : Int) ≤ c.n ∧ c.n ≤ 7 from ⟨n0, n9⟩)
      clear c4 n0 n9 n5
      go_wp2_with fail
      go_meet
      exact ⟨_, _, rfl, rfl, F, rfl⟩
    · have F := hide (show (0 : Int) ≤ c.n ∧ c.n ≤ 10 from ⟨n0, n9⟩)
      clear c4 n0 n9 n5
      go_wp2_with fail
      go_meet
      exact ⟨_, _, rfl, rfl, F, rfl⟩
  case rest =>
  obtain ⟨least, top, rfl, rfl, hn, rfl⟩ := hcut
  have k1 : decide (c.n < least) = false := decide_eq_false (by have := hn.out; omega)
  have k2 : decide (top < c.n) = false := decide_eq_false (by have := hn.out; omega)
  obtain ⟨⟨c0, c1, c2, c3⟩, -, -⟩ := cl_cells B0.out
  rw [OFF.out] at c2
  clear c4 c5
  go_wp2_with fail
  (with_reducible refine (CN.out _).mono ?_)
  rintro e1 w1 ⟨rfl, q1⟩
  have B1 := hide (heap_below B0.out q1)
  have Q1 := hide (below_next Q0.out Q0.out.size q1)
  clear q1 B0 Q0 CN c0 c1 c2 c3
  obtain ⟨⟨c0, c1, c2, c3⟩, ⟨c4, c5, c6, c7, c8⟩, ⟨c9, c10, c11, c12, c13⟩, -⟩ := cl_cells B1.out
  rw [OFF.out] at c2
  clear c0 c1 c3 c6 c7
  rcases Bool.eq_false_or_eq_true c.has with hh | hh
  · have FR := hide (fun W => (HAS.out hh) ▸ frRight_any c.f W (right_id (HAS.out hh)))
    have HH := hide hh
    rw [hh] at c8
    clear hh HAS HASN
    go_wp2_with fail
    (with_reducible refine (FR.out _).mono ?_)
    rintro e2 w2 ⟨rfl, q2⟩
    have B2 := hide (heap_below B1.out q2)
    have Q2 := hide (below_next Q1.out Q1.out.size q2)
    clear q2 B1 Q1 FR c2 c4 c5 c8 c9 c10 c11 c12 c13 k1 k2
    obtain ⟨-, ⟨c4, c5, c6, c7, c8⟩, -⟩ := cl_cells B2.out
    rw [HH.out] at c8
    clear c5 c6 c7
    by_cases e2 : c.st = 2
    · have I2 := hide (INN.out e2)
      rw [e2] at c4
      go_wp2_with (refine wpList_load_row rfl 73 (.tmp 1) (by rfl) w.heap.size (by rfl) 73 c.cs.toArray (0, 0) _ (by exact B2.out) Tryz.underlying73 (by rfl) (by kernel_rfl) ?_)
      (with_reducible refine (I2.out _).mono ?_)
      rintro e3 w3 ⟨rfl, q3⟩
      have Q3 := hide (below_next Q2.out Q2.out.size q3)
      go_wp2_with fail
      go_ret
      exact ⟨rfl, Q3.out⟩
    · have I2 := hide (OUT.out e2)
      have e2' : (c.st == 2) = false := by simpa using e2
      clear e2
      go_wp2_with (refine wpList_load_row rfl 73 (.tmp 1) (by rfl) w.heap.size (by rfl) 73 c.cs.toArray (0, 0) _ (by exact B2.out) Tryz.underlying73 (by rfl) (by kernel_rfl) ?_)
      (with_reducible refine (I2.out _).mono ?_)
      rintro e3 w3 ⟨rfl, q3⟩
      have Q3 := hide (below_next Q2.out Q2.out.size q3)
      go_wp2_with fail
      go_ret
      exact ⟨rfl, Q3.out⟩
  · have hf := HASN.out hh
    rw [hh] at c8
    rw [hf] at c9 c10 c11 c12 c13
    have d9 : w1.cell? ⟨w.heap.size, 9, none⟩ = some (.int .u32 0) := c9
    have d10 : w1.cell? ⟨w.heap.size, 10, none⟩ = some (.bool false) := c10
    have d11 : w1.cell? ⟨w.heap.size, 11, none⟩ = some (.bool false) := c11
    have d12 : w1.cell? ⟨w.heap.size, 12, none⟩ = some (.int .i64 0) := c12
    have d13 : w1.cell? ⟨w.heap.size, 13, none⟩ = some (.string ⟨#[]⟩) := c13
    clear hh HAS HASN hf c9 c10 c11 c12 c13
    by_cases e2 : c.st = 2
    · have I2 := hide (INN.out e2)
      rw [e2] at c4 c2
      go_wp2_with (refine wpList_load_row rfl 73 (.tmp 1) (by rfl) w.heap.size (by rfl) 73 c.cs.toArray (0, 0) _ (by exact B1.out) Tryz.underlying73 (by rfl) (by kernel_rfl) ?_)
      (with_reducible refine (I2.out _).mono ?_)
      rintro e3 w3 ⟨rfl, q3⟩
      have Q3 := hide (below_next Q1.out Q1.out.size q3)
      go_wp2_with fail
      go_ret
      exact ⟨rfl, Q3.out⟩
    · have I2 := hide (OUT.out e2)
      have e2' : (c.st == 2) = false := by simpa using e2
      clear e2
      go_wp2_with (refine wpList_load_row rfl 73 (.tmp 1) (by rfl) w.heap.size (by rfl) 73 c.cs.toArray (0, 0) _ (by exact B1.out) Tryz.underlying73 (by rfl) (by kernel_rfl) ?_)
      (with_reducible refine (I2.out _).mono ?_)
      rintro e3 w3 ⟨rfl, q3⟩
      have Q3 := hide (below_next Q1.out Q1.out.size q3)
      go_wp2_with fail
      go_ret
      exact ⟨rfl, Q3.out⟩
end Go.Proofs.YthkilodnghiocaaGreatDoor

/- Walks of ctl.drive, Drive, of a controller that may be. -/
namespace Go.Proofs.YthkilodnghiocaaGreatDoor
open Go.ChangeShapes Go.WideShapes Go.ChangeAt Go.RowKit
open FP (Fr bodyF bitsF)

theorem drv_out {c : Cl} (h : c.Ok) (h2 : c.st = 2) (hs : c.sends = true) : ∃ (k : Nat) (hk : k < c.out.size), c.at_ = (k : Int) ∧ c.out[k] = c.drv ∧ (c.out[k] = 48 ∨ c.out[k] = 49) := by
  have hi := h.inn h2
  obtain ⟨y1, y2, y3, y4, y5⟩ := hi.yes hs
  have hr := h.has y1
  have hbl := FP.body_len c.f
  have h0 : 0 ≤ c.at_ ∧ c.at_ < (bitsF c.f).length := by
    have := hi.t0
    have := hi.t9
    cases he : c.en
    · have := y4 he; omega
    · have := y3 he; omega
  have hsz : c.out.size = (bitsF c.f).length := by rw [y2, size_of]
  have hk : c.at_.toNat < c.out.size := by omega
  have hg : c.out.data.toList[c.at_.toNat]? = some (c.out[c.at_.toNat]'hk) := get_some c.out _ hk
  refine ⟨c.at_.toNat, hk, by omega, ?_, ?_⟩
  · unfold Cl.drv Cl.outAt
    rw [if_neg (by omega), if_pos h2, if_pos hs, hg]
    rfl
  · have hm : c.out[c.at_.toNat]'hk ∈ bitsF c.f := by
      have hd : c.out.data.toList = bitsF c.f := by rw [y2]
      rw [hd] at hg
      exact List.mem_of_getElem? hg
    exact FP.bits_bits c.f _ hm
theorem Cl.Ok.drv {c : Cl} (h : c.Ok) : c.drv = 48 ∨ c.drv = 49 := by
  by_cases h2 : c.st = 2
  · rcases Bool.eq_false_or_eq_true c.sends with hs | hs
    · obtain ⟨k, hk, _, e, o⟩ := drv_out h h2 hs
      rw [← e]; exact o
    · unfold Cl.drv
      rw [if_neg (by omega), if_pos h2, if_neg (by rw [hs]; decide)]
      split
      · exact .inl rfl
      · exact .inr rfl
  · unfold Cl.drv
    rw [if_neg h2]
    repeat' split
    all_goals first | exact .inl rfl | exact .inr rfl

set_option maxRecDepth 100000 in
set_option maxHeartbeats 4000000 in
theorem ctlDrv_ok (c : Cl) (w : World) (h : c.Ok) : Calls Tryz.prog 77 #[.agg c.cs.toArray] w fun e w' => e = .returned (.int .u8 c.drv.toNat) ∧ Below w.heap.size w w' := by
  have DO := hide (drv_out h)
  have HD := hide (show c.drv = if c.st = 1 then (if c.has = true then 48 else 49) else if c.st = 2 then (if c.sends = true then c.outAt.getD 49 else if c.en = true ∧ c.tail = 1 ∧ c.good = true then 48 else 49) else if c.st = 3 then (if c.hard = true then 48 else 49) else 49 from rfl)
  obtain ⟨w0, hw0⟩ : ∃ w0, w0 = w.alloc (.cells c.cs.toArray 73) := ⟨_, rfl⟩
  have B0 := hide (World.alloc_heap_new w (.cells c.cs.toArray 73))
  have Q0 : Hid (Below w.heap.size w w0) := by rw [hw0]; exact hide ((Below.refl _ _).alloc (Nat.le_refl _) _)
  rw [← hw0] at B0
  obtain ⟨-, ⟨c4, -, -, c7, c8⟩, -, d14, d15, d16, -, -, -, d20, d21, d22⟩ := cl_cells B0.out
  obtain ⟨r, hr⟩ : ∃ r, r = c.drv := ⟨_, rfl⟩
  rw [← hr] at HD DO ⊢
  clear hr h B0
  by_cases h1 : c.st = 1
  · have E := HD.out
    rw [if_pos h1] at E
    rw [h1] at c4
    rcases Bool.eq_false_or_eq_true c.has with hh | hh
    · rw [hh, if_pos rfl] at E
      rw [hh] at c8
      subst E
      clear h1 hh HD DO c7 d14 d15 d16 d20 d21 d22
      go_enter Tryz.func77, Tryz.ntmps77
      go_upto_region 1 with fail
      change Code.wp _ _ _ _ (w.alloc (.cells c.cs.toArray 73))
      rw [← hw0]
      clear hw0
      go_wp2_with fail
      go_ret
      exact ⟨rfl, Q0.out⟩
    · rw [hh, if_neg (by decide)] at E
      rw [hh] at c8
      subst E
      clear h1 hh HD DO c7 d14 d15 d16 d20 d21 d22
      go_enter Tryz.func77, Tryz.ntmps77
      go_upto_region 1 with fail
      change Code.wp _ _ _ _ (w.alloc (.cells c.cs.toArray 73))
      rw [← hw0]
      clear hw0
      go_wp2_with fail
      go_ret
      exact ⟨rfl, Q0.out⟩
  by_cases h2 : c.st = 2
  · have E := HD.out
    rw [if_neg h1, if_pos h2] at E
    rw [h2] at c4
    rcases Bool.eq_false_or_eq_true c.sends with hs | hs
    · obtain ⟨k, hk, ek, er, _⟩ := DO.out h2 hs
      rw [hs] at d14
      rw [ek] at d16
      have hk' : (k : Int) < c.out.size := by omega
      have hk0 : (0 : Int) ≤ (k : Int) := by omega
      have HE := hide er
      clear E h1 h2 hs HD DO c7 c8 d20 d21 d22 ek er
      go_enter Tryz.func77, Tryz.ntmps77
      go_upto_region 1 with fail
      change Code.wp _ _ _ _ (w.alloc (.cells c.cs.toArray 73))
      rw [← hw0]
      clear hw0
      go_wp2_with fail
      go_ret
      exact ⟨by rw [← HE.out]; rfl, Q0.out⟩
    · rw [hs, if_neg (by decide)] at E
      rw [hs] at d14
      by_cases ht : c.en = true ∧ c.tail = 1 ∧ c.good = true
      · rw [if_pos ht] at E
        obtain ⟨t1, t2, t3⟩ := ht
        rw [t1] at d20
        rw [t2] at d21
        rw [t3] at d22
        subst E
        clear h1 h2 hs HD DO c7 c8 d15 d16 t1 t2 t3
        go_enter Tryz.func77, Tryz.ntmps77
        go_upto_region 1 with fail
        change Code.wp _ _ _ _ (w.alloc (.cells c.cs.toArray 73))
        rw [← hw0]
        clear hw0
        go_wp2_with fail
        go_ret
        exact ⟨rfl, Q0.out⟩
      · rw [if_neg ht] at E
        subst E
        have ev : c.en = false ∨ c.en = true ∧ (c.tail == 1) = false ∨ c.en = true ∧ c.tail = 1 ∧ c.good = false := by
          cases he : c.en
          · exact .inl rfl
          · by_cases ht1 : c.tail = 1
            · cases hg : c.good
              · exact .inr (.inr ⟨rfl, ht1, rfl⟩)
              · exact absurd ⟨he, ht1, hg⟩ ht
            · exact .inr (.inl ⟨rfl, by simpa using ht1⟩)
        clear h1 h2 hs HD DO c7 c8 d15 d16 ht
        rcases ev with e1 | ⟨e1, e2⟩ | ⟨e1, e2, e3⟩
        · rw [e1] at d20
          clear e1
          go_enter Tryz.func77, Tryz.ntmps77
          go_upto_region 1 with fail
          change Code.wp _ _ _ _ (w.alloc (.cells c.cs.toArray 73))
          rw [← hw0]
          clear hw0
          go_wp2_with fail
          go_ret
          exact ⟨rfl, Q0.out⟩
        · rw [e1] at d20
          clear e1
          go_enter Tryz.func77, Tryz.ntmps77
          go_upto_region 1 with fail
          change Code.wp _ _ _ _ (w.alloc (.cells c.cs.toArray 73))
          rw [← hw0]
          clear hw0
          go_wp2_with fail
          go_ret
          exact ⟨rfl, Q0.out⟩
        · rw [e1] at d20
          rw [e2] at d21
          rw [e3] at d22
          clear e1 e2 e3
          go_enter Tryz.func77, Tryz.ntmps77
          go_upto_region 1 with fail
          change Code.wp _ _ _ _ (w.alloc (.cells c.cs.toArray 73))
          rw [← hw0]
          clear hw0
          go_wp2_with fail
          go_ret
          exact ⟨rfl, Q0.out⟩
  by_cases h3 : c.st = 3
  · have E := HD.out
    rw [if_neg h1, if_neg h2, if_pos h3] at E
    rw [h3] at c4
    rcases Bool.eq_false_or_eq_true c.hard with hh | hh
    · rw [hh, if_pos rfl] at E
      rw [hh] at c7
      subst E
      clear h1 h2 h3 hh HD DO c8 d14 d15 d16 d20 d21 d22
      go_enter Tryz.func77, Tryz.ntmps77
      go_upto_region 1 with fail
      change Code.wp _ _ _ _ (w.alloc (.cells c.cs.toArray 73))
      rw [← hw0]
      clear hw0
      go_wp2_with fail
      go_ret
      exact ⟨rfl, Q0.out⟩
    · rw [hh, if_neg (by decide)] at E
      rw [hh] at c7
      subst E
      clear h1 h2 h3 hh HD DO c8 d14 d15 d16 d20 d21 d22
      go_enter Tryz.func77, Tryz.ntmps77
      go_upto_region 1 with fail
      change Code.wp _ _ _ _ (w.alloc (.cells c.cs.toArray 73))
      rw [← hw0]
      clear hw0
      go_wp2_with fail
      go_ret
      exact ⟨rfl, Q0.out⟩
  · have E := HD.out
    rw [if_neg h1, if_neg h2, if_neg h3] at E
    subst E
    have e1 : (c.st == 1) = false := by simpa using h1
    have e2 : (c.st == 2) = false := by simpa using h2
    have e3 : (c.st == 3) = false := by simpa using h3
    clear h1 h2 h3 HD DO c7 c8 d14 d15 d16 d20 d21 d22
    go_enter Tryz.func77, Tryz.ntmps77
    go_upto_region 1 with fail
    change Code.wp _ _ _ _ (w.alloc (.cells c.cs.toArray 73))
    rw [← hw0]
    clear hw0
    go_wp2_with fail
    go_ret
    exact ⟨rfl, Q0.out⟩

set_option maxRecDepth 100000 in
set_option maxHeartbeats 4000000 in
theorem ctlDrive_ok (c : Cl) (w : World) (h : c.Ok) : Calls Tryz.prog 53 #[.agg c.cs.toArray] w fun e w' => e = .returned (.tuple #[.int .u8 c.drv.toNat, .int .i64 0]) ∧ Below w.heap.size w w' := by
  have DR := hide (fun W => ctlDrv_ok c W h)
  obtain ⟨r, hr⟩ : ∃ r, r = c.drv := ⟨_, rfl⟩
  rw [← hr] at DR ⊢
  clear hr
  obtain ⟨w0, hw0⟩ : ∃ w0, w0 = w.alloc (.cells c.cs.toArray 73) := ⟨_, rfl⟩
  have B0 := hide (World.alloc_heap_new w (.cells c.cs.toArray 73))
  have Q0 : Hid (Below w.heap.size w w0) := by rw [hw0]; exact hide ((Below.refl _ _).alloc (Nat.le_refl _) _)
  rw [← hw0] at B0
  have RT := hide (ctlRight_ok c w0 h)
  clear h
  go_enter Tryz.func53, Tryz.ntmps53
  go_upto_region 1 with fail
  change Code.wp _ _ _ _ (w.alloc (.cells c.cs.toArray 73))
  rw [← hw0]
  clear hw0
  go_wp2_with (refine wpList_load_row rfl 73 (.tmp 1) (by rfl) w.heap.size (by rfl) 73 c.cs.toArray (0, 0) _ (by exact B0.out) Tryz.underlying73 (by rfl) (by kernel_rfl) ?_)
  (with_reducible refine (RT.out).mono ?_)
  rintro e1 w1 ⟨rfl, q1⟩
  have B1 := hide (heap_below B0.out q1)
  have Q1 := hide (below_next Q0.out Q0.out.size q1)
  have D1 := hide (DR.out w1)
  clear q1 B0 Q0 RT DR
  go_wp2_with (refine wpList_load_row rfl 73 (.tmp 1) (by rfl) w.heap.size (by rfl) 73 c.cs.toArray (0, 0) _ (by exact B1.out) Tryz.underlying73 (by rfl) (by kernel_rfl) ?_)
  (with_reducible refine (D1.out).mono ?_)
  rintro e2 w2 ⟨rfl, q2⟩
  have Q2 := hide (below_next Q1.out Q1.out.size q2)
  go_wp2_with fail
  go_ret2
  exact ⟨rfl, Q2.out⟩
end Go.Proofs.YthkilodnghiocaaGreatDoor

/- Walks of a machine's begins (one's own frame), idle, join, gap, hold (a dominant bit). -/
namespace Go.Proofs.YthkilodnghiocaaGreatDoor
open Go.ChangeShapes Go.WideShapes Go.ChangeAt Go.RowKit
open FP (Fr bodyF bitsF)

set_option maxRecDepth 100000 in
set_option maxHeartbeats 4000000 in
theorem mcBegins_yes (c : Cl) (ev : List Value) (b : Nat) (t : TypeId) (w : World) (h : Hid (w.heap[b]? = some (.cells (mcL c ev).toArray t (0, 0)))) (hr : FP.rightB c.f = true) :
    Calls Tryz.prog 97 #[.pointer (some ⟨b, 0, none⟩), .bool true] w fun e w' => (∃ v, e = .returned v) ∧ w'.heap[b]? = some (.cells (mcL c.begin1 ev).toArray t (0, 0)) ∧ Below b w w' := by
  have TO := hide (mcTo_any c ev 2 b t w h)
  have FB := hide (fun W => frBits_any c.f W (right_id hr))
  have hV : bitsV c.f = ⟨(bitsF c.f).toArray⟩ := by unfold bitsV; rw [if_pos hr]
  have hE : headE c.f = 0 := by unfold headE; rw [hr]; rfl
  rw [hV, hE] at FB
  obtain ⟨S, hS⟩ : ∃ S : ByteArray, S = ⟨(bitsF c.f).toArray⟩ := ⟨_, rfl⟩
  rw [← hS] at FB
  have HS := hide (show c.begin1 = { c.to 2 with last := 48, sn := 1, got := ⟨#[48]⟩, was := true, sends := true, out := S, at_ := 1 } by rw [hS]; rfl)
  obtain ⟨d, hd⟩ : ∃ d, d = c.begin1 := ⟨_, rfl⟩
  rw [← hd] at HS ⊢
  clear h hV hE hS hd hr
  go_enter Tryz.func97, Tryz.ntmps97
  go_wp2_with fail
  (with_reducible refine (TO.out).mono ?_)
  rintro e1 w1 ⟨⟨v, rfl⟩, hB, q1⟩
  have HB := hide hB
  have Q1 := hide q1
  have hb : b < w1.heap.size := heap_lt hB
  obtain ⟨-, ⟨-, -, c6, -⟩, ⟨d14, d15, d16, d17, d18, d19, -, -, -⟩⟩ := mc_cells hB
  obtain ⟨c9, c10, c11, c12, c13⟩ := mc_fr hB
  have c9' : w1.cell? ⟨b, 9, none⟩ = some (.int .u32 c.f.id) := c9
  have c10' : w1.cell? ⟨b, 10, none⟩ = some (.bool c.f.ext) := c10
  have c11' : w1.cell? ⟨b, 11, none⟩ = some (.bool c.f.rem) := c11
  have c12' : w1.cell? ⟨b, 12, none⟩ = some (.int .i64 c.f.dlc) := c12
  have c13' : w1.cell? ⟨b, 13, none⟩ = some (.string c.f.data) := c13
  have f6 := cl_froz hB 6
  have f14 := cl_froz hB 14
  have f17 := cl_froz hB 17
  have f18 := cl_froz hB 18
  have f19 := cl_froz hB 19
  clear hB q1 TO c9 c10 c11 c12 c13
  have H2 := hide (mc_set (mc_set (mc_set (mc_set (mc_set HB.out 17 (.int .u8 48)) 18 (.int .i64 1)) 19 (.string ⟨#[48]⟩)) 14 (.bool true)) 6 (.bool true))
  have Q2 := hide (below_set (below_set (below_set (below_set (below_set Q1.out 17 (.int .u8 48)) 18 (.int .i64 1)) 19 (.string ⟨#[48]⟩)) 14 (.bool true)) 6 (.bool true))
  clear HB Q1
  go_wp2_with fail
  (with_reducible refine (FB.out _).mono ?_)
  rintro e2 w2 ⟨rfl, q2⟩
  have B2 := hide (show w2.heap[b]? = some (.cells (mcL { c.to 2 with last := 48, sn := 1, got := ⟨#[48]⟩, was := true, sends := true } ev).toArray t (0, 0)) from by
    have := heap_below H2.out q2
    simpa [mcL, Cl.cs, Cl.to] using this)
  have Q3 := hide (Q2.out.trans (q2.mono (Nat.le_of_lt (heap_lt H2.out))))
  clear H2 Q2 q2 FB c6 d14 d15 d16 d17 d18 d19 c9' c10' c11' c12' c13' f6 f14 f17 f18 f19
  obtain ⟨-, -, ⟨-, d15, d16, -, -, -, -, -, -⟩⟩ := mc_cells B2.out
  have f15 := cl_froz B2.out 15
  have f16 := cl_froz B2.out 16
  go_wp2_with fail
  go_end0
  refine ⟨⟨_, rfl⟩, ?_, ?_⟩
  · have H := mc_set (mc_set B2.out 15 (.string S)) 16 (.int .i64 1)
    rw [HS.out]
    simpa [mcL, Cl.cs, Cl.to] using H
  · exact below_set (below_set Q3.out 15 _) 16 _

set_option maxRecDepth 100000 in
set_option maxHeartbeats 4000000 in
theorem mcIdle_low (c : Cl) (ev : List Value) (b : Nat) (t : TypeId) (w : World) (h : Hid (w.heap[b]? = some (.cells (mcL c ev).toArray t (0, 0)))) (hr : c.has = true → FP.rightB c.f = true) :
    Calls Tryz.prog 79 #[.pointer (some ⟨b, 0, none⟩), .int .u8 48] w fun e w' => (∃ v, e = .returned v) ∧ w'.heap[b]? = some (.cells (mcL (if c.has = true then c.begin1 else c.begin0) ev).toArray t (0, 0)) ∧ Below b w w' := by
  obtain ⟨-, ⟨-, -, -, -, c8⟩, -⟩ := mc_cells h.out
  rcases Bool.eq_false_or_eq_true c.has with hh | hh
  · have BG := hide (mcBegins_yes c ev b t w h (hr hh))
    rw [if_pos hh]
    rw [hh] at c8
    clear h hr hh
    go_enter Tryz.func79, Tryz.ntmps79
    go_wp2_with fail
    (with_reducible refine (BG.out).mono ?_)
    rintro e1 w1 ⟨⟨v, rfl⟩, hB, q1⟩
    go_wp2_with fail
    go_end0
    exact ⟨⟨_, rfl⟩, hB, q1⟩
  · have BG := hide (mcBegins_no c ev b t w h)
    rw [if_neg (by rw [hh]; decide)]
    rw [hh] at c8
    clear h hr hh
    go_enter Tryz.func79, Tryz.ntmps79
    go_wp2_with fail
    (with_reducible refine (BG.out).mono ?_)
    rintro e1 w1 ⟨⟨v, rfl⟩, hB, q1⟩
    go_wp2_with fail
    go_end0
    exact ⟨⟨_, rfl⟩, hB, q1⟩

set_option maxRecDepth 100000 in
set_option maxHeartbeats 4000000 in
theorem mcJoin_low (c : Cl) (ev : List Value) (b : Nat) (t : TypeId) (w : World) (h : Hid (w.heap[b]? = some (.cells (mcL c ev).toArray t (0, 0)))) (h0 : 0 ≤ c.n) (h10 : c.n ≤ 10) :
    Calls Tryz.prog 78 #[.pointer (some ⟨b, 0, none⟩), .int .u8 48] w fun e w' => (∃ v, e = .returned v) ∧ w'.heap[b]? = some (.cells (mcL { c with n := 0 } ev).toArray t (0, 0)) ∧ Below b w w' := by
  obtain ⟨-, ⟨-, c5, -⟩, -⟩ := mc_cells h.out
  have f5 := cl_froz h.out 5
  have H := hide (mc_set (mc_set h.out 5 (.int .i64 (c.n + 1))) 5 (.int .i64 0))
  have Q1 := hide (below_set (below_set (Below.refl b w) 5 (.int .i64 (c.n + 1))) 5 (.int .i64 0))
  clear h
  go_enter Tryz.func78, Tryz.ntmps78
  go_wp2_with fail
  go_end0
  refine ⟨⟨_, rfl⟩, ?_, Q1.out⟩
  have := H.out
  simpa [mcL, Cl.cs] using this
end Go.Proofs.YthkilodnghiocaaGreatDoor
