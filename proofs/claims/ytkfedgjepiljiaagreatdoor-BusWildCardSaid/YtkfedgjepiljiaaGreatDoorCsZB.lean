/- The walk of ctl.in of any controller, behind the first chain. -/
import Derived.Test.YtkfedgjepiljiaaGreatDoorMgBuC
namespace Go.Proofs.YtkfedgjepiljiaaGreatDoor
open Go.ChangeShapes Go.WideShapes Go.ChangeAt Go.RowKit
open FP (Fr uN uK doneB sizeE sizeV goodB bitsF bodyF RS rsOf)

/-- The second chain: where it ends, and whether its sum is right. -/
def inE (c : Cl) : Bool := (decide (sizC c.g = 0) || decide (c.got.size ≤ sizC c.g)) && ((c.en == (decide (c.got.size = sizC c.g) && decide (c.sn < 5))) && ((c.good == (c.en && goodB c.g)) && (decide (0 ≤ c.tail) && (decide (c.tail ≤ 9) && (c.en || decide (c.tail = 0))))))

set_option maxRecDepth 100000 in
set_option maxHeartbeats 64000000 in
theorem ctlIn_noE (c : Cl) (w : World) (hL : c.last = (c.L.toNat : Int)) (hs : c.got.size ≤ 300) (h : inA c = true) (hE : inE c = false) : Calls Tryz.prog 14 #[.agg c.cs.toArray] w fun e w' => e = .returned (.bool false) ∧ Below w.heap.size w w' := by
  have hsz : c.g.length = c.got.size := Array.length_toList
  obtain ⟨a1, a2, hb, a4, a5, a6, a7⟩ : 1 ≤ c.got.size ∧ c.got.size ≤ 200 ∧ bitRow c.g = true ∧ c.g[0]? = some 48 ∧ sizeE c.g ≠ 12 ∧ stB c.L c.sn = true ∧ 1 ≤ c.sn := by
    unfold inA at h
    simp only [Bool.and_eq_true, decide_eq_true_eq, Bool.not_eq_true', decide_eq_false_iff_not] at h
    exact ⟨h.1, h.2.1, h.2.2.1, h.2.2.2.1, h.2.2.2.2.1, h.2.2.2.2.2.1, h.2.2.2.2.2.2⟩
  have bits := (bitRow_iff.1 hb).2
  have SZ := hide (fun W => show Calls Tryz.prog 22 #[.string c.got] W fun e w' => e = .returned (.tuple #[.int .i64 (sizeV c.g : Nat), .int .i64 (sizeE c.g : Nat)]) ∧ Below W.heap.size W w' from frSize_any c.got W bits (by omega))
  have CZ := hide (fun W => show Calls Tryz.prog 25 #[.string c.got] W fun e w' => e = .returned (.int .i64 (sizC c.g : Nat)) ∧ Below W.heap.size W w' from ctlSize_any c.got W bits (by omega))
  have BR := hide (fun W => show Calls Tryz.prog 23 #[.string c.got] W fun e w' => e = .returned (.bool true) ∧ Below W.heap.size W w' from hb ▸ bitsRight_any c.got W (by unfold maxLen; omega))
  have GD := hide (fun W => show Calls Tryz.prog 26 #[.string c.got] W fun e w' => e = .returned (.bool (goodB c.g)) ∧ Below W.heap.size W w' from ctlGood_any c.got W bits (by omega))
  have SR := hide (fun W => show Calls Tryz.prog 24 #[.agg #[.int .u8 c.L.toNat, .int .i64 c.sn]] W fun e w' => e = .returned (.bool true) ∧ Below W.heap.size W w' from a6 ▸ stRight_all c.L c.sn W)
  have i1 : (1 : Int) ≤ c.got.size := by omega
  have i2 : (c.got.size : Int) ≤ 200 := by omega
  have hs0 : 0 < c.got.size := by omega
  have f0 : (((c.got[0]'hs0).toNat : Int) != 48) = false := by
    have e : c.got[0]'hs0 = 48 := by
      have h3 : c.got.data.toList[0]? = some (c.got[0]'hs0) := get_some c.got 0 hs0
      exact Option.some.inj (h3.symm.trans a4)
    rw [e]; rfl
  have e12 : ((sizeE c.g : Int) == 12) = false := by rw [beq_eq_false_iff_ne]; omega
  have n1 : ¬ c.sn < 1 := by omega
  have n1' : (1 : Int) ≤ c.sn := by omega
  have HE := hide (show false = ((decide (sizC c.g = 0) || decide (c.got.size ≤ sizC c.g)) && ((c.en == (decide (c.got.size = sizC c.g) && decide (c.sn < 5))) && ((c.good == (c.en && goodB c.g)) && (decide (0 ≤ c.tail) && (decide (c.tail ≤ 9) && (c.en || decide (c.tail = 0))))))) from hE.symm)
  have HL := hide hL
  obtain ⟨w0, hw0⟩ : ∃ w0, w0 = w.alloc (.cells c.cs.toArray 33) := ⟨_, rfl⟩
  have B := hide (World.alloc_heap_new w (.cells c.cs.toArray 33))
  have Q : Hid (Below w.heap.size w w0) := by rw [hw0]; exact hide ((Below.refl _ _).alloc (Nat.le_refl _) _)
  rw [← hw0] at B
  clear h hL hsz a1 a2 hb a4 a5 a6 a7 bits hE
  generalize sizeV c.g = sv at *
  generalize sizeE c.g = se at *
  generalize sizC c.g = z at *
  generalize goodB c.g = gb at *
  obtain ⟨-, -, -, d14, d15, d16, d17, d18, d19, d20, d21, d22⟩ := cl_cells B.out
  rw [HL.out] at d17
  go_enter Tryz.func14, Tryz.ntmps14
  go_upto_region 1 with fail
  change Code.wp _ _ _ _ (w.alloc (.cells c.cs.toArray 33))
  rw [← hw0]
  clear hw0
  go_wp2_with fail
  (with_reducible refine (SZ.out _).mono ?_)
  rintro _ w1 ⟨rfl, q⟩
  replace B := hide (heap_below B.out q)
  replace Q := hide (below_next Q.out Q.out.size q)
  clear q SZ d14 d15 d16 d17 d18 d19 d20 d21 d22
  obtain ⟨-, -, -, d14, d15, d16, d17, d18, d19, d20, d21, d22⟩ := cl_cells B.out
  rw [HL.out] at d17
  go_wp2_with fail
  (with_reducible refine (BR.out _).mono ?_)
  rintro _ w2 ⟨rfl, q⟩
  replace B := hide (heap_below B.out q)
  replace Q := hide (below_next Q.out Q.out.size q)
  clear q BR d14 d15 d16 d17 d18 d19 d20 d21 d22
  obtain ⟨-, -, -, d14, d15, d16, d17, d18, d19, d20, d21, d22⟩ := cl_cells B.out
  rw [HL.out] at d17
  go_wp2_with fail
  (with_reducible refine (SR.out _).mono ?_)
  rintro _ w3 ⟨rfl, q⟩
  replace B := hide (heap_below B.out q)
  replace Q := hide (below_next Q.out Q.out.size q)
  clear q SR d14 d15 d16 d17 d18 d19 d20 d21 d22
  obtain ⟨-, -, -, d14, d15, d16, d17, d18, d19, d20, d21, d22⟩ := cl_cells B.out
  rw [HL.out] at d17
  go_wp2_with fail
  (with_reducible refine (CZ.out _).mono ?_)
  rintro _ w4 ⟨rfl, q⟩
  replace B := hide (heap_below B.out q)
  replace Q := hide (below_next Q.out Q.out.size q)
  clear q CZ d14 d15 d16 d17 d18 d19 d20 d21 d22
  obtain ⟨-, -, -, d14, d15, d16, d17, d18, d19, d20, d21, d22⟩ := cl_cells B.out
  rw [HL.out] at d17
  clear d14 d15 d16 d17 d18 d19 d20 d21 d22 f0 e12 n1
  go_upto_region 5 with fail
  go_cut [113] (fun v W => v = .bool true ∧ Hid (Below w4.heap.size w4 W))
  case first =>
    obtain ⟨-, -, -, d14, d15, d16, d17, d18, d19, d20, d21, d22⟩ := cl_cells B.out
    rw [HL.out] at d17
    have zb : w.heap.size < w4.heap.size := heap_lt B.out
    generalize c.en = en at d20 HE
    generalize c.good = gd at d22 HE
    generalize c.tail = tl at d21 HE
    generalize c.sn = sn at d18 HE n1'
    clear B Q d14 d15 d16
    by_cases z0 : z = 0
    · subst z0
      have j1 : ((c.got.size : Int) == 0) = false := by rw [beq_eq_false_iff_ne]; omega
      cases en
      · skip
        cases gd
        · skip
          by_cases t1 : tl < 0
          · have t1d : decide (tl < 0) = true := decide_eq_true t1
            have m17 := fun s : InW w4 => s.cell zb d17
            have m18 := fun s : InW w4 => s.cell zb d18
            have m19 := fun s : InW w4 => s.cell zb d19
            have m20 := fun s : InW w4 => s.cell zb d20
            have m21 := fun s : InW w4 => s.cell zb d21
            have m22 := fun s : InW w4 => s.cell zb d22
            clear d17 d18 d19 d20 d21 d22 HE
            go_wp2_with fail
            refine wp_region_tame (by kernel_rfl) (by kernel_rfl) ?_
            repeat (go_big_quiet_step (first | (go_at_call 26; exact tame_of (GD.out _))))
            refine wpQuiet_nil ?_
            rintro _ ⟨sw, rfl⟩
            have qs := hide sw.h
            clear m17 m18 m19 m20 m21 m22
            go_wp2_with fail
            go_meet
            exact ⟨by simp, qs⟩
          have t1d : decide (tl < 0) = false := decide_eq_false t1
          by_cases t2 : 9 < tl
          · have t2d : decide (9 < tl) = true := decide_eq_true t2
            have m17 := fun s : InW w4 => s.cell zb d17
            have m18 := fun s : InW w4 => s.cell zb d18
            have m19 := fun s : InW w4 => s.cell zb d19
            have m20 := fun s : InW w4 => s.cell zb d20
            have m21 := fun s : InW w4 => s.cell zb d21
            have m22 := fun s : InW w4 => s.cell zb d22
            clear d17 d18 d19 d20 d21 d22 HE
            go_wp2_with fail
            refine wp_region_tame (by kernel_rfl) (by kernel_rfl) ?_
            repeat (go_big_quiet_step (first | (go_at_call 26; exact tame_of (GD.out _))))
            refine wpQuiet_nil ?_
            rintro _ ⟨sw, rfl⟩
            have qs := hide sw.h
            clear m17 m18 m19 m20 m21 m22
            go_wp2_with fail
            go_meet
            exact ⟨by simp, qs⟩
          have t2d : decide (9 < tl) = false := decide_eq_false t2
          by_cases t3 : tl = 0
          · subst t3
            exfalso
            have hh := HE.out
            rw [decide_eq_false (by omega : ¬ c.got.size = 0)] at hh
            revert hh
            simp
            try omega
          have t3d : (tl != 0) = true := by simpa using t3
          have m17 := fun s : InW w4 => s.cell zb d17
          have m18 := fun s : InW w4 => s.cell zb d18
          have m19 := fun s : InW w4 => s.cell zb d19
          have m20 := fun s : InW w4 => s.cell zb d20
          have m21 := fun s : InW w4 => s.cell zb d21
          have m22 := fun s : InW w4 => s.cell zb d22
          clear d17 d18 d19 d20 d21 d22 HE
          go_wp2_with fail
          refine wp_region_tame (by kernel_rfl) (by kernel_rfl) ?_
          repeat (go_big_quiet_step (first | (go_at_call 26; exact tame_of (GD.out _))))
          refine wpQuiet_nil ?_
          rintro _ ⟨sw, rfl⟩
          have qs := hide sw.h
          clear m17 m18 m19 m20 m21 m22
          go_wp2_with fail
          go_meet
          exact ⟨by simp, qs⟩
        · skip
          have m17 := fun s : InW w4 => s.cell zb d17
          have m18 := fun s : InW w4 => s.cell zb d18
          have m19 := fun s : InW w4 => s.cell zb d19
          have m20 := fun s : InW w4 => s.cell zb d20
          have m21 := fun s : InW w4 => s.cell zb d21
          have m22 := fun s : InW w4 => s.cell zb d22
          clear d17 d18 d19 d20 d21 d22 HE
          go_wp2_with fail
          refine wp_region_tame (by kernel_rfl) (by kernel_rfl) ?_
          repeat (go_big_quiet_step (first | (go_at_call 26; exact tame_of (GD.out _))))
          refine wpQuiet_nil ?_
          rintro _ ⟨sw, rfl⟩
          have qs := hide sw.h
          clear m17 m18 m19 m20 m21 m22
          go_wp2_with fail
          go_meet
          exact ⟨by simp, qs⟩
      · skip
        have m17 := fun s : InW w4 => s.cell zb d17
        have m18 := fun s : InW w4 => s.cell zb d18
        have m19 := fun s : InW w4 => s.cell zb d19
        have m20 := fun s : InW w4 => s.cell zb d20
        have m21 := fun s : InW w4 => s.cell zb d21
        have m22 := fun s : InW w4 => s.cell zb d22
        clear d17 d18 d19 d20 d21 d22 HE
        go_wp2_with fail
        refine wp_region_tame (by kernel_rfl) (by kernel_rfl) ?_
        repeat (go_big_quiet_step (first | (go_at_call 26; exact tame_of (GD.out _))))
        refine wpQuiet_nil ?_
        rintro _ ⟨sw, rfl⟩
        have qs := hide sw.h
        clear m17 m18 m19 m20 m21 m22
        go_wp2_with fail
        go_meet
        exact ⟨by simp, qs⟩
    have j2 : 0 < z := by omega
    by_cases z1 : z < c.got.size
    · have j5 : (z : Int) < c.got.size := by omega
      have m17 := fun s : InW w4 => s.cell zb d17
      have m18 := fun s : InW w4 => s.cell zb d18
      have m19 := fun s : InW w4 => s.cell zb d19
      have m20 := fun s : InW w4 => s.cell zb d20
      have m21 := fun s : InW w4 => s.cell zb d21
      have m22 := fun s : InW w4 => s.cell zb d22
      clear d17 d18 d19 d20 d21 d22 HE
      go_wp2_with fail
      refine wp_region_tame (by kernel_rfl) (by kernel_rfl) ?_
      repeat (go_big_quiet_step (first | (go_at_call 26; exact tame_of (GD.out _))))
      refine wpQuiet_nil ?_
      rintro _ ⟨sw, rfl⟩
      have qs := hide sw.h
      clear m17 m18 m19 m20 m21 m22
      go_wp2_with fail
      go_meet
      exact ⟨by simp, qs⟩
    have j4 : decide (z < c.got.size) = false := decide_eq_false z1
    have j3 : (c.got.size : Int) ≤ (z : Int) := by omega
    by_cases z2 : c.got.size = z
    · subst z2
      by_cases s5 : sn < 5
      · have s5d : decide (sn < 5) = true := decide_eq_true s5
        cases en
        · skip
          have m17 := fun s : InW w4 => s.cell zb d17
          have m18 := fun s : InW w4 => s.cell zb d18
          have m19 := fun s : InW w4 => s.cell zb d19
          have m20 := fun s : InW w4 => s.cell zb d20
          have m21 := fun s : InW w4 => s.cell zb d21
          have m22 := fun s : InW w4 => s.cell zb d22
          clear d17 d18 d19 d20 d21 d22 HE
          go_wp2_with fail
          refine wp_region_tame (by kernel_rfl) (by kernel_rfl) ?_
          repeat (go_big_quiet_step (first | (go_at_call 26; exact tame_of (GD.out _))))
          refine wpQuiet_nil ?_
          rintro _ ⟨sw, rfl⟩
          have qs := hide sw.h
          clear m17 m18 m19 m20 m21 m22
          go_wp2_with fail
          go_meet
          exact ⟨by simp, qs⟩
        · skip
          cases gd <;> cases gb
          · skip
            by_cases t1 : tl < 0
            · have t1d : decide (tl < 0) = true := decide_eq_true t1
              have m17 := fun s : InW w4 => s.cell zb d17
              have m18 := fun s : InW w4 => s.cell zb d18
              have m19 := fun s : InW w4 => s.cell zb d19
              have m20 := fun s : InW w4 => s.cell zb d20
              have m21 := fun s : InW w4 => s.cell zb d21
              have m22 := fun s : InW w4 => s.cell zb d22
              clear d17 d18 d19 d20 d21 d22 HE
              go_wp2_with fail
              refine wp_region_tame (by kernel_rfl) (by kernel_rfl) ?_
              repeat (go_big_quiet_step (first | (go_at_call 26; exact tame_of (GD.out _))))
              refine wpQuiet_nil ?_
              rintro _ ⟨sw, rfl⟩
              have qs := hide sw.h
              clear m17 m18 m19 m20 m21 m22
              go_wp2_with fail
              go_meet
              exact ⟨by simp, qs⟩
            have t1d : decide (tl < 0) = false := decide_eq_false t1
            by_cases t2 : 9 < tl
            · have t2d : decide (9 < tl) = true := decide_eq_true t2
              have m17 := fun s : InW w4 => s.cell zb d17
              have m18 := fun s : InW w4 => s.cell zb d18
              have m19 := fun s : InW w4 => s.cell zb d19
              have m20 := fun s : InW w4 => s.cell zb d20
              have m21 := fun s : InW w4 => s.cell zb d21
              have m22 := fun s : InW w4 => s.cell zb d22
              clear d17 d18 d19 d20 d21 d22 HE
              go_wp2_with fail
              refine wp_region_tame (by kernel_rfl) (by kernel_rfl) ?_
              repeat (go_big_quiet_step (first | (go_at_call 26; exact tame_of (GD.out _))))
              refine wpQuiet_nil ?_
              rintro _ ⟨sw, rfl⟩
              have qs := hide sw.h
              clear m17 m18 m19 m20 m21 m22
              go_wp2_with fail
              go_meet
              exact ⟨by simp, qs⟩
            have t2d : decide (9 < tl) = false := decide_eq_false t2
            exfalso
            have hh := HE.out
            revert hh
            simp
            try omega
          · skip
            have m17 := fun s : InW w4 => s.cell zb d17
            have m18 := fun s : InW w4 => s.cell zb d18
            have m19 := fun s : InW w4 => s.cell zb d19
            have m20 := fun s : InW w4 => s.cell zb d20
            have m21 := fun s : InW w4 => s.cell zb d21
            have m22 := fun s : InW w4 => s.cell zb d22
            clear d17 d18 d19 d20 d21 d22 HE
            go_wp2_with fail
            refine wp_region_tame (by kernel_rfl) (by kernel_rfl) ?_
            repeat (go_big_quiet_step (first | (go_at_call 26; exact tame_of (GD.out _))))
            refine wpQuiet_nil ?_
            rintro _ ⟨sw, rfl⟩
            have qs := hide sw.h
            clear m17 m18 m19 m20 m21 m22
            go_wp2_with fail
            go_meet
            exact ⟨by simp, qs⟩
          · skip
            have m17 := fun s : InW w4 => s.cell zb d17
            have m18 := fun s : InW w4 => s.cell zb d18
            have m19 := fun s : InW w4 => s.cell zb d19
            have m20 := fun s : InW w4 => s.cell zb d20
            have m21 := fun s : InW w4 => s.cell zb d21
            have m22 := fun s : InW w4 => s.cell zb d22
            clear d17 d18 d19 d20 d21 d22 HE
            go_wp2_with fail
            refine wp_region_tame (by kernel_rfl) (by kernel_rfl) ?_
            repeat (go_big_quiet_step (first | (go_at_call 26; exact tame_of (GD.out _))))
            refine wpQuiet_nil ?_
            rintro _ ⟨sw, rfl⟩
            have qs := hide sw.h
            clear m17 m18 m19 m20 m21 m22
            go_wp2_with fail
            go_meet
            exact ⟨by simp, qs⟩
          · skip
            by_cases t1 : tl < 0
            · have t1d : decide (tl < 0) = true := decide_eq_true t1
              have m17 := fun s : InW w4 => s.cell zb d17
              have m18 := fun s : InW w4 => s.cell zb d18
              have m19 := fun s : InW w4 => s.cell zb d19
              have m20 := fun s : InW w4 => s.cell zb d20
              have m21 := fun s : InW w4 => s.cell zb d21
              have m22 := fun s : InW w4 => s.cell zb d22
              clear d17 d18 d19 d20 d21 d22 HE
              go_wp2_with fail
              refine wp_region_tame (by kernel_rfl) (by kernel_rfl) ?_
              repeat (go_big_quiet_step (first | (go_at_call 26; exact tame_of (GD.out _))))
              refine wpQuiet_nil ?_
              rintro _ ⟨sw, rfl⟩
              have qs := hide sw.h
              clear m17 m18 m19 m20 m21 m22
              go_wp2_with fail
              go_meet
              exact ⟨by simp, qs⟩
            have t1d : decide (tl < 0) = false := decide_eq_false t1
            by_cases t2 : 9 < tl
            · have t2d : decide (9 < tl) = true := decide_eq_true t2
              have m17 := fun s : InW w4 => s.cell zb d17
              have m18 := fun s : InW w4 => s.cell zb d18
              have m19 := fun s : InW w4 => s.cell zb d19
              have m20 := fun s : InW w4 => s.cell zb d20
              have m21 := fun s : InW w4 => s.cell zb d21
              have m22 := fun s : InW w4 => s.cell zb d22
              clear d17 d18 d19 d20 d21 d22 HE
              go_wp2_with fail
              refine wp_region_tame (by kernel_rfl) (by kernel_rfl) ?_
              repeat (go_big_quiet_step (first | (go_at_call 26; exact tame_of (GD.out _))))
              refine wpQuiet_nil ?_
              rintro _ ⟨sw, rfl⟩
              have qs := hide sw.h
              clear m17 m18 m19 m20 m21 m22
              go_wp2_with fail
              go_meet
              exact ⟨by simp, qs⟩
            have t2d : decide (9 < tl) = false := decide_eq_false t2
            exfalso
            have hh := HE.out
            revert hh
            simp
            try omega
      · have s5d : decide (sn < 5) = false := decide_eq_false s5
        cases en
        · skip
          cases gd
          · skip
            by_cases t1 : tl < 0
            · have t1d : decide (tl < 0) = true := decide_eq_true t1
              have m17 := fun s : InW w4 => s.cell zb d17
              have m18 := fun s : InW w4 => s.cell zb d18
              have m19 := fun s : InW w4 => s.cell zb d19
              have m20 := fun s : InW w4 => s.cell zb d20
              have m21 := fun s : InW w4 => s.cell zb d21
              have m22 := fun s : InW w4 => s.cell zb d22
              clear d17 d18 d19 d20 d21 d22 HE
              go_wp2_with fail
              refine wp_region_tame (by kernel_rfl) (by kernel_rfl) ?_
              repeat (go_big_quiet_step (first | (go_at_call 26; exact tame_of (GD.out _))))
              refine wpQuiet_nil ?_
              rintro _ ⟨sw, rfl⟩
              have qs := hide sw.h
              clear m17 m18 m19 m20 m21 m22
              go_wp2_with fail
              go_meet
              exact ⟨by simp, qs⟩
            have t1d : decide (tl < 0) = false := decide_eq_false t1
            by_cases t2 : 9 < tl
            · have t2d : decide (9 < tl) = true := decide_eq_true t2
              have m17 := fun s : InW w4 => s.cell zb d17
              have m18 := fun s : InW w4 => s.cell zb d18
              have m19 := fun s : InW w4 => s.cell zb d19
              have m20 := fun s : InW w4 => s.cell zb d20
              have m21 := fun s : InW w4 => s.cell zb d21
              have m22 := fun s : InW w4 => s.cell zb d22
              clear d17 d18 d19 d20 d21 d22 HE
              go_wp2_with fail
              refine wp_region_tame (by kernel_rfl) (by kernel_rfl) ?_
              repeat (go_big_quiet_step (first | (go_at_call 26; exact tame_of (GD.out _))))
              refine wpQuiet_nil ?_
              rintro _ ⟨sw, rfl⟩
              have qs := hide sw.h
              clear m17 m18 m19 m20 m21 m22
              go_wp2_with fail
              go_meet
              exact ⟨by simp, qs⟩
            have t2d : decide (9 < tl) = false := decide_eq_false t2
            by_cases t3 : tl = 0
            · subst t3
              exfalso
              have hh := HE.out
              revert hh
              simp
              try omega
            have t3d : (tl != 0) = true := by simpa using t3
            have m17 := fun s : InW w4 => s.cell zb d17
            have m18 := fun s : InW w4 => s.cell zb d18
            have m19 := fun s : InW w4 => s.cell zb d19
            have m20 := fun s : InW w4 => s.cell zb d20
            have m21 := fun s : InW w4 => s.cell zb d21
            have m22 := fun s : InW w4 => s.cell zb d22
            clear d17 d18 d19 d20 d21 d22 HE
            go_wp2_with fail
            refine wp_region_tame (by kernel_rfl) (by kernel_rfl) ?_
            repeat (go_big_quiet_step (first | (go_at_call 26; exact tame_of (GD.out _))))
            refine wpQuiet_nil ?_
            rintro _ ⟨sw, rfl⟩
            have qs := hide sw.h
            clear m17 m18 m19 m20 m21 m22
            go_wp2_with fail
            go_meet
            exact ⟨by simp, qs⟩
          · skip
            have m17 := fun s : InW w4 => s.cell zb d17
            have m18 := fun s : InW w4 => s.cell zb d18
            have m19 := fun s : InW w4 => s.cell zb d19
            have m20 := fun s : InW w4 => s.cell zb d20
            have m21 := fun s : InW w4 => s.cell zb d21
            have m22 := fun s : InW w4 => s.cell zb d22
            clear d17 d18 d19 d20 d21 d22 HE
            go_wp2_with fail
            refine wp_region_tame (by kernel_rfl) (by kernel_rfl) ?_
            repeat (go_big_quiet_step (first | (go_at_call 26; exact tame_of (GD.out _))))
            refine wpQuiet_nil ?_
            rintro _ ⟨sw, rfl⟩
            have qs := hide sw.h
            clear m17 m18 m19 m20 m21 m22
            go_wp2_with fail
            go_meet
            exact ⟨by simp, qs⟩
        · skip
          have m17 := fun s : InW w4 => s.cell zb d17
          have m18 := fun s : InW w4 => s.cell zb d18
          have m19 := fun s : InW w4 => s.cell zb d19
          have m20 := fun s : InW w4 => s.cell zb d20
          have m21 := fun s : InW w4 => s.cell zb d21
          have m22 := fun s : InW w4 => s.cell zb d22
          clear d17 d18 d19 d20 d21 d22 HE
          go_wp2_with fail
          refine wp_region_tame (by kernel_rfl) (by kernel_rfl) ?_
          repeat (go_big_quiet_step (first | (go_at_call 26; exact tame_of (GD.out _))))
          refine wpQuiet_nil ?_
          rintro _ ⟨sw, rfl⟩
          have qs := hide sw.h
          clear m17 m18 m19 m20 m21 m22
          go_wp2_with fail
          go_meet
          exact ⟨by simp, qs⟩
    have j1 : ((c.got.size : Int) == (z : Int)) = false := by rw [beq_eq_false_iff_ne]; omega
    cases en
    · skip
      cases gd
      · skip
        by_cases t1 : tl < 0
        · have t1d : decide (tl < 0) = true := decide_eq_true t1
          have m17 := fun s : InW w4 => s.cell zb d17
          have m18 := fun s : InW w4 => s.cell zb d18
          have m19 := fun s : InW w4 => s.cell zb d19
          have m20 := fun s : InW w4 => s.cell zb d20
          have m21 := fun s : InW w4 => s.cell zb d21
          have m22 := fun s : InW w4 => s.cell zb d22
          clear d17 d18 d19 d20 d21 d22 HE
          go_wp2_with fail
          refine wp_region_tame (by kernel_rfl) (by kernel_rfl) ?_
          repeat (go_big_quiet_step (first | (go_at_call 26; exact tame_of (GD.out _))))
          refine wpQuiet_nil ?_
          rintro _ ⟨sw, rfl⟩
          have qs := hide sw.h
          clear m17 m18 m19 m20 m21 m22
          go_wp2_with fail
          go_meet
          exact ⟨by simp, qs⟩
        have t1d : decide (tl < 0) = false := decide_eq_false t1
        by_cases t2 : 9 < tl
        · have t2d : decide (9 < tl) = true := decide_eq_true t2
          have m17 := fun s : InW w4 => s.cell zb d17
          have m18 := fun s : InW w4 => s.cell zb d18
          have m19 := fun s : InW w4 => s.cell zb d19
          have m20 := fun s : InW w4 => s.cell zb d20
          have m21 := fun s : InW w4 => s.cell zb d21
          have m22 := fun s : InW w4 => s.cell zb d22
          clear d17 d18 d19 d20 d21 d22 HE
          go_wp2_with fail
          refine wp_region_tame (by kernel_rfl) (by kernel_rfl) ?_
          repeat (go_big_quiet_step (first | (go_at_call 26; exact tame_of (GD.out _))))
          refine wpQuiet_nil ?_
          rintro _ ⟨sw, rfl⟩
          have qs := hide sw.h
          clear m17 m18 m19 m20 m21 m22
          go_wp2_with fail
          go_meet
          exact ⟨by simp, qs⟩
        have t2d : decide (9 < tl) = false := decide_eq_false t2
        by_cases t3 : tl = 0
        · subst t3
          exfalso
          have hh := HE.out
          revert hh
          simp
          try omega
        have t3d : (tl != 0) = true := by simpa using t3
        have m17 := fun s : InW w4 => s.cell zb d17
        have m18 := fun s : InW w4 => s.cell zb d18
        have m19 := fun s : InW w4 => s.cell zb d19
        have m20 := fun s : InW w4 => s.cell zb d20
        have m21 := fun s : InW w4 => s.cell zb d21
        have m22 := fun s : InW w4 => s.cell zb d22
        clear d17 d18 d19 d20 d21 d22 HE
        go_wp2_with fail
        refine wp_region_tame (by kernel_rfl) (by kernel_rfl) ?_
        repeat (go_big_quiet_step (first | (go_at_call 26; exact tame_of (GD.out _))))
        refine wpQuiet_nil ?_
        rintro _ ⟨sw, rfl⟩
        have qs := hide sw.h
        clear m17 m18 m19 m20 m21 m22
        go_wp2_with fail
        go_meet
        exact ⟨by simp, qs⟩
      · skip
        have m17 := fun s : InW w4 => s.cell zb d17
        have m18 := fun s : InW w4 => s.cell zb d18
        have m19 := fun s : InW w4 => s.cell zb d19
        have m20 := fun s : InW w4 => s.cell zb d20
        have m21 := fun s : InW w4 => s.cell zb d21
        have m22 := fun s : InW w4 => s.cell zb d22
        clear d17 d18 d19 d20 d21 d22 HE
        go_wp2_with fail
        refine wp_region_tame (by kernel_rfl) (by kernel_rfl) ?_
        repeat (go_big_quiet_step (first | (go_at_call 26; exact tame_of (GD.out _))))
        refine wpQuiet_nil ?_
        rintro _ ⟨sw, rfl⟩
        have qs := hide sw.h
        clear m17 m18 m19 m20 m21 m22
        go_wp2_with fail
        go_meet
        exact ⟨by simp, qs⟩
    · skip
      have m17 := fun s : InW w4 => s.cell zb d17
      have m18 := fun s : InW w4 => s.cell zb d18
      have m19 := fun s : InW w4 => s.cell zb d19
      have m20 := fun s : InW w4 => s.cell zb d20
      have m21 := fun s : InW w4 => s.cell zb d21
      have m22 := fun s : InW w4 => s.cell zb d22
      clear d17 d18 d19 d20 d21 d22 HE
      go_wp2_with fail
      refine wp_region_tame (by kernel_rfl) (by kernel_rfl) ?_
      repeat (go_big_quiet_step (first | (go_at_call 26; exact tame_of (GD.out _))))
      refine wpQuiet_nil ?_
      rintro _ ⟨sw, rfl⟩
      have qs := hide sw.h
      clear m17 m18 m19 m20 m21 m22
      go_wp2_with fail
      go_meet
      exact ⟨by simp, qs⟩
  case rest =>
  rename_i hK2 _ hK
  obtain ⟨rfl, hq⟩ := hcut
  replace Q := hide (below_next Q.out Q.out.size hq.out)
  clear hq GD
  refine hK _ _ ?_
  refine wp_cond_true (by rfl) ?_
  clear hK hK2
  go_wp2_with fail
  go_ret
  exact ⟨rfl, Q.out⟩
end Go.Proofs.YtkfedgjepiljiaaGreatDoor
