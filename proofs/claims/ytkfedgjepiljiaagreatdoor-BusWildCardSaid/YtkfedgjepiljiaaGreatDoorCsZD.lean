/- The walk of ctl.in of any controller: the third part; all of it. -/
import Derived.Test.YtkfedgjepiljiaaGreatDoorCsZC
namespace Go.Proofs.YtkfedgjepiljiaaGreatDoor
open Go.ChangeShapes Go.WideShapes Go.ChangeAt Go.RowKit
open FP (Fr uN uK doneB sizeE sizeV goodB bitsF bodyF RS rsOf)

set_option maxRecDepth 100000 in
set_option maxHeartbeats 64000000 in
theorem ctlIn_noS (c : Cl) (w : World) (hL : c.last = (c.L.toNat : Int)) (hs : c.got.size ≤ 300) (hid : c.f.id < 4294967296) (hA : inA c = true) (hE : inE c = true) (hS : inS c = false) : Calls Tryz.prog 14 #[.agg c.cs.toArray] w fun e w' => e = .returned (.bool false) ∧ Below w.heap.size w w' := by
  have hsz : c.g.length = c.got.size := Array.length_toList
  obtain ⟨a1, a2, a3, a4, a5, a6, a7⟩ := inA_iff hA
  obtain ⟨e1, e2, e3, e4, e5, e6⟩ := inE_iff hE
  have bits := (bitRow_iff.1 a3).2
  have hNN : c.sn = (c.N : Int) := by unfold Cl.N; omega
  have stk : StK c.L c.N := by
    rcases stB_iff.1 a6 with ⟨q, _⟩ | ⟨q1, q2, q3⟩
    · omega
    · exact .inr ⟨q1, by omega, by omega⟩
  have SZ := hide (fun W => show Calls Tryz.prog 22 #[.string c.got] W fun e w' => e = .returned (.tuple #[.int .i64 (sizeV c.g : Nat), .int .i64 (sizeE c.g : Nat)]) ∧ Below W.heap.size W w' from frSize_any c.got W bits (by omega))
  have CZ := hide (fun W => show Calls Tryz.prog 25 #[.string c.got] W fun e w' => e = .returned (.int .i64 (sizC c.g : Nat)) ∧ Below W.heap.size W w' from ctlSize_any c.got W bits (by omega))
  have BR := hide (fun W => show Calls Tryz.prog 23 #[.string c.got] W fun e w' => e = .returned (.bool true) ∧ Below W.heap.size W w' from a3 ▸ bitsRight_any c.got W (by unfold maxLen; omega))
  have GD := hide (fun W => show Calls Tryz.prog 26 #[.string c.got] W fun e w' => e = .returned (.bool (goodB c.g)) ∧ Below W.heap.size W w' from ctlGood_any c.got W bits (by omega))
  have SR := hide (fun W => stRight_any c.L c.N W stk)
  have i1 : (1 : Int) ≤ c.got.size := by omega
  have i2 : (c.got.size : Int) ≤ 200 := by omega
  have hs0 : 0 < c.got.size := by omega
  have f0 : (((c.got[0]'hs0).toNat : Int) != 48) = false := by
    have e : c.got[0]'hs0 = 48 := by
      have h3 : c.got.data.toList[0]? = some (c.got[0]'hs0) := get_some c.got 0 hs0
      exact Option.some.inj (h3.symm.trans a4)
    rw [e]; rfl
  have e12 : ((sizeE c.g : Int) == 12) = false := by rw [beq_eq_false_iff_ne]; omega
  have n1 : ¬ (c.N : Int) < 1 := by omega
  have n1' : (1 : Int) ≤ (c.N : Int) := by omega
  have t0 := e4
  have t9 := e5
  have t0d : decide (c.tail < 0) = false := decide_eq_false (by omega)
  have t9d : decide (9 < c.tail) = false := decide_eq_false (by omega)
  have CASES := hide (show c.en = true ∧ sizC c.g = c.got.size ∧ c.N < 5 ∧ c.good = goodB c.g ∨ c.en = false ∧ c.good = false ∧ c.tail = 0 ∧ (sizC c.g = 0 ∨ (c.got.size < sizC c.g) ∨ (sizC c.g = c.got.size ∧ 5 ≤ c.N)) from by
    cases he : c.en
    · rw [he] at e2 e3 e6
      have e2 := e2.symm
      simp only [Bool.and_eq_false_iff, decide_eq_false_iff_not] at e2
      refine .inr ⟨rfl, by rw [e3]; rfl, e6.elim (fun q => by cases q) id, ?_⟩
      omega
    · rw [he] at e2 e3
      have e2 := e2.symm
      simp only [Bool.and_eq_true, decide_eq_true_eq] at e2
      exact .inl ⟨rfl, e2.1.symm, by omega, by rw [e3]; rfl⟩)
  have HS := hide hS
  have HID := hide hid
  have HL := hide hL
  have HN := hide hNN
  have TN := hide (show 0 ≤ c.tail ∧ c.tail ≤ 9 from ⟨e4, e5⟩)
  clear hL hNN stk hid
  obtain ⟨w0, hw0⟩ : ∃ w0, w0 = w.alloc (.cells c.cs.toArray 33) := ⟨_, rfl⟩
  have B0 := hide (World.alloc_heap_new w (.cells c.cs.toArray 33))
  have Q0 : Hid (Below w.heap.size w w0) := by rw [hw0]; exact hide ((Below.refl _ _).alloc (Nat.le_refl _) _)
  rw [← hw0] at B0
  clear hA hE hS hs hsz bits a1 a2 a3 a4 a5 a6 a7 e1 e2 e3 e4 e5 e6
  generalize sizeV c.g = sv at *
  generalize sizeE c.g = se at *
  generalize sizC c.g = z at *
  generalize goodB c.g = gb at *
  obtain ⟨L, hL⟩ : ∃ L, L = c.L := ⟨_, rfl⟩
  obtain ⟨N, hN⟩ : ∃ N, N = c.N := ⟨_, rfl⟩
  rw [← hL] at SR HL
  rw [← hN] at SR HN n1 n1' CASES
  have RSE := hide (show c.L = L ∧ c.N = N from ⟨hL.symm, hN.symm⟩)
  clear hL hN
  obtain ⟨⟨c8, c9, c10, c11, c12, c13⟩, ⟨d14, d15, d16, d17, d18, d19, d20, d21, d22⟩⟩ := in_cells B0.out HL.out HN.out
  go_enter Tryz.func14, Tryz.ntmps14
  go_upto_region 1 with fail
  change Code.wp _ _ _ _ (w.alloc (.cells c.cs.toArray 33))
  rw [← hw0]
  clear hw0
  go_wp2_with fail
  (with_reducible refine (SZ.out _).mono ?_)
  rintro e1 w1 ⟨rfl, q1⟩
  have B1 := hide (heap_below B0.out q1)
  have Q1 := hide (below_next Q0.out Q0.out.size q1)
  clear q1 B0 Q0 SZ c8 c9 c10 c11 c12 c13 d14 d15 d16 d17 d18 d19 d20 d21 d22
  obtain ⟨⟨c8, c9, c10, c11, c12, c13⟩, ⟨d14, d15, d16, d17, d18, d19, d20, d21, d22⟩⟩ := in_cells B1.out HL.out HN.out
  go_wp2_with fail
  (with_reducible refine (BR.out _).mono ?_)
  rintro e2 w2 ⟨rfl, q2⟩
  have B2 := hide (heap_below B1.out q2)
  have Q2 := hide (below_next Q1.out Q1.out.size q2)
  clear q2 B1 Q1 BR c8 c9 c10 c11 c12 c13 d14 d15 d16 d17 d18 d19 d20 d21 d22
  obtain ⟨⟨c8, c9, c10, c11, c12, c13⟩, ⟨d14, d15, d16, d17, d18, d19, d20, d21, d22⟩⟩ := in_cells B2.out HL.out HN.out
  go_wp2_with fail
  (with_reducible refine (SR.out _).mono ?_)
  rintro e3 w3 ⟨rfl, q3⟩
  have B3 := hide (heap_below B2.out q3)
  have Q3 := hide (below_next Q2.out Q2.out.size q3)
  clear q3 B2 Q2 SR c8 c9 c10 c11 c12 c13 d14 d15 d16 d17 d18 d19 d20 d21 d22
  obtain ⟨⟨c8, c9, c10, c11, c12, c13⟩, ⟨d14, d15, d16, d17, d18, d19, d20, d21, d22⟩⟩ := in_cells B3.out HL.out HN.out
  go_wp2_with fail
  (with_reducible refine (CZ.out _).mono ?_)
  rintro e4 w4 ⟨rfl, q4⟩
  have B4 := hide (heap_below B3.out q4)
  have Q4 := hide (below_next Q3.out Q3.out.size q4)
  clear q4 B3 Q3 CZ c8 c9 c10 c11 c12 c13 d14 d15 d16 d17 d18 d19 d20 d21 d22 f0 e12 n1
  go_upto_region 5 with fail
  go_cut [113] (fun v W => v = .bool false ∧ Hid (Below w4.heap.size w4 W))
  case first =>
    obtain ⟨⟨c8, c9, c10, c11, c12, c13⟩, ⟨d14, d15, d16, d17, d18, d19, d20, d21, d22⟩⟩ := in_cells B4.out HL.out HN.out
    have zb : w.heap.size < w4.heap.size := heap_lt B4.out
    have GW := fun s : InW w4 => GD.out s.W
    rcases CASES.out with ⟨k1, k2, k3, k4⟩ | ⟨k1, k2, k3, k4⟩
    · rw [k1] at d20
      rw [k4] at d22
      have m17 := fun s : InW w4 => s.cell zb d17
      have m18 := fun s : InW w4 => s.cell zb d18
      have m19 := fun s : InW w4 => s.cell zb d19
      have m20 := fun s : InW w4 => s.cell zb d20
      have m21 := fun s : InW w4 => s.cell zb d21
      have m22 := fun s : InW w4 => s.cell zb d22
      have k3' : (N : Int) < 5 := by omega
      subst k2
      clear k1 k3 k4 CASES c8 c9 c10 c11 c12 c13 d14 d15 d16 d17 d18 d19 d20 d21 d22
      go_wp2_with fail
      refine wp_region_tame (by kernel_rfl) (by kernel_rfl) ?_
      repeat (go_big_quiet_step (first | (go_at_call 26; exact tame_of (GD.out _))))
      refine wpQuiet_nil ?_
      rintro _ ⟨sw, rfl⟩
      have qs := hide sw.h
      clear m17 m18 m19 m20 m21 m22
      go_wp2_with fail
      go_meet
      exact ⟨by simp, qs⟩
    · rw [k1] at d20
      rw [k2] at d22
      rw [k3] at d21
      have m17 := fun s : InW w4 => s.cell zb d17
      have m18 := fun s : InW w4 => s.cell zb d18
      have m19 := fun s : InW w4 => s.cell zb d19
      have m20 := fun s : InW w4 => s.cell zb d20
      have m21 := fun s : InW w4 => s.cell zb d21
      have m22 := fun s : InW w4 => s.cell zb d22
      clear k1 k2 k3 CASES c8 c9 c10 c11 c12 c13 d14 d15 d16 d17 d18 d19 d20 d21 d22
      rcases k4 with k4 | k4 | ⟨k4, k5⟩
      · subst k4
        have j1 : ((c.got.size : Int) == 0) = false := by rw [beq_eq_false_iff_ne]; omega
        go_wp2_with fail
        refine wp_region_tame (by kernel_rfl) (by kernel_rfl) ?_
        repeat (go_big_quiet_step (first | (go_at_call 26; exact tame_of (GD.out _))))
        refine wpQuiet_nil ?_
        rintro _ ⟨sw, rfl⟩
        have qs := hide sw.h
        clear m17 m18 m19 m20 m21 m22
        go_wp2_with fail
        go_meet
        exact ⟨by simp, qs⟩
      · have j1 : ((c.got.size : Int) == (z : Int)) = false := by rw [beq_eq_false_iff_ne]; omega
        have j2 : 0 < z := by omega
        have j4 : decide (z < c.got.size) = false := decide_eq_false (by omega)
        have j3 : (c.got.size : Int) ≤ (z : Int) := by omega
        clear k4
        go_wp2_with fail
        refine wp_region_tame (by kernel_rfl) (by kernel_rfl) ?_
        repeat (go_big_quiet_step (first | (go_at_call 26; exact tame_of (GD.out _))))
        refine wpQuiet_nil ?_
        rintro _ ⟨sw, rfl⟩
        have qs := hide sw.h
        clear m17 m18 m19 m20 m21 m22
        go_wp2_with fail
        go_meet
        exact ⟨by simp, qs⟩
      · subst k4
        have k5' : decide ((N : Int) < 5) = false := decide_eq_false (by omega)
        clear k5
        go_wp2_with fail
        refine wp_region_tame (by kernel_rfl) (by kernel_rfl) ?_
        repeat (go_big_quiet_step (first | (go_at_call 26; exact tame_of (GD.out _))))
        refine wpQuiet_nil ?_
        rintro _ ⟨sw, rfl⟩
        have qs := hide sw.h
        clear m17 m18 m19 m20 m21 m22
        go_wp2_with fail
        go_meet
        exact ⟨by simp, qs⟩
  case rest =>
  rename_i hK2 _ hK
  obtain ⟨rfl, hq⟩ := hcut
  refine hK _ _ ?_
  refine wp_cond_false (by rfl) (wp_skip ?_)
  refine hK2 _ _ ?_
  clear hK hK2
  have B5 := hide (heap_below B4.out hq.out)
  have Q5 := hide (below_next Q4.out Q4.out.size hq.out)
  clear hq B4 Q4 GD
  obtain ⟨⟨c8, c9, c10, c11, c12, c13⟩, ⟨d14, d15, d16, d17, d18, d19, d20, d21, d22⟩⟩ := in_cells B5.out HL.out HN.out
  clear CASES t0d t9d
  rcases Bool.eq_false_or_eq_true c.sends with hs | hs
  · have FB := hide (fun W => frBits_any c.f W HID.out)
    have hsS := HS.out
    unfold inS at hsS
    rw [if_pos hs] at hsS
    have HSS := hide hsS
    rw [hs] at d14
    clear hs hsS HS
    obtain ⟨V, hV⟩ : ∃ V, V = bitsV c.f := ⟨_, rfl⟩
    obtain ⟨E, hE⟩ : ∃ E, E = headE c.f := ⟨_, rfl⟩
    rw [← hV, ← hE] at FB
    have HV := hide hV
    have HE := hide hE
    clear hV hE
    go_wp2_with fail
    (with_reducible refine (FB.out _).mono ?_)
    rintro e6 w6 ⟨rfl, q6⟩
    have B6 := hide (heap_below B5.out q6)
    have Q6 := hide (below_next Q5.out Q5.out.size q6)
    clear q6 B5 Q5 FB c8 c9 c10 c11 c12 c13 d14 d15 d16 d17 d18 d19 d20 d21 d22
    obtain ⟨⟨c8, c9, c10, c11, c12, c13⟩, ⟨d14, d15, d16, d17, d18, d19, d20, d21, d22⟩⟩ := in_cells B6.out HL.out HN.out
    rcases Bool.eq_false_or_eq_true c.has with hh | hh
    case inr =>
      rw [hh] at c8
      clear hh
      go_wp2_with fail
      go_ret
      exact ⟨rfl, Q6.out⟩
    have HH := hide hh
    rw [hh] at c8
    clear hh
    by_cases hr : FP.rightB c.f = true
    case neg =>
      have hE1 : E = 1 := by rw [HE.out]; unfold headE; rw [if_neg hr]
      subst hE1
      clear hr
      go_wp2_with fail
      go_ret
      exact ⟨rfl, Q6.out⟩
    have hE0 : E = 0 := by rw [HE.out]; unfold headE; rw [if_pos hr]
    subst hE0
    have hVV : V = ⟨(bitsF c.f).toArray⟩ := by rw [HV.out]; unfold bitsV; rw [if_pos hr]
    have hVL : V.toList = bitsF c.f := by rw [hVV, Lib.toList_data]
    have HVV := hide hVV
    have HVL := hide hVL
    have HR := hide hr
    clear hVV hVL hr
    by_cases ho : c.out = V
    case neg =>
      have ho2 : ¬ c.out.toList = V.toList := fun q => ho (by
        rw [Lib.toList_data, Lib.toList_data] at q
        rw [ByteArray.ext_iff, ← Array.toList_inj]
        exact q)
      have ho3 : (c.out.toList == V.toList) = false := by rw [beq_eq_false_iff_ne]; exact ho2
      have ho4 : (c.out.toList != V.toList) = true := by rw [bne_iff_ne]; exact ho2
      clear ho
      go_wp2_with fail
      go_ret
      exact ⟨rfl, Q6.out⟩
    subst ho
    have hbl := FP.body_len c.f
    have hble := FP.body_le HR.out
    have hov := HVV.out
    have hol : c.out.size = (bodyF c.f).length + 10 := by rw [hov, size_of]; exact hbl
    have hos : (c.out.size : Int) - 10 = ((bodyF c.f).length : Int) := by omega
    have hbl2 : ((bodyF c.f).length : Int) ≤ 147 := by omega
    have HXX := hide (show ((if c.en = true then decide (c.at_ = ((bodyF c.f).length : Int) + c.tail) else decide (1 ≤ c.at_) && decide (c.at_ < ((bodyF c.f).length : Int))) && rsB (rsOf ((bodyF c.f).take c.at_.toNat)) c.L c.N c.g) = false from by
      have h := HSS.out
      rw [HH.out, decide_eq_true HR.out, decide_eq_true hov, Bool.true_and, Bool.true_and, Bool.true_and] at h
      exact h)
    have HTK := hide (fun (M : Nat) (hM : M ≤ (bodyF c.f).length) => show (c.out.extract 0 M).data.toList = (bodyF c.f).take M from by
      rw [toList_extract, hov, toList_of, List.extract_eq_take_drop, List.drop_zero, Nat.sub_zero, FP.body_take c.f M hM])
    have HBT := hide (show ∀ x ∈ c.out.data.toList, x = 48 ∨ x = 49 from by rw [hov]; exact FP.bits_bits c.f)
    clear hov hbl hble HVV HVL HV HE HSS
    generalize hbd : bodyF c.f = bd at *
    clear hbd
    by_cases E13 : (c.en = true ∧ c.at_ = (bd.length : Int) + c.tail) ∨ (c.en = false ∧ 1 ≤ c.at_ ∧ c.at_ < (bd.length : Int))
    case neg =>
      have E14 := hide E13
      clear E13 HXX HTK HBT HH HR
      cases he : c.en
      · rw [he] at d20
        have E15 : c.at_ < 1 ∨ (1 ≤ c.at_ ∧ (bd.length : Int) ≤ c.at_) := by
          have := E14.out
          rw [he] at this
          simp only [Bool.false_eq_true, false_and, true_and, false_or, not_and, Int.not_lt] at this
          omega
        clear he E14
        rcases E15 with k | ⟨k, k2⟩
        · generalize bd.length = bl at *
          go_wp2_with fail
          go_ret
          exact ⟨rfl, Q6.out⟩
        · generalize bd.length = bl at *
          go_wp2_with fail
          go_ret
          exact ⟨rfl, Q6.out⟩
      · rw [he] at d20
        have k : ¬ c.at_ = (bd.length : Int) + c.tail := fun q => E14.out (.inl ⟨he, q⟩)
        have k2 : (c.at_ != (bd.length : Int) + c.tail) = true := by rw [bne_iff_ne]; exact k
        clear he E14
        generalize bd.length = bl at *
        go_wp2_with fail
        go_ret
        exact ⟨rfl, Q6.out⟩
    have HRB := hide (show rsB (rsOf (bd.take c.at_.toNat)) c.L c.N c.g = false from by
      have h := HXX.out
      rcases E13 with ⟨q1, q2⟩ | ⟨q1, q2, q3⟩
      · rw [if_pos q1, decide_eq_true q2, Bool.true_and] at h; exact h
      · rw [if_neg (by rw [q1]; decide), decide_eq_true q2, decide_eq_true q3, Bool.true_and, Bool.true_and] at h; exact h)
    obtain ⟨M, hM, hMl, hMt⟩ : ∃ M : Nat, min c.at_ (bd.length : Int) = (M : Int) ∧ M ≤ bd.length ∧ bd.take c.at_.toNat = bd.take M := by
      by_cases hle : (bd.length : Int) ≤ c.at_
      · exact ⟨bd.length, by omega, Nat.le_refl _, by rw [List.take_of_length_le (by omega), List.take_of_length_le (Nat.le_refl _)]⟩
      · have : 0 ≤ c.at_ := by
          rcases E13 with ⟨q1, q2⟩ | ⟨q1, q2, q3⟩ <;> omega
        exact ⟨c.at_.toNat, by omega, by omega, rfl⟩
    have RD0 := (fun W => ctlRead_any (c.out.extract 0 M) W (extract_bits HBT.out _ _) (by rw [ByteArray.size_extract]; omega))
    rw [HTK.out M hMl, ← hMt] at RD0
    obtain ⟨r, hrr⟩ : ∃ r, r = rsOf (bd.take c.at_.toNat) := ⟨_, rfl⟩
    have hrb := HRB.out
    rw [← hrr] at RD0 hrb
    obtain ⟨ra, rb, rg⟩ := r
    dsimp only at RD0
    obtain ⟨S2, hS2⟩ : ∃ S2 : ByteArray, S2 = ⟨rg.toArray⟩ := ⟨_, rfl⟩
    rw [← hS2] at RD0
    have RD := hide RD0
    have HNO := hide (show (ra.toNat : Int) = (L.toNat : Int) → (rb : Int) = (N : Int) → S2.toList = c.got.toList → False from fun p q u => by
      rw [rsB_iff.2] at hrb
      · cases hrb
      · rw [RSE.out.1, RSE.out.2]
        have e1 : ra = L := UInt8.toNat_inj.1 (by omega)
        have e2 : rb = N := by omega
        rw [hS2, Lib.toList_data, Lib.toList_data] at u
        have e3 : rg = c.g := by show rg = c.got.data.toList; simpa using u
        rw [e1, e2, e3])
    obtain ⟨m, em, hmin⟩ := run_min (P := Tryz.prog) c.at_ (bd.length : Int)
    rw [hM] at em
    subst em
    have HMIN := hide hmin
    have hMs : (M : Int) ≤ c.out.size := by omega
    have hM2 : (M : Int) ≤ 147 := by omega
    have E14 := hide E13
    clear hM hMl hMt RD0 hrr hrb hS2 hmin hol E13 HXX HTK HBT HRB HH HR
    generalize bd.length = bl at *
    go_upto_region 13 with fail
    go_cut [173] (fun v W => v = .bool false ∧ W = w6)
    case first =>
      rcases E14.out with ⟨k1, k2⟩ | ⟨k1, k2, k3⟩
      · rw [k1] at d20
        rw [k2] at d16
        go_wp2_with fail
        go_meet
        exact ⟨rfl, rfl⟩
      · rw [k1] at d20
        have k2' : decide (c.at_ < 1) = false := decide_eq_false (by omega)
        have k3' : decide ((bl : Int) ≤ c.at_) = false := decide_eq_false (by omega)
        go_wp2_with fail
        go_meet
        exact ⟨rfl, rfl⟩
    case rest =>
    rename_i hK2 _ hK
    obtain ⟨rfl, rfl⟩ := hcut
    refine hK _ _ ?_
    refine wp_cond_false (by rfl) (wp_skip ?_)
    refine hK2 _ _ ?_
    clear hK hK2 E14
    have hmin := HMIN.out
    go_wp2_with fail
    (with_reducible refine (RD.out _).mono ?_)
    rintro e7 w7 ⟨rfl, q7⟩
    clear hmin
    have q8 : Below w7.heap.size w7 (w7.alloc (.cells #[.int .u8 0, .int .i64 0] 31)) := (Below.refl _ _).alloc (Nat.le_refl _) _
    have B7 := hide (heap_below (heap_below B6.out q7) q8)
    have Q7 := hide (below_next Q6.out Q6.out.size q7)
    have Y7 := hide (World.alloc_heap_new w7 (.cells #[.int .u8 0, .int .i64 0] 31))
    have T7 := hide (show (w7.alloc (.cells #[.int .u8 0, .int .i64 0] 31)).there w7.heap.size 0 2 from there_heap (cs := [_, _]) Y7.out)
    have Q8 := hide (below_next Q7.out Q7.out.size q8)
    have z7 : w.heap.size < w7.heap.size := heap_lt (heap_below B6.out q7)
    clear q7 q8 B6 Q6 Q7 RD HMIN c8 c9 c10 c11 c12 c13 d14 d15 d16 d17 d18 d19 d20 d21 d22
    go_wp2_with (refine wpList_store_hid (by rfl) 31 (.tmp 8) (.tmp 182) (by rfl) w7.heap.size 0 [.int .u8 ra.toNat, .int .i64 rb] (by rfl) (by rfl) (by exact T7.out) (by kernel_rfl) (by simp [Value.oneCell']) ?_)
    intro w8 e8
    have Y8 := hide (show w8.heap[w7.heap.size]? = some (.cells #[.int .u8 ra.toNat, .int .i64 rb] 31 (0, 0)) by rw [e8.out]; exact whole_heap [.int .u8 ra.toNat, .int .i64 rb] (xs := [_, _]) Y7.out rfl)
    have B8 := hide (show w8.heap[w.heap.size]? = some (.cells c.cs.toArray 33 (0, 0)) by rw [e8.out]; exact other_heap (by omega) _ _ _ B7.out)
    have QQ := hide (show Below w.heap.size w w8 by rw [e8.out]; exact Q8.out.trans (below_setCells _ _ _ (by omega)))
    obtain ⟨⟨c8, c9, c10, c11, c12, c13⟩, ⟨d14, d15, d16, d17, d18, d19, d20, d21, d22⟩⟩ := in_cells B8.out HL.out HN.out
    obtain ⟨x0, x1, _⟩ := two_st Y8.out
    clear e8 T7 Y7 B7 Q8 c8 c9 c10 c11 c12 c13 d14 d15 d16 d20 d21 d22
    go_wp2_with fail
    all_goals go_ret
    all_goals first
      | (refine ⟨rfl, QQ.out⟩; done)
      | (refine ⟨?_, QQ.out⟩; simp; exact fun u => HNO.out (by omega) (by omega) u)
      | (refine ⟨?_, QQ.out⟩; simp [*]; done)
      | exact absurd (HNO.out (by omega) (by omega) (by assumption)) (fun h => h)
  · have hsS := HS.out
    unfold inS at hsS
    rw [if_neg (by rw [hs]; decide)] at hsS
    have HSS := hide hsS
    rw [hs] at d14
    clear hs hsS HS
    by_cases ho : c.out.toList = []
    · have ho2 : c.out = ⟨#[]⟩ := by
        rw [Lib.toList_data] at ho
        rw [ByteArray.ext_iff, ← Array.toList_inj]
        exact ho
      have ha : ¬ c.at_ = 0 := fun q => by
        have := HSS.out
        rw [decide_eq_true ho2, decide_eq_true q] at this
        cases this
      have ha2 : (c.at_ == 0) = false := by rw [beq_eq_false_iff_ne]; exact ha
      rw [ho2] at d15
      clear ho ho2
      go_wp2_with fail
      go_ret
      exact ⟨by simp, Q5.out⟩
    · go_wp2_with fail
      go_ret
      exact ⟨rfl, Q5.out⟩
end Go.Proofs.YtkfedgjepiljiaaGreatDoor
