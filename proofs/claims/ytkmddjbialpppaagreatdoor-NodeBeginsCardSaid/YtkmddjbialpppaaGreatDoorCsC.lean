import Derived.Test.YtkmddjbialpppaaGreatDoorMgFbR
import Derived.Test.YtkmddjbialpppaaGreatDoorMgRdF
namespace Go.Proofs.YtkmddjbialpppaaGreatDoor
open Go.ChangeShapes Go.WideShapes Go.ChangeAt Go.RowKit
open FP (Fr uN uK iR cE cT jB gE dK RS iV)
theorem dX {W : World} {B : Nat} {c : Cl} {t : TypeId} {fz : Nat × Nat} (h : W.heap[B]? = some (.cells c.cs.toArray t fz)) {L : UInt8} {N : Nat} (hL : c.last = (L.toNat : Int)) (hN : c.sn = (N : Int)) :
    (W.cell? ⟨B, 8, none⟩ = some (.bool c.has) ∧ W.cell? ⟨B, 9, none⟩ = some (.int .u32 c.f.id) ∧ W.cell? ⟨B, 10, none⟩ = some (.bool c.f.ext) ∧ W.cell? ⟨B, 11, none⟩ = some (.bool c.f.rem) ∧ W.cell? ⟨B, 12, none⟩ = some (.int .i64 c.f.dlc) ∧ W.cell? ⟨B, 13, none⟩ = some (.string c.f.data)) ∧
    (W.cell? ⟨B, 14, none⟩ = some (.bool c.sends) ∧ W.cell? ⟨B, 15, none⟩ = some (.string c.out) ∧ W.cell? ⟨B, 16, none⟩ = some (.int .i64 c.at_) ∧ W.cell? ⟨B, 17, none⟩ = some (.int .u8 L.toNat) ∧ W.cell? ⟨B, 18, none⟩ = some (.int .i64 N) ∧ W.cell? ⟨B, 19, none⟩ = some (.string c.got) ∧ W.cell? ⟨B, 20, none⟩ = some (.bool c.en) ∧ W.cell? ⟨B, 21, none⟩ = some (.int .i64 c.tail) ∧ W.cell? ⟨B, 22, none⟩ = some (.bool c.good)) := by
  simp [World.cell?, h, Cl.cs, hL, hN]
theorem sizC_done {g : List UInt8} {n : Nat} (h : iR g n = true) : j6 g = g.length ∧ n < 5 := by
  unfold iR at h
  simp only [Bool.and_eq_true, decide_eq_true_eq] at h
  unfold j6
  rw [if_pos h.1]
  omega
theorem sizC_not {g : List UInt8} {n : Nat} (h : iR g n = false) (hl : cE g = 0 → g.length ≤ cT g + 15) : j6 g = 0 ∨ (g.length < j6 g) ∨ (j6 g = g.length ∧ 5 ≤ n) := by
  unfold j6
  by_cases e : cE g = 0
  · rw [if_pos e]
    have := hl e
    by_cases e2 : g.length = cT g + 15
    · right; right
      refine ⟨e2.symm, ?_⟩
      rcases Nat.lt_or_ge n 5 with h5 | h5
      · unfold iR at h
        rw [decide_eq_true e, decide_eq_true e2, decide_eq_true h5] at h
        cases h
      · exact h5
    · right; left; omega
  · rw [if_neg e]; exact .inl rfl
set_option maxRecDepth 100000 in
set_option maxHeartbeats 16000000 in
theorem ctlIn_ok (c : Cl) (w : World) (h : c.In) (hr : c.has = true → FP.rightB c.f = true) : Calls Tryz.prog 86 #[.agg c.cs.toArray] w fun e w' => e = .returned (.bool true) ∧ Below w.heap.size w w' := by
  have hsz : c.g.length = c.got.size := Array.length_toList
  have hm := FP.got_most h.size h.le
  have h1 : 1 ≤ c.g.length := by
    have := h.first
    cases hg : c.g with
    | nil => rw [hg] at this; cases this
    | cons a b => simp
  have SZ := aA (fun W => show Calls Tryz.prog 134 #[.string c.got] W fun e w' => e = .returned (.tuple #[.int .i64 (cT c.g : Nat), .int .i64 (cE c.g : Nat)]) ∧ Below W.heap.size W w' from iH c.got W h.bits (by omega))
  have CZ := aA (fun W => show Calls Tryz.prog 137 #[.string c.got] W fun e w' => e = .returned (.int .i64 (j6 c.g : Nat)) ∧ Below W.heap.size W w' from ctlSize_any c.got W h.bits (by omega))
  have BR := aA (fun W => show Calls Tryz.prog 135 #[.string c.got] W fun e w' => e = .returned (.bool true) ∧ Below W.heap.size W w' from (eJ.2 ⟨show c.g.length ≤ 4000 by omega, h.bits⟩ : dU c.g = true) ▸ eF c.got W (by unfold maxLen; omega))
  have GD := aA (fun W => show Calls Tryz.prog 138 #[.string c.got] W fun e w' => e = .returned (.bool (jB c.g)) ∧ Below W.heap.size W w' from ctlGood_any c.got W h.bits (by omega))
  have SR := aA (fun W => stRight_any c.L c.N W h.stk)
  have i1 : (1 : Int) ≤ c.got.size := by omega
  have i2 : (c.got.size : Int) ≤ 118 := by omega
  have hs0 : 0 < c.got.size := by omega
  have f0 : (((c.got[0]'hs0).toNat : Int) != 48) = false := by
    have e : c.got[0]'hs0 = 48 := by
      have h2 := h.first
      have h3 : c.got.data.toList[0]? = some (c.got[0]'hs0) := get_some c.got 0 hs0
      exact Option.some.inj (h3.symm.trans h2)
    rw [e]; rfl
  have e12 : ((cE c.g : Int) == 12) = false := by
    rw [beq_eq_false_iff_ne]
    have := h.size
    omega
  have n1 : ¬ (c.N : Int) < 1 := by have := h.n1; omega
  have n1' : (1 : Int) ≤ (c.N : Int) := by omega
  have t0 := h.t0
  have t9 := h.t9
  have t0d : decide (c.tail < 0) = false := decide_eq_false (by omega)
  have t9d : decide (9 < c.tail) = false := decide_eq_false (by omega)
  have CASES := aA (show c.en = true ∧ j6 c.g = c.got.size ∧ c.N < 5 ∧ c.good = jB c.g ∨ c.en = false ∧ c.good = false ∧ c.tail = 0 ∧ (j6 c.g = 0 ∨ (c.got.size < j6 c.g) ∨ (j6 c.g = c.got.size ∧ 5 ≤ c.N)) from by
    cases he : c.en
    · have hd : iR c.g c.N = false := by rw [← h.en]; exact he
      right
      rw [← hsz]
      exact ⟨rfl, by rw [h.good, he]; rfl, h.tn he, sizC_not hd h.le⟩
    · have hd : iR c.g c.N = true := by rw [← h.en]; exact he
      left
      have := sizC_done hd
      exact ⟨rfl, by rw [← hsz]; exact this.1, this.2, by rw [h.good, he]; rfl⟩)
  have NO := aA h.no
  have YES := aA h.yes
  have HR := aA hr
  have HL := aA h.last
  have HN := aA h.sn
  have HB := aA (show ∀ j, 0 ≤ j → (gE c.f).length = (dK c.f).length + 10 from fun _ _ => FP.body_len c.f)
  obtain ⟨w0, hw0⟩ : ∃ w0, w0 = w.alloc (.cells c.cs.toArray 39) := ⟨_, rfl⟩
  have B0 := aA (World.alloc_heap_new w (.cells c.cs.toArray 39))
  have Q0 : Hid (Below w.heap.size w w0) := by rw [hw0]; exact aA ((Below.refl _ _).alloc (Nat.le_refl _) _)
  rw [← hw0] at B0
  clear h hr hsz hm h1
  generalize cT c.g = sv at *
  generalize cE c.g = se at *
  generalize j6 c.g = z at *
  generalize jB c.g = gb at *
  obtain ⟨L, hL⟩ : ∃ L, L = c.L := ⟨_, rfl⟩
  obtain ⟨N, hN⟩ : ∃ N, N = c.N := ⟨_, rfl⟩
  rw [← hL] at SR HL
  rw [← hN] at SR HN n1 n1' CASES
  have RSE := aA (show (⟨c.L, c.N, c.g⟩ : RS) = ⟨L, N, c.g⟩ by rw [hL, hN])
  clear hL hN
  obtain ⟨⟨c8, c9, c10, c11, c12, c13⟩, ⟨d14, d15, d16, d17, d18, d19, d20, d21, d22⟩⟩ := dX B0.out HL.out HN.out
  go_enter Tryz.func86, Tryz.ntmps86
  go_upto_region 1 with fail
  change Code.wp _ _ _ _ (w.alloc (.cells c.cs.toArray 39))
  rw [← hw0]
  clear hw0
  go_wp2_with fail
  (with_reducible refine (SZ.out _).mono ?_)
  rintro e1 w1 ⟨rfl, q1⟩
  have B1 := aA (aB B0.out q1)
  have Q1 := aA (aC Q0.out Q0.out.size q1)
  clear q1 B0 Q0 SZ c8 c9 c10 c11 c12 c13 d14 d15 d16 d17 d18 d19 d20 d21 d22
  obtain ⟨⟨c8, c9, c10, c11, c12, c13⟩, ⟨d14, d15, d16, d17, d18, d19, d20, d21, d22⟩⟩ := dX B1.out HL.out HN.out
  go_wp2_with fail
  (with_reducible refine (BR.out _).mono ?_)
  rintro e2 w2 ⟨rfl, q2⟩
  have B2 := aA (aB B1.out q2)
  have Q2 := aA (aC Q1.out Q1.out.size q2)
  clear q2 B1 Q1 BR c8 c9 c10 c11 c12 c13 d14 d15 d16 d17 d18 d19 d20 d21 d22
  obtain ⟨⟨c8, c9, c10, c11, c12, c13⟩, ⟨d14, d15, d16, d17, d18, d19, d20, d21, d22⟩⟩ := dX B2.out HL.out HN.out
  go_wp2_with fail
  (with_reducible refine (SR.out _).mono ?_)
  rintro e3 w3 ⟨rfl, q3⟩
  have B3 := aA (aB B2.out q3)
  have Q3 := aA (aC Q2.out Q2.out.size q3)
  clear q3 B2 Q2 SR c8 c9 c10 c11 c12 c13 d14 d15 d16 d17 d18 d19 d20 d21 d22
  obtain ⟨⟨c8, c9, c10, c11, c12, c13⟩, ⟨d14, d15, d16, d17, d18, d19, d20, d21, d22⟩⟩ := dX B3.out HL.out HN.out
  go_wp2_with fail
  (with_reducible refine (CZ.out _).mono ?_)
  rintro e4 w4 ⟨rfl, q4⟩
  have B4 := aA (aB B3.out q4)
  have Q4 := aA (aC Q3.out Q3.out.size q4)
  clear q4 B3 Q3 CZ c8 c9 c10 c11 c12 c13 d14 d15 d16 d17 d18 d19 d20 d21 d22 f0 e12 n1
  go_upto_region 5 with fail
  go_cut [113] (fun v W => v = .bool false ∧ Hid (Below w4.heap.size w4 W))
  case first =>
    obtain ⟨⟨c8, c9, c10, c11, c12, c13⟩, ⟨d14, d15, d16, d17, d18, d19, d20, d21, d22⟩⟩ := dX B4.out HL.out HN.out
    have zb : w.heap.size < w4.heap.size := aH B4.out
    have GW := fun s : InW w4 => GD.out s.W
    rcases CASES.out with ⟨k1, k2, k3, k4⟩ | ⟨k1, k2, k3, k4⟩
    · rw [k1] at d20
      rw [k4] at d22
      have m17 := fun s : InW w4 => s.cell zb d17
      have m18 := fun s : InW w4 => s.cell zb d18
      have m19 := fun s : InW w4 => s.cell zb d19
      have m20 := fun s : InW w4 => s.cell zb d20
      have m21 := fun s : InW w4 => s.cell zb d21
      have m22 := fun s : InW w4 => s.cell zb d22
      have k3' : (N : Int) < 5 := by omega
      subst k2
      clear k1 k3 k4 CASES c8 c9 c10 c11 c12 c13 d14 d15 d16 d17 d18 d19 d20 d21 d22
      go_wp2_with fail
      refine bF (by kernel_rfl) (by kernel_rfl) ?_
      repeat (go_big_quiet_step (first | (go_at_call 138; exact cO (GD.out _))))
      refine wpQuiet_nil ?_
      rintro _ ⟨sw, rfl⟩
      have qs := aA sw.h
      clear m17 m18 m19 m20 m21 m22
      go_wp2_with fail
      go_meet
      exact ⟨by simp, qs⟩
    · rw [k1] at d20
      rw [k2] at d22
      rw [k3] at d21
      have m17 := fun s : InW w4 => s.cell zb d17
      have m18 := fun s : InW w4 => s.cell zb d18
      have m19 := fun s : InW w4 => s.cell zb d19
      have m20 := fun s : InW w4 => s.cell zb d20
      have m21 := fun s : InW w4 => s.cell zb d21
      have m22 := fun s : InW w4 => s.cell zb d22
      clear k1 k2 k3 CASES c8 c9 c10 c11 c12 c13 d14 d15 d16 d17 d18 d19 d20 d21 d22
      rcases k4 with k4 | k4 | ⟨k4, k5⟩
      · subst k4
        have j1 : ((c.got.size : Int) == 0) = false := by rw [beq_eq_false_iff_ne]; omega
        go_wp2_with fail
        refine bF (by kernel_rfl) (by kernel_rfl) ?_
        repeat (go_big_quiet_step (first | (go_at_call 138; exact cO (GD.out _))))
        refine wpQuiet_nil ?_
        rintro _ ⟨sw, rfl⟩
        have qs := aA sw.h
        clear m17 m18 m19 m20 m21 m22
        go_wp2_with fail
        go_meet
        exact ⟨by simp, qs⟩
      · have j1 : ((c.got.size : Int) == (z : Int)) = false := by rw [beq_eq_false_iff_ne]; omega
        have j2 : 0 < z := by omega
        have j4 : decide (z < c.got.size) = false := decide_eq_false (by omega)
        have j3 : (c.got.size : Int) ≤ (z : Int) := by omega
        clear k4
        go_wp2_with fail
        refine bF (by kernel_rfl) (by kernel_rfl) ?_
        repeat (go_big_quiet_step (first | (go_at_call 138; exact cO (GD.out _))))
        refine wpQuiet_nil ?_
        rintro _ ⟨sw, rfl⟩
        have qs := aA sw.h
        clear m17 m18 m19 m20 m21 m22
        go_wp2_with fail
        go_meet
        exact ⟨by simp, qs⟩
      · subst k4
        have k5' : decide ((N : Int) < 5) = false := decide_eq_false (by omega)
        clear k5
        go_wp2_with fail
        refine bF (by kernel_rfl) (by kernel_rfl) ?_
        repeat (go_big_quiet_step (first | (go_at_call 138; exact cO (GD.out _))))
        refine wpQuiet_nil ?_
        rintro _ ⟨sw, rfl⟩
        have qs := aA sw.h
        clear m17 m18 m19 m20 m21 m22
        go_wp2_with fail
        go_meet
        exact ⟨by simp, qs⟩
  case rest =>
  rename_i hK2 _ hK
  obtain ⟨rfl, hq⟩ := hcut
  refine hK _ _ ?_
  refine wp_cond_false (by rfl) (wp_skip ?_)
  refine hK2 _ _ ?_
  clear hK hK2
  have B5 := aA (aB B4.out hq.out)
  have Q5 := aA (aC Q4.out Q4.out.size hq.out)
  clear hq B4 Q4 GD
  obtain ⟨⟨c8, c9, c10, c11, c12, c13⟩, ⟨d14, d15, d16, d17, d18, d19, d20, d21, d22⟩⟩ := dX B5.out HL.out HN.out
  rcases Bool.eq_false_or_eq_true c.sends with hs | hs
  · obtain ⟨y1, y2, y3, y4, y5⟩ := YES.out hs
    have hr := HR.out y1
    have hbl := FP.body_len c.f
    have hble := FP.body_le hr
    have FB := aA (fun W => frBits_any c.f W (right_id hr))
    have hV : bitsV c.f = c.out := by rw [y2]; unfold bitsV; rw [if_pos hr]
    have hE : headE c.f = 0 := by unfold headE; rw [hr]; rfl
    rw [hV, hE] at FB
    have hos : (c.out.size : Int) - 10 = ((dK c.f).length : Int) := by rw [y2, kJ]; omega
    have hol : c.out.size = (dK c.f).length + 10 := by omega
    obtain ⟨M, hM, hMl, hMt⟩ : ∃ M : Nat, min c.at_ ((dK c.f).length : Int) = (M : Int) ∧ M ≤ (dK c.f).length ∧ (dK c.f).take c.at_.toNat = (dK c.f).take M := by
      by_cases hle : ((dK c.f).length : Int) ≤ c.at_
      · exact ⟨(dK c.f).length, by omega, Nat.le_refl _, by rw [List.take_of_length_le (by omega), List.take_of_length_le (Nat.le_refl _)]⟩
      · have : 0 ≤ c.at_ := by
          cases he : c.en
          · have := y4 he; omega
          · have := y3 he; omega
        exact ⟨c.at_.toNat, by omega, by omega, rfl⟩
    have RDE : iV (c.out.extract 0 M).data.toList = ⟨L, N, c.g⟩ := by
      rw [dD, y2, jI, List.extract_eq_take_drop, List.drop_zero, Nat.sub_zero, FP.body_take c.f M hMl, ← hMt, y5]
      exact RSE.out
    have RD := aA (fun W => ctlRead_any (c.out.extract 0 M) W (fV (by rw [y2]; exact FP.bits_bits c.f) _ _) (by rw [ByteArray.size_extract]; omega))
    rw [RDE] at RD
    have hgot : (⟨c.g.toArray⟩ : ByteArray) = c.got := (str_of c.got).symm
    dsimp only at RD
    rw [hgot] at RD
    obtain ⟨m, em, hmin⟩ := jL (P := Tryz.prog) c.at_ ((dK c.f).length : Int)
    rw [hM] at em
    subst em
    have HMIN := aA hmin
    have hMs : (M : Int) ≤ c.out.size := by omega
    have hM2 : (M : Int) ≤ 147 := by omega
    have E13 := aA (show c.en = true ∧ c.at_ = ((dK c.f).length : Int) + c.tail ∨ c.en = false ∧ 1 ≤ c.at_ ∧ c.at_ < ((dK c.f).length : Int) from by
      cases he : c.en
      · exact .inr ⟨rfl, (y4 he).1, (y4 he).2⟩
      · exact .inl ⟨rfl, y3 he⟩)
    have hbl2 : ((dK c.f).length : Int) ≤ 147 := by omega
    rw [hs] at d14
    rw [y1] at c8
    have HH := aA y1
    clear YES NO HR y1 y2 y3 y4 y5 hr hbl hble hV hE hM hMl hMt RDE hgot hmin hol CASES hs
    generalize (dK c.f).length = bl at *
    go_wp2_with fail
    (with_reducible refine (FB.out _).mono ?_)
    rintro e6 w6 ⟨rfl, q6⟩
    have B6 := aA (aB B5.out q6)
    have Q6 := aA (aC Q5.out Q5.out.size q6)
    clear q6 B5 Q5 FB c9 c10 c11 c12 c13 d14 d15 d16 d17 d18 d19 d20 d21 d22
    clear c8
    obtain ⟨⟨c8, c9, c10, c11, c12, c13⟩, ⟨d14, d15, d16, d17, d18, d19, d20, d21, d22⟩⟩ := dX B6.out HL.out HN.out
    clear c8
    have c8 : w6.cell? ⟨w.heap.size, 8, none⟩ = some (.bool true) := by
      have := (dX B6.out HL.out HN.out).1.1
      rw [HH.out] at this
      exact this
    go_upto_region 13 with fail
    go_cut [173] (fun v W => v = .bool false ∧ W = w6)
    case first =>
      rcases E13.out with ⟨k1, k2⟩ | ⟨k1, k2, k3⟩
      · rw [k1] at d20
        rw [k2] at d16
        go_wp2_with fail
        go_meet
        exact ⟨rfl, rfl⟩
      · rw [k1] at d20
        have k2' : decide (c.at_ < 1) = false := decide_eq_false (by omega)
        have k3' : decide ((bl : Int) ≤ c.at_) = false := decide_eq_false (by omega)
        go_wp2_with fail
        go_meet
        exact ⟨rfl, rfl⟩
    case rest =>
    rename_i hK2 _ hK
    obtain ⟨rfl, rfl⟩ := hcut
    refine hK _ _ ?_
    refine wp_cond_false (by rfl) (wp_skip ?_)
    refine hK2 _ _ ?_
    clear hK hK2 E13
    have hmin := HMIN.out
    go_wp2_with fail
    (with_reducible refine (RD.out _).mono ?_)
    rintro e7 w7 ⟨rfl, q7⟩
    clear hmin
    have q8 : Below w7.heap.size w7 (w7.alloc (.cells #[.int .u8 0, .int .i64 0] 37)) := (Below.refl _ _).alloc (Nat.le_refl _) _
    have B7 := aA (aB (aB B6.out q7) q8)
    have Q7 := aA (aC Q6.out Q6.out.size q7)
    have Y7 := aA (World.alloc_heap_new w7 (.cells #[.int .u8 0, .int .i64 0] 37))
    have T7 := aA (show (w7.alloc (.cells #[.int .u8 0, .int .i64 0] 37)).there w7.heap.size 0 2 from aK (cs := [_, _]) Y7.out)
    have Q8 := aA (aC Q7.out Q7.out.size q8)
    have z7 : w.heap.size < w7.heap.size := aH (aB B6.out q7)
    clear q7 q8 B6 Q6 Q7 RD HMIN c8 c9 c10 c11 c12 c13 d14 d15 d16 d17 d18 d19 d20 d21 d22
    go_wp2_with (refine aF (by rfl) 37 (.tmp 8) (.tmp 182) (by rfl) w7.heap.size 0 [.int .u8 L.toNat, .int .i64 N] (by rfl) (by rfl) (by exact T7.out) (by kernel_rfl) (by simp [Value.oneCell']) ?_)
    intro w8 e8
    have Y8 := aA (show w8.heap[w7.heap.size]? = some (.cells #[.int .u8 L.toNat, .int .i64 N] 37 (0, 0)) by rw [e8.out]; exact aJ [.int .u8 L.toNat, .int .i64 N] (xs := [_, _]) Y7.out rfl)
    have B8 := aA (show w8.heap[w.heap.size]? = some (.cells c.cs.toArray 39 (0, 0)) by rw [e8.out]; exact aG (by omega) _ _ _ B7.out)
    have QQ := aA (show Below w.heap.size w w8 by rw [e8.out]; exact Q8.out.trans (aE _ _ _ (by omega)))
    obtain ⟨⟨c8, c9, c10, c11, c12, c13⟩, ⟨d14, d15, d16, d17, d18, d19, d20, d21, d22⟩⟩ := dX B8.out HL.out HN.out
    obtain ⟨x0, x1, _⟩ := two_st Y8.out
    clear e8 T7 Y7 B7 Q8 c8 c9 c10 c11 c12 c13 d14 d15 d16 d20 d21 d22
    go_wp2_with fail
    go_ret
    exact ⟨rfl, QQ.out⟩
  · obtain ⟨n1, n2⟩ := NO.out hs
    rw [hs] at d14
    rw [n1] at d15
    rw [n2] at d16
    clear YES NO HR CASES HB n1 n2 hs
    go_wp2_with fail
    go_ret
    exact ⟨rfl, Q5.out⟩
end Go.Proofs.YtkmddjbialpppaaGreatDoor
