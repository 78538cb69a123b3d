import Derived.Test.YtkmddjbialpppaaGreatDoorMgSnB
import Derived.Test.YtkmddjbialpppaaGreatDoorCmB
namespace Go.Proofs.YtkmddjbialpppaaGreatDoor
open Go.ChangeShapes Go.WideShapes Go.ChangeAt Go.RowKit
open CM
def sndTail (s : Snd) : Bool := cK s.period (if iU s.way then 1 else 0) (if iU s.way then max (max s.way.first s.way.period) 1 else 0) && (cK s.left 0 (if dirB s.way then s.way.reps else 0) && (if 0 < s.left then cK s.gap 1 s.way.gap else decide (s.gap = 0)))
theorem sndB_parts (s : Snd) : sndB s = (jW s.yes && (jW s.no && (cK s.delay 0 1000000 && (cK s.hold 0 s.delay && sndTail s)))) := by
  unfold sndB sndTail cK
  congr 1
  congr 1
  rw [Bool.eq_iff_iff]
  simp only [decide_eq_true_eq, Bool.and_eq_true]
  constructor
  · rintro ⟨h1, h2, h3, h4, h5, h6, h7, h8⟩
    refine ⟨⟨h1, h2⟩, ⟨h3, h4⟩, ?_, ⟨h6, h7⟩, ?_⟩
    · split at h5
      · rename_i hp; simp only [hp, if_true]; exact h5
      · rename_i hp; simp only [hp]; simp; omega
    · split at h8
      · rename_i hp; simp only [hp, if_true]; simpa using h8
      · rename_i hp; simp only [hp, if_false]; simpa using h8
  · rintro ⟨⟨h1, h2⟩, ⟨h3, h4⟩, h5, ⟨h6, h7⟩, h8⟩
    refine ⟨h1, h2, h3, h4, ?_, h6, h7, ?_⟩
    · by_cases hp : iU s.way = true
      · simp only [hp, if_true] at h5 ⊢; exact h5
      · simp only [hp] at h5 ⊢; simp at h5 ⊢; omega
    · by_cases hp : 0 < s.left
      · simp only [hp, if_true] at h8 ⊢; simpa using h8
      · simp only [hp, if_false] at h8 ⊢; simpa using h8
set_option maxRecDepth 100000 in
set_option maxHeartbeats 8000000 in
theorem sndRight_any (s : Snd) (w : World) : Calls Tryz.prog 52 #[.agg (bV s).toArray] w fun e w' => e = .returned (.bool (sndB s)) ∧ Below w.heap.size w w' := by
  obtain ⟨r, hr⟩ : ∃ r, r = sndB s := ⟨_, rfl⟩
  rw [← hr]
  rw [sndB_parts] at hr
  have HR := aA hr
  clear hr
  have WI := aA gV
  have YW := aA (fun W => way_any s.yes W)
  have NW := aA (fun W => way_any s.no W)
  have q0 : Below w.heap.size w (w.alloc (.cells (bV s).toArray 75)) := (Below.refl _ _).alloc (Nat.le_refl _) _
  have B0 := aA (World.alloc_heap_new w (.cells (bV s).toArray 75))
  generalize hw0 : w.alloc (.cells (bV s).toArray 75) = w0 at *
  obtain ⟨c0, c1, c2, c3, c4, c5, c6, c7, c8, c9, c10, c11, c12, c13, c14, c15, c16⟩ := eP B0.out
  have Q0 := aA q0
  clear q0
  go_enter Tryz.func52, Tryz.ntmps52
  go_wp2_with fail
  (with_reducible refine (YW.out _).mono ?_)
  rintro e1 w1 ⟨rfl, q1⟩
  have B1 := aA (aB B0.out q1)
  have Q1 := aA (aC Q0.out Q0.out.size q1)
  clear q1 hw0 B0 Q0 YW c0 c1 c2 c3 c4 c5 c6 c7 c8 c9 c10 c11 c12 c13 c14 c15 c16
  generalize jW s.yes = yb at *
  generalize jW s.no = nb at *
  cases yb with
  | false =>
    have E := aA (show r = false by rw [HR.out]; rfl)
    clear HR NW WI
    go_wp2_with fail
    go_ret
    exact ⟨by rw [E.out]; rfl, Q1.out⟩
  | true =>
  obtain ⟨c0, c1, c2, c3, c4, c5, c6, c7, c8, c9, c10, c11, c12, c13, c14, c15, c16⟩ := eP B1.out
  clear c0 c1 c2 c3 c4 c10 c12 c13 c14 c16
  go_wp2_with fail
  (with_reducible refine (NW.out _).mono ?_)
  rintro e2 w2 ⟨rfl, q2⟩
  have B2 := aA (aB B1.out q2)
  have Q2 := aA (aC Q1.out Q1.out.size q2)
  clear q2 B1 Q1 NW c5 c6 c7 c8 c9 c11 c15
  cases nb with
  | false =>
    have E := aA (show r = false by rw [HR.out]; rfl)
    clear HR WI
    go_wp2_with fail
    go_ret
    exact ⟨by rw [E.out]; rfl, Q2.out⟩
  | true =>
  obtain ⟨c0, c1, c2, c3, c4, c5, c6, c7, c8, c9, c10, c11, c12, c13, c14, c15, c16⟩ := eP B2.out
  clear c0 c1 c2 c3 c4 c5 c6 c7 c8 c9 c10
  go_wp2_with fail
  (with_reducible refine (WI.out _ _ _ _).mono ?_)
  rintro e3 w3 ⟨rfl, rfl⟩
  rcases hd : cK s.delay 0 1000000 with _ | _
  · have E := aA (show r = false by rw [HR.out, hd]; rfl)
    clear HR WI hd
    go_wp2_with fail
    go_ret
    exact ⟨by rw [E.out]; rfl, Q2.out⟩
  go_wp2_with fail
  (with_reducible refine (WI.out _ _ _ _).mono ?_)
  rintro e4 w4 ⟨rfl, rfl⟩
  rcases hh : cK s.hold 0 s.delay with _ | _
  · have E := aA (show r = false by rw [HR.out, hd, hh]; rfl)
    clear HR WI hd hh
    go_wp2_with fail
    go_ret
    exact ⟨by rw [E.out]; rfl, Q2.out⟩
  have E := aA (show r = sndTail s by rw [HR.out, hd, hh]; rfl)
  clear HR hd hh c11 c12 c13 c14 c15 c16
  obtain ⟨c0, c1, c2, c3, c4, c5, c6, c7, c8, c9, c10, c11, c12, c13, c14, c15, c16⟩ := eP B2.out
  have a3 : Below w2.heap.size w2 (w2.alloc (.cells (bV s).toArray 185)) := (Below.refl _ _).alloc (Nat.le_refl _) _
  have A3 := aA (World.alloc_heap_new w2 (.cells (bV s).toArray 185))
  have B3 := aA (aB B2.out a3)
  have Q3 := aA (aC Q2.out Q2.out.size a3)
  obtain ⟨w3, hw3⟩ : ∃ w3, w3 = w2.alloc (.cells (bV s).toArray 185) := ⟨_, rfl⟩
  rw [← hw3] at A3 B3 Q3
  have SW := aA (snWay_any s w2.heap.size 185 w3 A3)
  have zw : w.heap.size < w2.heap.size := aH B2.out
  clear a3
  go_upto_region 4 with fail
  change Code.wp _ _ _ _ (w2.alloc (.cells (bV s).toArray 185))
  rw [← hw3]
  clear hw3 c0 c1 c2 c3 c4 c5 c6 c7 c8 c9 c10 c11 c12 c13 c14 c15 c16 B2 Q2 A3
  obtain ⟨Y, hY⟩ : ∃ Y, Y = s.way := ⟨_, rfl⟩
  have ET := aA (show sndTail s = (cK s.period (if iU Y then 1 else 0) (if iU Y then max (max Y.first Y.period) 1 else 0) && (cK s.left 0 (if dirB Y then Y.reps else 0) && (if 0 < s.left then cK s.gap 1 Y.gap else decide (s.gap = 0)))) from by rw [hY]; rfl)
  rw [← hY] at SW
  have PR := aA (fun W => iK Y W)
  have DR := aA (fun W => direct_any Y W)
  clear hY
  generalize iU Y = pb at *
  generalize dirB Y = db at *
  obtain ⟨xk, xf, xp, xr, xg⟩ := Y
  dsimp only at *
  go_wp2_with fail
  (with_reducible refine (SW.out).mono ?_)
  rintro e5 w4 ⟨rfl, q4⟩
  have B4 := aA (aB B3.out q4)
  have Q4 := aA (aC Q3.out Q3.out.size q4)
  clear q4 SW B3 Q3
  have q5 : Below w4.heap.size w4 (w4.alloc (.cells #[.int .i64 0, .int .i64 0, .int .i64 0, .int .i64 0, .int .i64 0] 73)) := (Below.refl _ _).alloc (Nat.le_refl _) _
  have A5 := World.alloc_heap_new w4 (.cells #[.int .i64 0, .int .i64 0, .int .i64 0, .int .i64 0, .int .i64 0] 73)
  have B5 := aA (aB B4.out q5)
  have TH := aA (show (w4.alloc (.cells #[.int .i64 0, .int .i64 0, .int .i64 0, .int .i64 0, .int .i64 0] 73)).there w4.heap.size 0 5 from aK (cs := [_, _, _, _, _]) A5)
  have HA := aA A5
  have Q5 := aA (aC Q4.out Q4.out.size q5)
  clear A5 q5
  go_wp2_with (refine aF (by rfl) 73 (.tmp 4) (.tmp 37) (by rfl) w4.heap.size 0 [.int .i64 xk, .int .i64 xf, .int .i64 xp, .int .i64 xr, .int .i64 xg] (by rfl) (by rfl) (by exact TH.out) (by kernel_rfl) (by simp [Value.oneCell']) ?_)
  intro w6 e6
  have zw4 : w.heap.size < w4.heap.size := aH B4.out
  have A6 := aA (show w6.heap[w4.heap.size]? = some (.cells #[.int .i64 xk, .int .i64 xf, .int .i64 xp, .int .i64 xr, .int .i64 xg] 73 (0, 0)) by rw [e6.out]; exact aJ [.int .i64 xk, .int .i64 xf, .int .i64 xp, .int .i64 xr, .int .i64 xg] (xs := [_, _, _, _, _]) HA.out rfl)
  have Q6 := aA (show Below w.heap.size w w6 by rw [e6.out]; exact Q5.out.trans (aE (g := w4.heap.size) _ 0 _ (by omega)))
  have B6 := aA (show w6.heap[w.heap.size]? = some (.cells (bV s).toArray 75 (0, 0)) by rw [e6.out]; exact aG (x := w.heap.size) (b := w4.heap.size) (by omega) _ 0 _ B5.out)
  clear e6 TH HA Q5 B5 B4 Q4 zw4 zw
  generalize w4.heap.size = yb at *
  obtain ⟨c0, c1, c2, c3, c4⟩ := cL (f := ⟨xk, xf, xp, xr, xg⟩) A6.out
  dsimp only at c0 c1 c2 c3 c4
  go_wp2_with fail
  (with_reducible refine (PR.out _).mono ?_)
  rintro e7 w7 ⟨rfl, q7⟩
  have B7 := aA (aB B6.out q7)
  have A7 := aA (aB A6.out q7)
  have Q7 := aA (aC Q6.out Q6.out.size q7)
  clear q7 PR A6 B6 Q6 c0 c1 c2 c3 c4
  obtain ⟨m1, em1, hm1⟩ := run_max (P := Tryz.prog) xf xp
  obtain ⟨least, hle⟩ : ∃ least : Int, least = if pb then 1 else 0 := ⟨_, rfl⟩
  obtain ⟨top, hto⟩ : ∃ top : Int, top = if pb then max (max xf xp) 1 else 0 := ⟨_, rfl⟩
  rw [← hle, ← hto] at ET
  have HLE := aA hle
  have HTO := aA hto
  clear hle hto em1 hm1
  go_upto_if 39 with fail
  go_cut [5, 6] from 40 (fun a b W => a = .int .i64 least ∧ b = .int .i64 top ∧ Hid (Below w7.heap.size w7 W))
  case first =>
    clear E ET WI DR
    cases pb with
    | false =>
      have e1 : Hid (least = 0) := aA (by rw [HLE.out]; rfl)
      have e2 : Hid (top = 0) := aA (by rw [HTO.out]; rfl)
      clear HLE HTO
      go_wp2_with fail
      go_meet
      exact ⟨by rw [e1.out], by rw [e2.out], aA (Below.refl _ _)⟩
    | true =>
      have e1 : Hid (least = 1) := aA (by rw [HLE.out]; rfl)
      have e2 : Hid (top = max (max xf xp) 1) := aA (by rw [HTO.out]; rfl)
      clear HLE HTO
      obtain ⟨c0, c1, c2, c3, c4⟩ := cL (f := ⟨xk, xf, xp, xr, xg⟩) A7.out
      dsimp only at c0 c1 c2 c3 c4
      have zy : yb < w7.heap.size := aH A7.out
      have f1 := fun s : InW w7 => s.cell zy c1
      have f2 := fun s : InW w7 => s.cell zy c2
      clear c0 c1 c2 c3 c4
      go_wp2_with fail
      refine bF (by kernel_rfl) (by kernel_rfl) ?_
      repeat (go_big_quiet_step (fail))
      refine wpQuiet_nil ?_
      rintro _ ⟨sw, rfl⟩
      have qs := aA sw.h
      clear f1 f2
      go_wp2_with fail
      all_goals go_meet
      all_goals refine ⟨by rw [e1.out], ?_, qs⟩
      all_goals rw [e2.out]
      all_goals congr 1
      all_goals (repeat' split)
      all_goals omega
  case rest =>
  obtain ⟨rfl, rfl, hq⟩ := hcut
  have B8 := aA (aB B7.out hq.out)
  have A8 := aA (aB A7.out hq.out)
  have Q8 := aA (aC Q7.out Q7.out.size hq.out)
  clear B7 A7 Q7 hq
  obtain ⟨c0, c1, c2, c3, c4⟩ := cL (f := ⟨xk, xf, xp, xr, xg⟩) A8.out
  dsimp only at c0 c1 c2 c3 c4
  go_wp2_with fail
  (with_reducible refine (DR.out _).mono ?_)
  rintro e9 w9 ⟨rfl, q9⟩
  have B9 := aA (aB B8.out q9)
  have A9 := aA (aB A8.out q9)
  have Q9 := aA (aC Q8.out Q8.out.size q9)
  clear B8 A8 Q8 q9 DR c0 c1 c2 c3 c4
  cases db with
  | false =>
    have ER : Hid ((if false = true then xr else 0 : Int) = 0) := aA (by simp)
    rw [ER.out] at ET
    clear ER
    obtain ⟨d0, d1, d2, d3, d4, d5, d6, d7, d8, d9, d10, d11, d12, d13, d14, d15, d16⟩ := eP B9.out
    obtain ⟨c0, c1, c2, c3, c4⟩ := cL (f := ⟨xk, xf, xp, xr, xg⟩) A9.out
    dsimp only at c0 c1 c2 c3 c4
    clear d0 d1 d2 d3 d4 d5 d6 d7 d8 d9 d10 d11 d15 d16
    go_wp2_with fail
    (with_reducible refine (WI.out _ _ _ _).mono ?_)
    rintro e10 w10 ⟨rfl, rfl⟩
    rcases hp : cK s.period least top with _ | _
    · have F := aA (show r = false by rw [E.out, ET.out, hp]; rfl)
      clear E ET hp WI
      go_wp2_with fail
      go_ret
      exact ⟨by rw [F.out]; rfl, Q9.out⟩
    go_wp2_with fail
    (with_reducible refine (WI.out _ _ _ _).mono ?_)
    rintro e10 w10 ⟨rfl, rfl⟩
    rcases hl : cK s.left 0 0 with _ | _
    · have F := aA (show r = false by rw [E.out, ET.out, hp, hl]; rfl)
      clear E ET hp hl WI
      go_wp2_with fail
      go_ret
      exact ⟨by rw [F.out]; rfl, Q9.out⟩
    have E2 := aA (show r = (if 0 < s.left then cK s.gap 1 xg else decide (s.gap = 0)) by rw [E.out, ET.out, hp, hl]; rfl)
    clear E ET hp hl
    by_cases h0 : 0 < s.left
    · have F := aA (show r = cK s.gap 1 xg by rw [E2.out, if_pos h0])
      clear E2
      go_wp2_with fail
      (with_reducible refine (WI.out _ _ _ _).mono ?_)
      rintro e10 w10 ⟨rfl, rfl⟩
      go_wp2_with fail
      go_ret
      exact ⟨by rw [F.out]; rfl, Q9.out⟩
    · have F := aA (show r = decide (s.gap = 0) by rw [E2.out, if_neg h0])
      have hg : (s.gap == 0) = decide (s.gap = 0) := rfl
      clear E2 WI
      generalize decide (s.gap = 0) = gz at *
      go_wp2_with fail
      go_ret
      exact ⟨by rw [F.out]; first | rfl | (simp [hg]), Q9.out⟩
  | true =>
    have ER : Hid ((if true = true then xr else 0 : Int) = xr) := aA (by simp)
    rw [ER.out] at ET
    clear ER
    obtain ⟨d0, d1, d2, d3, d4, d5, d6, d7, d8, d9, d10, d11, d12, d13, d14, d15, d16⟩ := eP B9.out
    obtain ⟨c0, c1, c2, c3, c4⟩ := cL (f := ⟨xk, xf, xp, xr, xg⟩) A9.out
    dsimp only at c0 c1 c2 c3 c4
    clear d0 d1 d2 d3 d4 d5 d6 d7 d8 d9 d10 d11 d15 d16
    go_wp2_with fail
    (with_reducible refine (WI.out _ _ _ _).mono ?_)
    rintro e10 w10 ⟨rfl, rfl⟩
    rcases hp : cK s.period least top with _ | _
    · have F := aA (show r = false by rw [E.out, ET.out, hp]; rfl)
      clear E ET hp WI
      go_wp2_with fail
      go_ret
      exact ⟨by rw [F.out]; rfl, Q9.out⟩
    go_wp2_with fail
    (with_reducible refine (WI.out _ _ _ _).mono ?_)
    rintro e10 w10 ⟨rfl, rfl⟩
    rcases hl : cK s.left 0 xr with _ | _
    · have F := aA (show r = false by rw [E.out, ET.out, hp, hl]; rfl)
      clear E ET hp hl WI
      go_wp2_with fail
      go_ret
      exact ⟨by rw [F.out]; rfl, Q9.out⟩
    have E2 := aA (show r = (if 0 < s.left then cK s.gap 1 xg else decide (s.gap = 0)) by rw [E.out, ET.out, hp, hl]; rfl)
    clear E ET hp hl
    by_cases h0 : 0 < s.left
    · have F := aA (show r = cK s.gap 1 xg by rw [E2.out, if_pos h0])
      clear E2
      go_wp2_with fail
      (with_reducible refine (WI.out _ _ _ _).mono ?_)
      rintro e10 w10 ⟨rfl, rfl⟩
      go_wp2_with fail
      go_ret
      exact ⟨by rw [F.out]; rfl, Q9.out⟩
    · have F := aA (show r = decide (s.gap = 0) by rw [E2.out, if_neg h0])
      have hg : (s.gap == 0) = decide (s.gap = 0) := rfl
      clear E2 WI
      generalize decide (s.gap = 0) = gz at *
      go_wp2_with fail
      go_ret
      exact ⟨by rw [F.out]; first | rfl | (simp [hg]), Q9.out⟩
end Go.Proofs.YtkmddjbialpppaaGreatDoor
namespace Go.Proofs.YtkmddjbialpppaaGreatDoor
open Go.ChangeShapes Go.WideShapes Go.ChangeAt Go.RowKit
open CM PD SG
structure Sl where
  a : Option Addr
  n : Nat
  c : Nat
def Sl.v (s : Sl) : Value := .slice s.a s.n s.c
def Sl.zero : Sl := ⟨none, 0, 0⟩
theorem mayG_le {n : Nat} (h : iL n = true) : n ≤ 16 := by
  unfold iL at h
  simp at h
  omega
def g9 (l : List Int) : List Int := if iL l.length = true then l else []
def gnE (l : List Int) : Int := if iL l.length = true then 0 else 1
def grL (S G : Sl) (times : Int) : List Value := [S.v, G.v, .int .i64 times]
set_option maxRecDepth 100000 in
set_option maxHeartbeats 4000000 in
theorem grNew_any (l : List Int) (A : Option Addr) (c : Nat) (w : World) (hr : InR w w.heap.size A l) (hl : l.length ≤ 9223372036854775807) :
    Calls Tryz.prog 166 #[.slice A l.length c] w fun e w' => (∃ S G : Sl, e = .returned (.tuple #[.agg (grL S G 0).toArray, .int .i64 (gnE l)]) ∧ S.n = (g9 l).length ∧ G.n = (g9 l).length ∧ InR w' w'.heap.size S.a (g9 l) ∧ InR w' w'.heap.size G.a (g9 l) ∧ (∀ g off, S.a = some ⟨g, off, none⟩ → w.heap.size ≤ g) ∧ ∀ g off, G.a = some ⟨g, off, none⟩ → w.heap.size ≤ g) ∧ Below w.heap.size w w' := by
  have RM := aA (fun W => rowMay_any A l.length c W)
  have CL := aA (fun (W : World) (hb : Below w.heap.size w W) (hy : iL l.length = true) => cloneI_any l A c W (Rd.next hr hb hb.size) (by have := mayG_le hy; omega))
  have q0 : Below w.heap.size w (w.alloc (.cells #[.slice none 0 0, .slice none 0 0, .int .i64 0] 70)) := (Below.refl _ _).alloc (Nat.le_refl _) _
  have B0 := aA (World.alloc_heap_new w (.cells #[.slice none 0 0, .slice none 0 0, .int .i64 0] 70))
  have Q0 := aA q0
  generalize hw0 : w.alloc (.cells #[.slice none 0 0, .slice none 0 0, .int .i64 0] 70) = w0 at *
  have HL := aA (show g9 l = if iL l.length = true then l else [] from rfl)
  have HE := aA (show gnE l = if iL l.length = true then 0 else 1 from rfl)
  obtain ⟨gl, hgl⟩ : ∃ gl, gl = g9 l := ⟨_, rfl⟩
  obtain ⟨E, hE⟩ : ∃ E, E = gnE l := ⟨_, rfl⟩
  rw [← hgl] at HL ⊢
  rw [← hE] at HE ⊢
  have TH := aA (show w0.there w.heap.size 0 3 from aK (cs := [_, _, _]) B0.out)
  generalize iL l.length = y at *
  clear hr hgl hE q0
  go_enter Tryz.func166, Tryz.ntmps166
  cases y with
  | false =>
    have e1 : Hid (gl = []) := aA (by rw [HL.out]; simp)
    have e2 : Hid (E = 1) := aA (by rw [HE.out]; simp)
    clear HL HE CL
    go_wp2_with fail
    (with_reducible refine (RM.out _).mono ?_)
    rintro e3 w1 ⟨rfl, rfl⟩
    go_wp2_with (refine aF (by rfl) 70 (.tmp 2) (.tmp 7) (by rfl) w.heap.size 0 (grL .zero .zero 0) (by rfl) (by rfl) (by exact TH.out) (by kernel_rfl) (by simp [Value.oneCell', grL, Sl.v]) ?_)
    intro w2 e4
    have A2 := aA (show w2.heap[w.heap.size]? = some (.cells (grL .zero .zero 0).toArray 70 (0, 0)) by rw [e4.out]; exact aJ (grL .zero .zero 0) (xs := [_, _, _]) B0.out rfl)
    have Q2 := aA (show Below w.heap.size w w2 by rw [e4.out]; exact Q0.out.trans (aE (g := w.heap.size) _ 0 _ (Nat.le_refl _)))
    clear e4 TH B0 Q0 RM
    go_wp2_with fail
    refine bodyPost_ret (aP (by rfl) _ w2 w.heap.size 70 (grL .zero .zero 0).toArray (0, 0) _ (.int .i64 1) (by rfl) (by rfl) A2.out Tryz.underlying70 (by rfl) (by kernel_rfl)) rfl ⟨⟨.zero, .zero, by rw [e2.out], by rw [e1.out]; rfl, by rw [e1.out]; rfl, by rw [e1.out]; exact Rd.nil, by rw [e1.out]; exact Rd.nil, fun g off h => (by cases h), fun g off h => (by cases h)⟩, Q2.out⟩
  | true =>
    have e1 : Hid (gl = l) := aA (by rw [HL.out]; simp)
    have e2 : Hid (E = 0) := aA (by rw [HE.out]; simp)
    have CL1 := aA (CL.out _ Q0.out (by first | rfl | trivial))
    clear HL HE
    go_wp2_with fail
    (with_reducible refine (RM.out _).mono ?_)
    rintro e3 w1 ⟨rfl, rfl⟩
    go_wp2_with fail
    (with_reducible refine (CL1.out).mono ?_)
    rintro e3 w2 ⟨⟨S, sc, rfl, oS⟩, q2⟩
    have B2 := aA (aB B0.out q2)
    have Q2 := aA (aC Q0.out Q0.out.size q2)
    have OS := aA oS
    have zw0 : w.heap.size < w0.heap.size := aH B0.out
    have zw2 : w.heap.size < w2.heap.size := aH B2.out
    have CL2 := aA (CL.out _ Q2.out (by first | rfl | trivial))
    clear q2 oS CL CL1 TH B0 Q0 RM
    go_wp2_with fail
    (with_reducible refine (CL2.out).mono ?_)
    rintro e3 w3 ⟨⟨G, gc, rfl, oG⟩, q3⟩
    have B3 := aA (aB B2.out q3)
    have Q3 := aA (aC Q2.out Q2.out.size q3)
    have OS3 := aA (OS.out.grown q3)
    have OG3 := aA oG
    have TH := aA (show w3.there w.heap.size 0 3 from aK (cs := [_, _, _]) B3.out)
    have zw : w.heap.size < w3.heap.size := aH B3.out
    clear q3 oG CL2 B2 Q2 OS
    go_wp2_with (refine aF (by rfl) 70 (.tmp 2) (.tmp 12) (by rfl) w.heap.size 0 (grL ⟨S, l.length, sc⟩ ⟨G, l.length, gc⟩ 0) (by rfl) (by rfl) (by exact TH.out) (by kernel_rfl) (by simp [Value.oneCell', grL, Sl.v]) ?_)
    intro w4 e4
    have A4 := aA (show w4.heap[w.heap.size]? = some (.cells (grL ⟨S, l.length, sc⟩ ⟨G, l.length, gc⟩ 0).toArray 70 (0, 0)) by rw [e4.out]; exact aJ (grL ⟨S, l.length, sc⟩ ⟨G, l.length, gc⟩ 0) (xs := [_, _, _]) B3.out rfl)
    have Q4 := aA (show Below w.heap.size w w4 by rw [e4.out]; exact Q3.out.trans (aE (g := w.heap.size) _ 0 _ (Nat.le_refl _)))
    have RS4 := aA (show InR w4 w4.heap.size S l from inOwn_rd (by rw [e4.out]; exact cM (x := w.heap.size) zw0 (grL ⟨S, l.length, sc⟩ ⟨G, l.length, gc⟩ 0) 0 w3 OS3.out))
    have RG4 := aA (show InR w4 w4.heap.size G l from inOwn_rd (by rw [e4.out]; exact cM (x := w.heap.size) zw2 (grL ⟨S, l.length, sc⟩ ⟨G, l.length, gc⟩ 0) 0 w3 OG3.out))
    have HBS := aA (gQ OS3.out)
    have HBG := aA (gQ OG3.out)
    clear e4 TH B3 Q3 OS3 OG3
    go_wp2_with fail
    refine bodyPost_ret (aP (by rfl) _ w4 w.heap.size 70 (grL ⟨S, l.length, sc⟩ ⟨G, l.length, gc⟩ 0).toArray (0, 0) _ (.int .i64 0) (by rfl) (by rfl) A4.out Tryz.underlying70 (by rfl) (by kernel_rfl)) rfl ⟨⟨_, _, by rw [e2.out], by rw [e1.out], by rw [e1.out], by rw [e1.out]; exact RS4.out, by rw [e1.out]; exact RG4.out, fun g off h => Nat.le_trans (Nat.le_of_lt zw0) (HBS.out g off h), fun g off h => Nat.le_trans (Nat.le_of_lt zw2) (HBG.out g off h)⟩, Q4.out⟩
structure Lv where
  L : Ly
  A : Option Addr
  c : Nat
  B : Option Addr
  d : Nat
def Lv.cs (l : Lv) : List Value := [.int .i64 l.L.size, .slice l.A l.L.sgs.length l.c, .slice l.B l.L.nws.length l.d]
structure Lv.Ok (l : Lv) (w : World) : Prop where
  a : SgR w w.heap.size l.A l.L.sgs
  b : InR w w.heap.size l.B l.L.nws
  s : l.L.sgs.length ≤ 9223372036854775807
  n : l.L.nws.length ≤ 9223372036854775807
  c : l.L.sgs.length ≤ l.c
  d : l.L.nws.length ≤ l.d
theorem Lv.Ok.next {l : Lv} {w w' : World} (h : l.Ok w) (q : Below w.heap.size w w') : l.Ok w' := ⟨Rd.next h.a q q.size, Rd.next h.b q q.size, h.s, h.n, h.c, h.d⟩
structure Iv where
  l : List Int
  a : Option Addr
  c : Nat
def Iv.v (i : Iv) : Value := .slice i.a i.l.length i.c
structure Iv.Ok (i : Iv) (w : World) : Prop where
  r : InR w w.heap.size i.a i.l
  m : ∀ v ∈ i.l, lim v
  n : i.l.length ≤ 9223372036854775807
theorem Iv.Ok.next {i : Iv} {w w' : World} (h : i.Ok w) (q : Below w.heap.size w w') : i.Ok w' := ⟨Rd.next h.r q q.size, h.m, h.n⟩
def Iv.zero : Iv := ⟨[], none, 0⟩
theorem Iv.zero_ok (w : World) : Iv.zero.Ok w := ⟨Rd.nil, fun _ h => (by cases h), by simp [Iv.zero]⟩
structure Fv where
  l : List Flt
  a : Option Addr
  c : Nat
def Fv.v (i : Fv) : Value := .slice i.a i.l.length i.c
structure Fv.Ok (i : Fv) (w : World) : Prop where
  r : FlR w w.heap.size i.a i.l
  n : i.l.length ≤ 9223372036854775807
theorem Fv.Ok.next {i : Fv} {w w' : World} (h : i.Ok w) (q : Below w.heap.size w w') : i.Ok w' := ⟨Rd.next h.r q q.size, h.n⟩
def Fv.zero : Fv := ⟨[], none, 0⟩
theorem Fv.zero_ok (w : World) : Fv.zero.Ok w := ⟨Rd.nil, by simp [Fv.zero]⟩
def Lv.zero : Lv := ⟨⟨0, [], []⟩, none, 0, none, 0⟩
theorem Lv.zero_ok (w : World) : Lv.zero.Ok w := ⟨Rd.nil, Rd.nil, by simp [Lv.zero], by simp [Lv.zero], by simp [Lv.zero], by simp [Lv.zero]⟩
structure Inn where
  ly : Lv
  fl : Fv
  S : Iv
  G : Iv
  times : Int
  subs : Iv
  w : Wt
def Inn.cs (i : Inn) : List Value := [.int .i64 i.ly.L.size, .slice i.ly.A i.ly.L.sgs.length i.ly.c, .slice i.ly.B i.ly.L.nws.length i.ly.d, i.fl.v, i.S.v, i.G.v, .int .i64 i.times, i.subs.v, .int .i64 i.w.first, .int .i64 i.w.each, .int .i64 i.w.left, .bool i.w.on, .bool i.w.late]
structure Inn.Ok (i : Inn) (w : World) : Prop where
  ly : i.ly.Ok w
  fl : i.fl.Ok w
  S : i.S.Ok w
  G : i.G.Ok w
  subs : i.subs.Ok w
theorem Inn.Ok.next {i : Inn} {w w' : World} (h : i.Ok w) (q : Below w.heap.size w w') : i.Ok w' := ⟨h.ly.next q, h.fl.next q, h.S.next q, h.G.next q, h.subs.next q⟩
def Inn.zero : Inn := ⟨.zero, .zero, .zero, .zero, 0, .zero, zWt⟩
theorem Inn.zero_ok (w : World) : Inn.zero.Ok w := ⟨Lv.zero_ok w, Fv.zero_ok w, Iv.zero_ok w, Iv.zero_ok w, Iv.zero_ok w⟩
def Inn.right (i : Inn) : Bool := jX i.ly.L i.fl.l i.S.l i.G.l i.times && (fitA i.ly.L i.subs.l && wtB i.w)
theorem in_cells {W : World} {B : Nat} {i : Inn} {t : TypeId} {fz : Nat × Nat} (h : W.heap[B]? = some (.cells i.cs.toArray t fz)) :
    W.cell? ⟨B, 0, none⟩ = some (.int .i64 i.ly.L.size) ∧ W.cell? ⟨B, 1, none⟩ = some (.slice i.ly.A i.ly.L.sgs.length i.ly.c) ∧ W.cell? ⟨B, 2, none⟩ = some (.slice i.ly.B i.ly.L.nws.length i.ly.d) ∧ W.cell? ⟨B, 3, none⟩ = some i.fl.v ∧ W.cell? ⟨B, 4, none⟩ = some i.S.v ∧ W.cell? ⟨B, 5, none⟩ = some i.G.v ∧ W.cell? ⟨B, 6, none⟩ = some (.int .i64 i.times) ∧ W.cell? ⟨B, 7, none⟩ = some i.subs.v ∧
    W.cell? ⟨B, 8, none⟩ = some (.int .i64 i.w.first) ∧ W.cell? ⟨B, 9, none⟩ = some (.int .i64 i.w.each) ∧ W.cell? ⟨B, 10, none⟩ = some (.int .i64 i.w.left) ∧ W.cell? ⟨B, 11, none⟩ = some (.bool i.w.on) ∧ W.cell? ⟨B, 12, none⟩ = some (.bool i.w.late) := by
  simp [World.cell?, h, Inn.cs]
set_option maxRecDepth 100000 in
set_option maxHeartbeats 8000000 in
theorem rightIn_any (i : Inn) (w : World) (ho : i.Ok w) : Calls Tryz.prog 42 #[.agg i.cs.toArray] w fun e w' => e = .returned (.bool i.right) ∧ Below w.heap.size w w' := by
  obtain ⟨r, hr⟩ : ∃ r, r = i.right := ⟨_, rfl⟩
  rw [← hr]
  unfold Inn.right at hr
  have HR := aA hr
  clear hr
  have q0 : Below w.heap.size w (w.alloc (.cells i.cs.toArray 102)) := (Below.refl _ _).alloc (Nat.le_refl _) _
  have B0 := aA (World.alloc_heap_new w (.cells i.cs.toArray 102))
  have CM := aA (fun (W : World) (hb : Below w.heap.size w W) => have o := ho.next hb; j5 i.ly.L i.ly.A i.ly.c i.ly.B i.ly.d i.fl.l i.fl.a i.fl.c i.S.l i.G.l i.S.a i.S.c i.G.a i.G.c i.times W o.ly.a o.ly.b o.ly.s o.ly.n o.ly.c o.ly.d o.fl.r o.fl.n o.S.r o.G.r o.S.m o.G.m)
  have FT := aA (fun (W : World) (hb : Below w.heap.size w W) (hr : rightB i.ly.L = true) => have o := ho.next hb; fit_any i.ly.L i.ly.A i.ly.c i.ly.B i.ly.d i.subs.l i.subs.a i.subs.c W o.ly.a o.subs.r o.subs.m hr)
  have WR := aA (fun W => jU i.w W)
  have CR := aA (show jX i.ly.L i.fl.l i.S.l i.G.l i.times = true → rightB i.ly.L = true from fun h => by unfold jX at h; simp only [Bool.and_eq_true] at h; exact h.1)
  unfold lyV grV at *
  generalize jX i.ly.L i.fl.l i.S.l i.G.l i.times = cb at *
  generalize fitA i.ly.L i.subs.l = fb at *
  generalize wtB i.w = wb at *
  have Q0 := aA q0
  clear ho q0
  generalize hw0 : w.alloc (.cells i.cs.toArray 102) = w0 at *
  obtain ⟨c0, c1, c2, c3, c4, c5, c6, c7, c8, c9, c10, c11, c12⟩ := in_cells B0.out
  unfold Fv.v at c3
  unfold Iv.v at c4 c5 c7
  go_enter Tryz.func42, Tryz.ntmps42
  go_wp2_with fail
  (with_reducible refine (CM.out _ Q0.out).mono ?_)
  rintro e1 w1 ⟨rfl, q1⟩
  have B1 := aA (aB B0.out q1)
  have Q1 := aA (aC Q0.out Q0.out.size q1)
  clear q1 B0 Q0 hw0 CM c0 c1 c2 c3 c4 c5 c6 c7 c8 c9 c10 c11 c12
  cases cb with
  | false =>
    have E := aA (show r = false by rw [HR.out]; rfl)
    clear HR FT WR
    go_wp2_with fail
    go_ret
    exact ⟨by rw [E.out]; rfl, Q1.out⟩
  | true =>
  obtain ⟨c0, c1, c2, c3, c4, c5, c6, c7, c8, c9, c10, c11, c12⟩ := in_cells B1.out
  unfold Iv.v at c7
  clear c3 c4 c5 c6 c8 c9 c10 c11 c12
  have FT1 := aA (FT.out _ Q1.out (CR.out rfl))
  go_wp2_with fail
  (with_reducible refine (FT1.out).mono ?_)
  rintro e2 w2 ⟨rfl, q2⟩
  have B2 := aA (aB B1.out q2)
  have Q2 := aA (aC Q1.out Q1.out.size q2)
  clear q2 B1 Q1 FT FT1 CR c0 c1 c2 c7
  cases fb with
  | false =>
    have E := aA (show r = false by rw [HR.out]; rfl)
    clear HR WR
    go_wp2_with fail
    go_ret
    exact ⟨by rw [E.out]; rfl, Q2.out⟩
  | true =>
  have E := aA (show r = wb by rw [HR.out]; rfl)
  obtain ⟨c0, c1, c2, c3, c4, c5, c6, c7, c8, c9, c10, c11, c12⟩ := in_cells B2.out
  clear HR c0 c1 c2 c3 c4 c5 c6 c7
  go_wp2_with fail
  (with_reducible refine (WR.out _).mono ?_)
  rintro e3 w3 ⟨rfl, q3⟩
  have Q3 := aA (aC Q2.out Q2.out.size q3)
  clear q3 B2 Q2 WR c8 c9 c10 c11 c12
  go_wp2_with fail
  go_ret
  exact ⟨by rw [E.out]; rfl, Q3.out⟩
end Go.Proofs.YtkmddjbialpppaaGreatDoor
