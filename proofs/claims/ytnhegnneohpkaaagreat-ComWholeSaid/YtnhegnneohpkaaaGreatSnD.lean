/- The walk of send.Right. -/
import Derived.Test.YtnhegnneohpkaaaGreatMgSnC
namespace Go.Proofs.YtnhegnneohpkaaaGreat
open Go.ChangeShapes Go.WideShapes Go.ChangeAt Go.RowKit
open CM

/-- The last part of Right. -/
def sndTail (s : Snd) : Bool := inI s.period (if perB s.way then 1 else 0) (if perB s.way then max (max s.way.first s.way.period) 1 else 0) && (inI s.left 0 (if dirB s.way then s.way.reps else 0) && (if 0 < s.left then inI s.gap 1 s.way.gap else decide (s.gap = 0)))
theorem sndB_parts (s : Snd) : sndB s = (wayB s.yes && (wayB s.no && (inI s.delay 0 1000000 && (inI s.hold 0 s.delay && sndTail s)))) := by
  unfold sndB sndTail inI
  congr 1
  congr 1
  rw [Bool.eq_iff_iff]
  simp only [decide_eq_true_eq, Bool.and_eq_true]
  constructor
  · rintro ⟨h1, h2, h3, h4, h5, h6, h7, h8⟩
    refine ⟨⟨h1, h2⟩, ⟨h3, h4⟩, ?_, ⟨h6, h7⟩, ?_⟩
    · split at h5
      · rename_i hp; simp only [hp, if_true]; exact h5
      · rename_i hp; simp only [hp]; simp; omega
    · split at h8
      · rename_i hp; simp only [hp, if_true]; simpa using h8
      · rename_i hp; simp only [hp, if_false]; simpa using h8
  · rintro ⟨⟨h1, h2⟩, ⟨h3, h4⟩, h5, ⟨h6, h7⟩, h8⟩
    refine ⟨h1, h2, h3, h4, ?_, h6, h7, ?_⟩
    · by_cases hp : perB s.way = true
      · simp only [hp, if_true] at h5 ⊢; exact h5
      · simp only [hp] at h5 ⊢; simp at h5 ⊢; omega
    · by_cases hp : 0 < s.left
      · simp only [hp, if_true] at h8 ⊢; simpa using h8
      · simp only [hp, if_false] at h8 ⊢; simpa using h8

set_option maxRecDepth 100000 in
set_option maxHeartbeats 8000000 in
theorem sndRight_any (s : Snd) (w : World) : Calls Tryz.prog 63 #[.agg (sncL s).toArray] w fun e w' => e = .returned (.bool (sndB s)) ∧ Below w.heap.size w w' := by
  obtain ⟨r, hr⟩ : ∃ r, r = sndB s := ⟨_, rfl⟩
  rw [← hr]
  rw [sndB_parts] at hr
  have HR := hide hr
  clear hr
  have WI := hide sndWithin_any
  have YW := hide (fun W => way_any s.yes W)
  have NW := hide (fun W => way_any s.no W)
  have q0 : Below w.heap.size w (w.alloc (.cells (sncL s).toArray 38)) := (Below.refl _ _).alloc (Nat.le_refl _) _
  have B0 := hide (World.alloc_heap_new w (.cells (sncL s).toArray 38))
  generalize hw0 : w.alloc (.cells (sncL s).toArray 38) = w0 at *
  obtain ⟨c0, c1, c2, c3, c4, c5, c6, c7, c8, c9, c10, c11, c12, c13, c14, c15, c16⟩ := sn_cells B0.out
  have Q0 := hide q0
  clear q0
  go_enter Tryz.func63, Tryz.ntmps63
  go_wp2_with fail
  (with_reducible refine (YW.out _).mono ?_)
  rintro e1 w1 ⟨rfl, q1⟩
  have B1 := hide (heap_below B0.out q1)
  have Q1 := hide (below_next Q0.out Q0.out.size q1)
  clear q1 hw0 B0 Q0 YW c0 c1 c2 c3 c4 c5 c6 c7 c8 c9 c10 c11 c12 c13 c14 c15 c16
  generalize wayB s.yes = yb at *
  generalize wayB s.no = nb at *
  cases yb with
  | false =>
    have E := hide (show r = false by rw [HR.out]; rfl)
    clear HR NW WI
    go_wp2_with fail
    go_ret
    exact ⟨by rw [E.out]; rfl, Q1.out⟩
  | true =>
  obtain ⟨c0, c1, c2, c3, c4, c5, c6, c7, c8, c9, c10, c11, c12, c13, c14, c15, c16⟩ := sn_cells B1.out
  clear c0 c1 c2 c3 c4 c10 c12 c13 c14 c16
  go_wp2_with fail
  (with_reducible refine (NW.out _).mono ?_)
  rintro e2 w2 ⟨rfl, q2⟩
  have B2 := hide (heap_below B1.out q2)
  have Q2 := hide (below_next Q1.out Q1.out.size q2)
  clear q2 B1 Q1 NW c5 c6 c7 c8 c9 c11 c15
  cases nb with
  | false =>
    have E := hide (show r = false by rw [HR.out]; rfl)
    clear HR WI
    go_wp2_with fail
    go_ret
    exact ⟨by rw [E.out]; rfl, Q2.out⟩
  | true =>
  obtain ⟨c0, c1, c2, c3, c4, c5, c6, c7, c8, c9, c10, c11, c12, c13, c14, c15, c16⟩ := sn_cells B2.out
  clear c0 c1 c2 c3 c4 c5 c6 c7 c8 c9 c10
  go_wp2_with fail
  (with_reducible refine (WI.out _ _ _ _).mono ?_)
  rintro e3 w3 ⟨rfl, rfl⟩
  rcases hd : inI s.delay 0 1000000 with _ | _
  · have E := hide (show r = false by rw [HR.out, hd]; rfl)
    clear HR WI hd
    go_wp2_with fail
    go_ret
    exact ⟨by rw [E.out]; rfl, Q2.out⟩
  go_wp2_with fail
  (with_reducible refine (WI.out _ _ _ _).mono ?_)
  rintro e4 w4 ⟨rfl, rfl⟩
  rcases hh : inI s.hold 0 s.delay with _ | _
  · have E := hide (show r = false by rw [HR.out, hd, hh]; rfl)
    clear HR WI hd hh
    go_wp2_with fail
    go_ret
    exact ⟨by rw [E.out]; rfl, Q2.out⟩
  have E := hide (show r = sndTail s by rw [HR.out, hd, hh]; rfl)
  clear HR hd hh c11 c12 c13 c14 c15 c16
  -- the copy whose way counts
  obtain ⟨c0, c1, c2, c3, c4, c5, c6, c7, c8, c9, c10, c11, c12, c13, c14, c15, c16⟩ := sn_cells B2.out
  have a3 : Below w2.heap.size w2 (w2.alloc (.cells (sncL s).toArray 116)) := (Below.refl _ _).alloc (Nat.le_refl _) _
  have A3 := hide (World.alloc_heap_new w2 (.cells (sncL s).toArray 116))
  have B3 := hide (heap_below B2.out a3)
  have Q3 := hide (below_next Q2.out Q2.out.size a3)
  obtain ⟨w3, hw3⟩ : ∃ w3, w3 = w2.alloc (.cells (sncL s).toArray 116) := ⟨_, rfl⟩
  rw [← hw3] at A3 B3 Q3
  have SW := hide (snWay_any s w2.heap.size 116 w3 A3)
  have zw : w.heap.size < w2.heap.size := heap_lt B2.out
  clear a3
  go_upto_region 4 with fail
  change Code.wp _ _ _ _ (w2.alloc (.cells (sncL s).toArray 116))
  rw [← hw3]
  clear hw3 c0 c1 c2 c3 c4 c5 c6 c7 c8 c9 c10 c11 c12 c13 c14 c15 c16 B2 Q2 A3
  obtain ⟨Y, hY⟩ : ∃ Y, Y = s.way := ⟨_, rfl⟩
  have ET := hide (show sndTail s = (inI s.period (if perB Y then 1 else 0) (if perB Y then max (max Y.first Y.period) 1 else 0) && (inI s.left 0 (if dirB Y then Y.reps else 0) && (if 0 < s.left then inI s.gap 1 Y.gap else decide (s.gap = 0)))) from by rw [hY]; rfl)
  rw [← hY] at SW
  have PR := hide (fun W => periodic_any Y W)
  have DR := hide (fun W => direct_any Y W)
  clear hY
  generalize perB Y = pb at *
  generalize dirB Y = db at *
  obtain ⟨xk, xf, xp, xr, xg⟩ := Y
  dsimp only at *
  go_wp2_with fail
  (with_reducible refine (SW.out).mono ?_)
  rintro e5 w4 ⟨rfl, q4⟩
  have B4 := hide (heap_below B3.out q4)
  have Q4 := hide (below_next Q3.out Q3.out.size q4)
  clear q4 SW B3 Q3
  have q5 : Below w4.heap.size w4 (w4.alloc (.cells #[.int .i64 0, .int .i64 0, .int .i64 0, .int .i64 0, .int .i64 0] 32)) := (Below.refl _ _).alloc (Nat.le_refl _) _
  have A5 := World.alloc_heap_new w4 (.cells #[.int .i64 0, .int .i64 0, .int .i64 0, .int .i64 0, .int .i64 0] 32)
  have B5 := hide (heap_below B4.out q5)
  have TH := hide (show (w4.alloc (.cells #[.int .i64 0, .int .i64 0, .int .i64 0, .int .i64 0, .int .i64 0] 32)).there w4.heap.size 0 5 from there_heap (cs := [_, _, _, _, _]) A5)
  have HA := hide A5
  have Q5 := hide (below_next Q4.out Q4.out.size q5)
  clear A5 q5
  go_wp2_with (refine wpList_store_hid (by rfl) 32 (.tmp 4) (.tmp 37) (by rfl) w4.heap.size 0 [.int .i64 xk, .int .i64 xf, .int .i64 xp, .int .i64 xr, .int .i64 xg] (by rfl) (by rfl) (by exact TH.out) (by kernel_rfl) (by simp [Value.oneCell']) ?_)
  intro w6 e6
  have zw4 : w.heap.size < w4.heap.size := heap_lt B4.out
  have A6 := hide (show w6.heap[w4.heap.size]? = some (.cells #[.int .i64 xk, .int .i64 xf, .int .i64 xp, .int .i64 xr, .int .i64 xg] 32 (0, 0)) by rw [e6.out]; exact whole_heap [.int .i64 xk, .int .i64 xf, .int .i64 xp, .int .i64 xr, .int .i64 xg] (xs := [_, _, _, _, _]) HA.out rfl)
  have Q6 := hide (show Below w.heap.size w w6 by rw [e6.out]; exact Q5.out.trans (below_setCells (g := w4.heap.size) _ 0 _ (by omega)))
  have B6 := hide (show w6.heap[w.heap.size]? = some (.cells (sncL s).toArray 38 (0, 0)) by rw [e6.out]; exact other_heap (x := w.heap.size) (b := w4.heap.size) (by omega) _ 0 _ B5.out)
  clear e6 TH HA Q5 B5 B4 Q4 zw4 zw
  generalize w4.heap.size = yb at *
  obtain ⟨c0, c1, c2, c3, c4⟩ := wy_cells (f := ⟨xk, xf, xp, xr, xg⟩) A6.out
  dsimp only at c0 c1 c2 c3 c4
  go_wp2_with fail
  (with_reducible refine (PR.out _).mono ?_)
  rintro e7 w7 ⟨rfl, q7⟩
  have B7 := hide (heap_below B6.out q7)
  have A7 := hide (heap_below A6.out q7)
  have Q7 := hide (below_next Q6.out Q6.out.size q7)
  clear q7 PR A6 B6 Q6 c0 c1 c2 c3 c4
  -- least and top
  obtain ⟨m1, em1, hm1⟩ := run_max (P := Tryz.prog) xf xp
  obtain ⟨least, hle⟩ : ∃ least : Int, least = if pb then 1 else 0 := ⟨_, rfl⟩
  obtain ⟨top, hto⟩ : ∃ top : Int, top = if pb then max (max xf xp) 1 else 0 := ⟨_, rfl⟩
  rw [← hle, ← hto] at ET
  have HLE := hide hle
  have HTO := hide hto
  clear hle hto em1 hm1
  go_upto_if 39 with fail
  go_cut [5, 6] from 40 (fun a b W => a = .int .i64 least ∧ b = .int .i64 top ∧ Hid (Below w7.heap.size w7 W))
  case first =>
    clear E ET WI DR
    cases pb with
    | false =>
      have e1 : Hid (least = 0) := hide (by rw [HLE.out]; rfl)
      have e2 : Hid (top = 0) := hide (by rw [HTO.out]; rfl)
      clear HLE HTO
      go_wp2_with fail
      go_meet
      exact ⟨by rw [e1.out], by rw [e2.out], hide (Below.refl _ _)⟩
    | true =>
      have e1 : Hid (least = 1) := hide (by rw [HLE.out]; rfl)
      have e2 : Hid (top = max (max xf xp) 1) := hide (by rw [HTO.out]; rfl)
      clear HLE HTO
      obtain ⟨c0, c1, c2, c3, c4⟩ := wy_cells (f := ⟨xk, xf, xp, xr, xg⟩) A7.out
      dsimp only at c0 c1 c2 c3 c4
      have zy : yb < w7.heap.size := heap_lt A7.out
      have f1 := fun s : InW w7 => s.cell zy c1
      have f2 := fun s : InW w7 => s.cell zy c2
      clear c0 c1 c2 c3 c4
      go_wp2_with fail
      refine wp_region_tame (by kernel_rfl) (by kernel_rfl) ?_
      repeat (go_big_quiet_step (fail))
      refine wpQuiet_nil ?_
      rintro _ ⟨sw, rfl⟩
      have qs := hide sw.h
      clear f1 f2
      go_wp2_with fail
      all_goals go_meet
      all_goals refine ⟨by rw [e1.out], ?_, qs⟩
      all_goals rw [e2.out]
      all_goals congr 1
      all_goals (repeat' split)
      all_goals omega
  case rest =>
  obtain ⟨rfl, rfl, hq⟩ := hcut
  have B8 := hide (heap_below B7.out hq.out)
  have A8 := hide (heap_below A7.out hq.out)
  have Q8 := hide (below_next Q7.out Q7.out.size hq.out)
  clear B7 A7 Q7 hq
  obtain ⟨c0, c1, c2, c3, c4⟩ := wy_cells (f := ⟨xk, xf, xp, xr, xg⟩) A8.out
  dsimp only at c0 c1 c2 c3 c4
  go_wp2_with fail
  (with_reducible refine (DR.out _).mono ?_)
  rintro e9 w9 ⟨rfl, q9⟩
  have B9 := hide (heap_below B8.out q9)
  have A9 := hide (heap_below A8.out q9)
  have Q9 := hide (below_next Q8.out Q8.out.size q9)
  clear B8 A8 Q8 q9 DR c0 c1 c2 c3 c4
  cases db with
  | false =>
    have ER : Hid ((if false = true then xr else 0 : Int) = 0) := hide (by simp)
    rw [ER.out] at ET
    clear ER
    obtain ⟨d0, d1, d2, d3, d4, d5, d6, d7, d8, d9, d10, d11, d12, d13, d14, d15, d16⟩ := sn_cells B9.out
    obtain ⟨c0, c1, c2, c3, c4⟩ := wy_cells (f := ⟨xk, xf, xp, xr, xg⟩) A9.out
    dsimp only at c0 c1 c2 c3 c4
    clear d0 d1 d2 d3 d4 d5 d6 d7 d8 d9 d10 d11 d15 d16
    go_wp2_with fail
    (with_reducible refine (WI.out _ _ _ _).mono ?_)
    rintro e10 w10 ⟨rfl, rfl⟩
    rcases hp : inI s.period least top with _ | _
    · have F := hide (show r = false by rw [E.out, ET.out, hp]; rfl)
      clear E ET hp WI
      go_wp2_with fail
      go_ret
      exact ⟨by rw [F.out]; rfl, Q9.out⟩
    go_wp2_with fail
    (with_reducible refine (WI.out _ _ _ _).mono ?_)
    rintro e10 w10 ⟨rfl, rfl⟩
    rcases hl : inI s.left 0 0 with _ | _
    · have F := hide (show r = false by rw [E.out, ET.out, hp, hl]; rfl)
      clear E ET hp hl WI
      go_wp2_with fail
      go_ret
      exact ⟨by rw [F.out]; rfl, Q9.out⟩
    have E2 := hide (show r = (if 0 < s.left then inI s.gap 1 xg else decide (s.gap = 0)) by rw [E.out, ET.out, hp, hl]; rfl)
    clear E ET hp hl
    by_cases h0 : 0 < s.left
    · have F := hide (show r = inI s.gap 1 xg by rw [E2.out, if_pos h0])
      clear E2
      go_wp2_with fail
      (with_reducible refine (WI.out _ _ _ _).mono ?_)
      rintro e10 w10 ⟨rfl, rfl⟩
      go_wp2_with fail
      go_ret
      exact ⟨by rw [F.out]; rfl, Q9.out⟩
    · have F := hide (show r = decide (s.gap = 0) by rw [E2.out, if_neg h0])
      have hg : (s.gap == 0) = decide (s.gap = 0) := rfl
      clear E2 WI
      generalize decide (s.gap = 0) = gz at *
      go_wp2_with fail
      go_ret
      exact ⟨by rw [F.out]; first | rfl | (simp [hg]), Q9.out⟩
  | true =>
    have ER : Hid ((if true = true then xr else 0 : Int) = xr) := hide (by simp)
    rw [ER.out] at ET
    clear ER
    obtain ⟨d0, d1, d2, d3, d4, d5, d6, d7, d8, d9, d10, d11, d12, d13, d14, d15, d16⟩ := sn_cells B9.out
    obtain ⟨c0, c1, c2, c3, c4⟩ := wy_cells (f := ⟨xk, xf, xp, xr, xg⟩) A9.out
    dsimp only at c0 c1 c2 c3 c4
    clear d0 d1 d2 d3 d4 d5 d6 d7 d8 d9 d10 d11 d15 d16
    go_wp2_with fail
    (with_reducible refine (WI.out _ _ _ _).mono ?_)
    rintro e10 w10 ⟨rfl, rfl⟩
    rcases hp : inI s.period least top with _ | _
    · have F := hide (show r = false by rw [E.out, ET.out, hp]; rfl)
      clear E ET hp WI
      go_wp2_with fail
      go_ret
      exact ⟨by rw [F.out]; rfl, Q9.out⟩
    go_wp2_with fail
    (with_reducible refine (WI.out _ _ _ _).mono ?_)
    rintro e10 w10 ⟨rfl, rfl⟩
    rcases hl : inI s.left 0 xr with _ | _
    · have F := hide (show r = false by rw [E.out, ET.out, hp, hl]; rfl)
      clear E ET hp hl WI
      go_wp2_with fail
      go_ret
      exact ⟨by rw [F.out]; rfl, Q9.out⟩
    have E2 := hide (show r = (if 0 < s.left then inI s.gap 1 xg else decide (s.gap = 0)) by rw [E.out, ET.out, hp, hl]; rfl)
    clear E ET hp hl
    by_cases h0 : 0 < s.left
    · have F := hide (show r = inI s.gap 1 xg by rw [E2.out, if_pos h0])
      clear E2
      go_wp2_with fail
      (with_reducible refine (WI.out _ _ _ _).mono ?_)
      rintro e10 w10 ⟨rfl, rfl⟩
      go_wp2_with fail
      go_ret
      exact ⟨by rw [F.out]; rfl, Q9.out⟩
    · have F := hide (show r = decide (s.gap = 0) by rw [E2.out, if_neg h0])
      have hg : (s.gap == 0) = decide (s.gap = 0) := rfl
      clear E2 WI
      generalize decide (s.gap = 0) = gz at *
      go_wp2_with fail
      go_ret
      exact ⟨by rw [F.out]; first | rfl | (simp [hg]), Q9.out⟩
end Go.Proofs.YtnhegnneohpkaaaGreat
