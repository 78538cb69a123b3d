/- The walk of campanilelaw07.CtlOff. -/
import Derived.Test.YtpfbobcilphncaaDoorCsOP
import Derived.Test.YtpfbobcilphncaaDoorMgCtH
namespace Go.Proofs.YtpfbobcilphncaaDoor
open Go.ChangeShapes Go.WideShapes Go.ChangeAt Go.RowKit
open FP (Fr bitsF bodyF)

set_option maxRecDepth 100000 in
set_option maxHeartbeats 64000000 in
theorem ctlOff_walk (f : Fr) (acks : Bool) (w : World) (hid : f.id < 4294967296) (hs : f.data.size ≤ maxLen) : Calls Tryd.prog 4 #[.agg (frc f).toArray, .bool acks] w fun e w' => e = .returned (.bool true) ∧ Below w.heap.size w w' := by
  obtain ⟨w0, hw0⟩ : ∃ w0, w0 = w.alloc (.cells (frc f).toArray 24) := ⟨_, rfl⟩
  have B0 := hide (World.alloc_heap_new w (.cells (frc f).toArray 24))
  have Q0 : Hid (Below w.heap.size w w0) := by rw [hw0]; exact hide ((Below.refl _ _).alloc (Nat.le_refl _) _)
  rw [← hw0] at B0
  have FW := hide (few07_any f w0 hs)
  clear hs
  go_enter Tryd.func4, Tryd.ntmps4
  go_upto_region 1 with fail
  change Code.wp _ _ _ _ (w.alloc (.cells (frc f).toArray 24))
  rw [← hw0]
  clear hw0
  go_wp2_with (refine wpList_load_row rfl 24 (.tmp 2) (by rfl) w.heap.size (by rfl) 24 (frc f).toArray (0, 0) _ (by exact B0.out) Tryd.underlying24 (by rfl) (by kernel_rfl) ?_)
  (with_reducible refine (FW.out).mono ?_)
  rintro e1 w1 ⟨rfl, q1⟩
  have B1 := hide (heap_below B0.out q1)
  have Q1 := hide (below_next Q0.out Q0.out.size q1)
  have TH := hide (show w1.there w.heap.size 0 5 from there_heap (cs := frc f) B1.out)
  have hid2 : (cut7 f).id < 4294967296 := hid
  clear q1 B0 Q0 FW hid
  generalize cut7 f = g at *
  go_wp2_with (refine wpList_store_hid (by rfl) 24 (.tmp 2) (.tmp 22) (by rfl) w.heap.size 0 (frc g) (by rfl) (by rfl) (by exact TH.out) (by kernel_rfl) (by simp [Value.oneCell', frc]) ?_)
  intro w2 e2
  have G2 := hide (show w2.heap[w.heap.size]? = some (.cells (frc g).toArray 24 (0, 0)) by rw [e2.out]; exact whole_heap (frc g) (xs := frc f) B1.out rfl)
  have Q2 := hide (show Below w.heap.size w w2 by rw [e2.out]; exact Q1.out.trans (below_setCells _ _ _ (Nat.le_refl _)))
  clear e2 TH B1 Q1
  have RY := hide (ready_any w2)
  obtain ⟨c0, hc0⟩ : ∃ c0, c0 = idleC := ⟨_, rfl⟩
  rw [← hc0] at RY
  have HC0 := hide hc0
  clear hc0
  go_wp2_with fail
  (with_reducible refine (RY.out).mono ?_)
  rintro e3 w3 ⟨rfl, q3⟩
  have qa : Below w3.heap.size w3 (w3.alloc (.cells zCl.cs.toArray 33)) := (Below.refl _ _).alloc (Nat.le_refl _) _
  have G3 := hide (heap_below (heap_below G2.out q3) qa)
  have C3 := hide (World.alloc_heap_new w3 (.cells zCl.cs.toArray 33))
  have Q3 := hide (below_next (below_next Q2.out Q2.out.size q3) (below_next Q2.out Q2.out.size q3).size qa)
  have z3 : w.heap.size < w3.heap.size := heap_lt (heap_below G2.out q3)
  have T3 := hide (show (w3.alloc (.cells zCl.cs.toArray 33)).there w3.heap.size 0 23 from there_heap (cs := zCl.cs) C3.out)
  obtain ⟨y, hy⟩ : ∃ y, y = w3.heap.size := ⟨_, rfl⟩
  clear q3 qa G2 Q2 RY
  go_wp2_with (refine wpList_store_hid (by rfl) 33 (.tmp 5) (.tmp 25) (by rfl) w3.heap.size 0 c0.cs (by rfl) (by rfl) (by exact T3.out) (by kernel_rfl) (by simp [Value.oneCell', Cl.cs]) ?_)
  intro w4 e4
  have C4 := hide (show w4.heap[w3.heap.size]? = some (.cells c0.cs.toArray 33 (0, 0)) by rw [e4.out]; exact whole_heap c0.cs (xs := zCl.cs) C3.out rfl)
  have G4 := hide (show w4.heap[w.heap.size]? = some (.cells (frc g).toArray 24 (0, 0)) by rw [e4.out]; exact other_heap (by omega) _ _ _ G3.out)
  have Q4 := hide (show Below w.heap.size w w4 by rw [e4.out]; exact Q3.out.trans (below_setCells _ _ _ (by omega)))
  clear e4 T3 C3 G3 Q3
  rw [← hy] at C4 z3
  have SU := hide (show Calls Tryd.prog 15 #[.agg c0.cs.toArray, .agg (frc g).toArray] w4 _ from ctlSubmit_q c0 g w4 (by rw [HC0.out]; exact idle_q) (by rw [HC0.out]; rfl) hid2)
  simp only [← hy]
  clear hy
  go_wp2_with (first | (refine wpList_load_row rfl 33 (.tmp 5) (by rfl) y (by rfl) 33 c0.cs.toArray (0, 0) _ (by exact C4.out) Tryd.underlying33 (by rfl) (by kernel_rfl) ?_) | (refine wpList_load_row rfl 24 (.tmp 2) (by rfl) w.heap.size (by rfl) 24 (frc g).toArray (0, 0) _ (by exact G4.out) Tryd.underlying24 (by rfl) (by kernel_rfl) ?_))
  (with_reducible refine (SU.out).mono ?_)
  rintro e5 w5 ⟨hsub, q5⟩
  have C5 := hide (heap_below C4.out q5)
  have G5 := hide (heap_below G4.out q5)
  have Q5 := hide (below_next Q4.out Q4.out.size q5)
  have T5 := hide (show w5.there y 0 23 from there_heap (cs := c0.cs) C5.out)
  have RR := hide (fun W => show Calls Tryd.prog 8 #[.agg (frc g).toArray] W fun e w' => e = .returned (.bool (FP.rightB g)) ∧ Below W.heap.size W w' from refRight04_any g W hid2)
  have AL := hide (fun W => alive07_any W)
  clear q5 C4 G4 Q4 SU
  rcases hsub with ⟨hr, rfl⟩ | ⟨hr, rfl⟩
  case inr =>
    rw [hr] at RR
    go_wp2_with (refine wpList_store_hid (by rfl) 33 (.tmp 5) (.tmp 31) (by rfl) y 0 zCl.cs (by rfl) (by rfl) (by exact T5.out) (by kernel_rfl) (by simp [Value.oneCell', Cl.cs]) ?_)
    intro w6 e6
    have G6 := hide (show w6.heap[w.heap.size]? = some (.cells (frc g).toArray 24 (0, 0)) by rw [e6.out]; exact other_heap (by omega) _ _ _ G5.out)
    have Q6 := hide (show Below w.heap.size w w6 by rw [e6.out]; exact Q5.out.trans (below_setCells _ _ _ (by omega)))
    clear e6 T5 C5 G5 Q5
    go_wp2_with fail
    (with_reducible refine (AL.out _).mono ?_)
    rintro e7 w7 ⟨rfl, q7⟩
    have G7 := hide (heap_below G6.out q7)
    have Q7 := hide (below_next Q6.out Q6.out.size q7)
    clear q7 G6 Q6
    go_wp2_with (refine wpList_load_rowG (by kernel_rfl) 24 (.tmp 2) (by rfl) w.heap.size (by rfl) 24 (frc g).toArray (0, 0) _ (by exact G7.out) Tryd.underlying24 (by rfl) (by kernel_rfl) ?_)
    (with_reducible refine (RR.out _).mono ?_)
    rintro e8 w8 ⟨rfl, q8⟩
    have Q8 := hide (below_next Q7.out Q7.out.size q8)
    go_wp2_with fail
    go_ret
    exact ⟨rfl, Q8.out⟩
  case inl =>
  obtain ⟨gc, hgc⟩ : ∃ gc, gc = c0.give g := ⟨_, rfl⟩
  rw [← hgc]
  have HG := hide (show gc.Ok ∧ Bad g acks gc 0 0 by
    have e : gc = idleC.give g := by rw [hgc, HC0.out]
    rw [e]
    exact ⟨⟨rfl, rfl, fun _ => hr, (fun e => by cases e), (by decide : (0 : Int) ≤ 1), (by decide : (1 : Int) ≤ 8), Int.le_refl 0, (by decide : (0 : Int) ≤ topN 1), (fun e => by cases e), fun _ => ⟨rfl, rfl, rfl, rfl, rfl, rfl, rfl, rfl, rfl⟩, (fun e => by cases e)⟩, bad_zero acks⟩)
  clear hgc
  go_wp2_with (refine wpList_store_hid (by rfl) 33 (.tmp 5) (.tmp 31) (by rfl) y 0 gc.cs (by rfl) (by rfl) (by exact T5.out) (by kernel_rfl) (by simp [Value.oneCell', Cl.cs]) ?_)
  intro w6 e6
  have C := hide (show w6.heap[y]? = some (.cells gc.cs.toArray 33 (0, 0)) by rw [e6.out]; exact whole_heap gc.cs (xs := c0.cs) C5.out rfl)
  have Q := hide (show Below w.heap.size w w6 by rw [e6.out]; exact Q5.out.trans (below_setCells _ _ _ (by omega)))
  have HRT := hide hr
  have STEP := hide (fun (d : Cl) (e r : Nat) (hk : d.Ok) (h : Bad g acks d e r) => bad_step hr hk h)
  have LT := hide (fun (d : Cl) (e r : Nat) (hk : d.Ok) (h : Bad g acks d e r) => bad_lt hr hk h)
  clear e6 T5 C5 G5 Q5 RR hr HC0
  go_wp2_with fail
  (with_reducible refine (AL.out _).mono ?_)
  rintro ew1' w1' ⟨rfl, qw1'⟩
  replace C := hide (heap_below C.out qw1')
  replace Q := hide (below_next Q.out Q.out.size qw1')
  clear qw1'
  clear AL
  go_upto_block 0 with fail
  go_cut [8] (fun v8 W => ∃ (e : Nat) (d : Cl), v8 = .int .i64 e ∧ d.Ok ∧ Hid (W.heap[y]? = some (.cells d.cs.toArray 33 (0, 0))) ∧ Hid (Below w.heap.size w W) ∧ e ≤ 20000 ∧ ((acks = false ∧ Hid (Bad g acks d e 16000)) ∨ (acks = true ∧ e = 32 ∧ Hid (IsOff g d))))
  case first =>
    go_wp2_with fail
    go_loopw [47, 8] (fun vi v8 W => ∃ (k e : Nat) (d : Cl), k ≤ 16000 ∧ e ≤ k ∧ vi = .int .i64 k ∧ v8 = .int .i64 e ∧ d.Ok ∧ Hid (Bad g acks d e k) ∧ Hid (W.heap[y]? = some (.cells d.cs.toArray 33 (0, 0))) ∧ Hid (Below w.heap.size w W)) (fun vi _ _ => 16000 - (intOf vi).toNat)
    case atStart => exact ⟨0, 0, gc, by omega, by omega, rfl, rfl, HG.out.1, hide HG.out.2, C, Q⟩
    case round =>
      clear C Q HG
      obtain ⟨k, e, d, hk, hek, rfl, rfl, hok, HB, C, Q⟩ := hrel
      by_cases hlt : k < 16000
      · have hki : (k : Int) < 16000 := by omega
        obtain ⟨e', hkd, hnx⟩ := STEP.out d e k hok HB.out
        have DR := hide (fun W => ctlDrive_ok d W hok)
        have hbit : offB acks d = 48 ∨ offB acks d = 49 := by
          unfold offB
          split
          · exact .inl rfl
          · exact ok_drv hok
        have HBT := hide (show offB acks d = if acks = true ∧ d.st = 2 ∧ d.en = true then 48 else d.drv from rfl)
        have hok2 := hok.samp (offB acks d) hbit
        have SA := hide (fun (W : World) => ctlSample_ok d (offB acks d) hbit W hok)
        generalize offB acks d = bt at *
        generalize d.samp bt = M at *
        obtain ⟨d2, kd, ef, bd⟩ := M
        dsimp only at hkd hnx hok2 SA
        generalize d.drv = db at *
        obtain ⟨xb, hxb⟩ : ∃ xb : Bool, xb = decide (acks = true ∧ d.st = 2 ∧ d.en = true) := ⟨_, rfl⟩
        have HXB := hide hxb
        have HKD := hide hkd
        have HNX := hide hnx
        clear hxb hkd hnx hbit HB hok
        go_wp2_with (refine wpList_load_row rfl 33 (.tmp 5) (by rfl) y (by rfl) 33 d.cs.toArray (0, 0) _ (by exact C.out) Tryd.underlying33 (by rfl) (by kernel_rfl) ?_)
        (with_reducible refine (DR.out _).mono ?_)
        rintro ew2' w2' ⟨rfl, qw2'⟩
        replace C := hide (heap_below C.out qw2')
        replace Q := hide (below_next Q.out Q.out.size qw2')
        clear qw2'
        clear DR
        go_upto_region 14 with fail
        go_cut [65] (fun v W => v = .bool xb ∧ W = w2')
        case first =>
          obtain ⟨-, ⟨c4', -, -, -, -⟩, -, -, -, -, -, -, -, c20', -, -⟩ := cl_cells C.out
          have hb2 := HXB.out
          clear HXB HBT SA HKD HNX C Q STEP LT
          by_cases ha : acks = true
          · subst ha
            by_cases h2 : d.st = 2
            · have hq : (d.st == 2) = true := by simpa using h2
              have hb3 : xb = d.en := by rw [hb2]; cases d.en <;> simp [h2]
              clear h2 hb2
              subst hb3
              go_wp2_with fail
              go_meet
              exact ⟨rfl, rfl⟩
            · have hq : (d.st == 2) = false := by simpa using h2
              rw [decide_eq_false (fun q => h2 q.2.1)] at hb2
              clear h2
              subst hb2
              go_wp2_with fail
              go_meet
              exact ⟨rfl, rfl⟩
          · have ha2 : acks = false := by simpa using ha
            rw [decide_eq_false (fun q => ha q.1)] at hb2
            clear ha
            subst hb2
            subst ha2
            go_wp2_with fail
            go_meet
            exact ⟨rfl, rfl⟩
        case rest =>
        rename_i hK2 _ hK
        obtain ⟨rfl, rfl⟩ := hcut
        refine hK _ _ ?_
        clear hK
        go_cut [9, 65] (fun v _ W => v = .int .u8 bt.toNat ∧ W = wc)
        case first =>
          have hb2 := HBT.out
          have hx2 := HXB.out
          clear HBT SA HKD HNX HXB C Q STEP LT hK2
          cases xb with
          | true =>
            rw [if_pos (of_decide_eq_true hx2.symm)] at hb2
            subst hb2
            go_wp2_with fail
            go_meet
            exact ⟨rfl, rfl⟩
          | false =>
            rw [if_neg (of_decide_eq_false hx2.symm)] at hb2
            subst hb2
            go_wp2_with fail
            go_meet
            exact ⟨rfl, rfl⟩
        case rest =>
        obtain ⟨rfl, rfl⟩ := hcut
        refine hK2 _ _ ?_
        clear hK2 HXB HBT
        go_wp2_with (refine wpList_load_row rfl 33 (.tmp 5) (by rfl) y (by rfl) 33 d.cs.toArray (0, 0) _ (by exact C.out) Tryd.underlying33 (by rfl) (by kernel_rfl) ?_)
        (with_reducible refine (SA.out _).mono ?_)
        rintro ew3' w3' ⟨rfl, qw3'⟩
        replace C := hide (heap_below C.out qw3')
        replace Q := hide (below_next Q.out Q.out.size qw3')
        clear qw3'
        clear SA
        have q4' : Below w3'.heap.size w3' ((w3'.alloc (.cells zCl.cs.toArray 33)).alloc (.cells ((evL 0 zFr 0)).toArray 42)) := ((Below.refl _ _).alloc (Nat.le_refl _) _).alloc (by simp) _
        have N7 := heap_below (World.alloc_heap_new w3' (.cells zCl.cs.toArray 33)) ((Below.refl _ _).alloc (Nat.le_refl _) (.cells ((evL 0 zFr 0)).toArray 42))
        have N8 := World.alloc_heap_new (w3'.alloc (.cells zCl.cs.toArray 33)) (.cells ((evL 0 zFr 0)).toArray 42)
        simp only [World.size_alloc] at N8
        have zCx : y < w3'.heap.size := heap_lt C.out
        replace C := hide (heap_below C.out q4')
        replace Q := hide (below_next Q.out Q.out.size q4')
        clear q4'
        obtain ⟨w5', hw5'⟩ : ∃ wx, wx = (w3'.alloc (.cells zCl.cs.toArray 33)).alloc (.cells ((evL 0 zFr 0)).toArray 42) := ⟨_, rfl⟩
        rw [← hw5'] at Q C N7 N8
        replace N7 := hide N7
        replace N8 := hide N8
        have Tw6' := hide (show ((w3'.alloc (.cells zCl.cs.toArray 33)).alloc (.cells ((evL 0 zFr 0)).toArray 42)).there w3'.heap.size 0 23 by rw [← hw5']; exact there_heap (cs := zCl.cs) N7.out)
        go_wp2_with (refine wpList_store_hid (by rfl) 33 (.tmp 11) (.tmp 70) (by rfl) w3'.heap.size 0 d2.cs (by rfl) (by rfl) (by exact Tw6'.out) (by kernel_rfl) (by simp [Value.oneCell', Cl.cs]) ?_)
        intro w6' ew6'
        replace ew6' : Hid (w6' = w5'.setCells w3'.heap.size 0 d2.cs) := by rw [hw5']; exact ew6'
        replace C := hide (show w6'.heap[y]? = some (.cells d.cs.toArray 33 (0, 0)) by rw [ew6'.out]; exact other_heap (by omega) _ _ _ C.out)
        replace N8 := hide (show w6'.heap[w3'.heap.size + 1]? = some (.cells ((evL 0 zFr 0)).toArray 42 (0, 0)) by rw [ew6'.out]; exact other_heap (by omega) _ _ _ N8.out)
        replace Q := hide (show Below w.heap.size w w6' by rw [ew6'.out]; exact Q.out.trans (below_setCells _ _ _ (by have := Q.out.size; omega)))
        replace N7 := hide (show w6'.heap[w3'.heap.size]? = some (.cells d2.cs.toArray 33 (0, 0)) by rw [ew6'.out]; exact whole_heap d2.cs (xs := zCl.cs) N7.out rfl)
        clear ew6' Tw6' hw5'
        have Tw7' := hide (show w6'.there (w3'.heap.size + 1) 0 7 from there_heap (cs := (evL 0 zFr 0)) N8.out)
        go_wp2_with (refine wpList_store_hid (by rfl) 42 (.tmp 12) (.tmp 71) (by rfl) (w3'.heap.size + 1) 0 (evL kd ef bd) (by rfl) (by rfl) (by exact Tw7'.out) (by kernel_rfl) (by simp [Value.oneCell', evL]) ?_)
        intro w7' ew7'
        replace C := hide (show w7'.heap[y]? = some (.cells d.cs.toArray 33 (0, 0)) by rw [ew7'.out]; exact other_heap (by omega) _ _ _ C.out)
        replace N7 := hide (show w7'.heap[w3'.heap.size]? = some (.cells d2.cs.toArray 33 (0, 0)) by rw [ew7'.out]; exact other_heap (by omega) _ _ _ N7.out)
        replace Q := hide (show Below w.heap.size w w7' by rw [ew7'.out]; exact Q.out.trans (below_setCells _ _ _ (by have := Q.out.size; omega)))
        replace N8 := hide (show w7'.heap[w3'.heap.size + 1]? = some (.cells (evL kd ef bd).toArray 42 (0, 0)) by rw [ew7'.out]; exact whole_heap (evL kd ef bd) (xs := (evL 0 zFr 0)) N8.out rfl)
        clear ew7' Tw7'
        generalize w3'.heap.size = x at *
        go_upto_region 17 with fail
        go_cut [79] (fun v W => v = .bool false ∧ W = w7')
        case first =>
          obtain ⟨v0, -⟩ := ev_cells N8.out
          have hk2 := HKD.out
          clear HKD HNX C Q N7 N8 STEP LT
          rcases hk2 with ⟨rfl, -⟩ | ⟨rfl, -⟩
          all_goals
            go_wp2_with fail
            go_meet
            exact ⟨rfl, rfl⟩
        case rest =>
        rename_i hK2 _ hK
        obtain ⟨rfl, rfl⟩ := hcut
        refine hK _ _ ?_
        refine wp_cond_false (by rfl) (wp_skip ?_)
        refine hK2 _ _ ?_
        clear hK hK2
        go_upto_region 19 with fail
        go_cut [82] (fun v W => v = .bool (kd == 3) ∧ W = wc)
        case first =>
          obtain ⟨v0, -⟩ := ev_cells N8.out
          clear HKD HNX C Q N7 N8 STEP LT
          go_wp2_with fail
          go_meet
          exact ⟨rfl, rfl⟩
        case rest =>
        rename_i hK2 _ hK
        obtain ⟨rfl, rfl⟩ := hcut
        refine hK _ _ ?_
        clear hK
        have hee : e' ≤ e + 1 := by rcases HKD.out with ⟨-, h⟩ | ⟨-, h⟩ <;> omega
        go_cut [8, 82] (fun v _ W => v = .int .i64 e' ∧ W = wc)
        case first =>
          have hk2 := HKD.out
          clear HKD HNX C Q N7 N8 STEP LT hK2
          have hek2 : (e : Int) ≤ 20000 := by omega
          rcases hk2 with ⟨rfl, h⟩ | ⟨rfl, h⟩
          · go_wp2_with fail
            go_meet
            exact ⟨by rw [h]; first | rfl | (congr 1), rfl⟩
          · go_wp2_with fail
            go_meet
            exact ⟨by rw [h], rfl⟩
        case rest =>
        obtain ⟨rfl, rfl⟩ := hcut
        refine hK2 _ _ ?_
        clear hK2 HKD
        clear N8
        have Tw8' := hide (show World.there _ y 0 23 from there_heap (cs := d.cs) C.out)
        go_wp2_with (first | (refine wpList_load_row rfl 33 (.tmp 11) (by rfl) x (by rfl) 33 d2.cs.toArray (0, 0) _ (by exact N7.out) Tryd.underlying33 (by rfl) (by kernel_rfl) ?_) | (refine wpList_store_hid (by rfl) 33 (.tmp 5) (.tmp 85) (by rfl) y 0 d2.cs (by rfl) (by rfl) (by exact Tw8'.out) (by kernel_rfl) (by simp [Value.oneCell', Cl.cs]) ?_))
        intro w8' ew8'
        replace N7 := hide (show w8'.heap[x]? = some (.cells d2.cs.toArray 33 (0, 0)) by rw [ew8'.out]; exact other_heap (by omega) _ _ _ N7.out)
        replace Q := hide (show Below w.heap.size w w8' by rw [ew8'.out]; exact Q.out.trans (below_setCells _ _ _ (by have := Q.out.size; omega)))
        replace C := hide (show w8'.heap[y]? = some (.cells d2.cs.toArray 33 (0, 0)) by rw [ew8'.out]; exact whole_heap d2.cs (xs := d.cs) C.out rfl)
        clear ew8' Tw8'
        obtain ⟨-, ⟨c4', -, -, -, -⟩, -⟩ := cl_cells C.out
        rcases HNX.out with ⟨hb, hst⟩ | ⟨ha, he, hst, hoff⟩
        · have hq : (d2.st == 8) = false := by simpa using hst
          have HB2 := hide hb
          clear hb hst HNX N7
          go_wp2_with fail
          go_roundw
          case rel => exact ⟨k + 1, e', d2, by omega, by omega, by go_num, rfl, hok2, HB2, C, Q⟩
          case measure => simp [intOf]; omega
        · have hq : (d2.st == 8) = true := by simpa using hst
          have HO := hide hoff
          clear hoff hst HNX N7
          go_wp2_with fail
          go_meet
          exact ⟨e', d2, rfl, hok2, C, Q, by omega, .inr ⟨ha, he, HO⟩⟩
      · obtain rfl : k = 16000 := by omega
        have hlt2 := LT.out d e 16000 hok HB.out
        have h32 := HB.out.e32
        go_wp2_with fail
        go_meet
        refine ⟨e, d, rfl, hok, C, Q, by omega, .inl ⟨?_, HB⟩⟩
        cases acks with
        | false => rfl
        | true => have := h32 rfl; omega
  case rest =>
  clear C Q HG
  obtain ⟨e, d, rfl, hok, C, Q, he2, hx⟩ := hcut
  have hcb := hok.cnt
  have SS := hide (fun W => cntState_ok d.tc d.rc d.off d.rs W hcb)
  have HST := hide (show stOf d.tc d.rc d.off = stOf d.tc d.rc d.off from rfl)
  obtain ⟨⟨d0, d1, d2, d3⟩, ⟨d4, -⟩, -⟩ := cl_cells C.out
  obtain ⟨sv, hsv⟩ : ∃ sv, sv = stOf d.tc d.rc d.off := ⟨_, rfl⟩
  rw [← hsv] at SS
  have HSV := hide hsv
  clear hsv HST hcb STEP
  go_wp2_with fail
  (with_reducible refine (SS.out _).mono ?_)
  rintro ew9' w9' ⟨rfl, qw9'⟩
  replace C := hide (heap_below C.out qw9')
  replace Q := hide (below_next Q.out Q.out.size qw9')
  clear qw9'
  clear SS
  clear d0 d1 d2 d3 d4
  obtain ⟨⟨d0, d1, d2, d3⟩, ⟨d4, -⟩, -⟩ := cl_cells C.out
  rcases hx with ⟨rfl, HB⟩ | ⟨rfl, rfl, HO⟩
  · have htc := HB.out.tc
    have hrc := HB.out.rc
    have hof := HB.out.off
    have hlt := LT.out d e 16000 hok HB.out
    rw [if_neg (by decide)] at htc
    have h128 : (min (8 * e) 128 : Nat) = 128 := by omega
    rw [h128] at htc
    have hs2 : sv = 2 := by rw [HSV.out, htc, hrc, hof]; rfl
    subst hs2
    rw [htc] at d0
    have hgt : (32 : Int) < (e : Int) := by omega
    clear htc hrc hof hlt h128 HB HSV LT hok
    go_wp2_with fail
    go_ret
    exact ⟨rfl, Q.out⟩
  · have hof : sv = 3 := by rw [HSV.out, HO.out.eq]; rfl
    subst hof
    have R0 := hide (show d = rstC d 0 from HO.out.eq)
    have ROK := hide (rst_ok hok HO.out.eq)
    have RST := hide (fun k (hk : k < 1408) => rst_step d hk)
    have REN := hide (show (rstC d 1408).tc = 0 ∧ (rstC d 1408).rc = 0 ∧ (rstC d 1408).off = false ∧ (rstC d 1408).rs = 0 ∧ (rstC d 1408).st = 1 ∧ (rstC d 1408).has = true from ⟨rfl, rfl, rfl, rfl, rfl, HO.out.has⟩)
    have C2 := hide (show wc.heap[y]? = some (.cells (rstC d 0).cs.toArray 33 (0, 0)) ∨ True from .inr trivial)
    clear C2 d0 d1 d2 d3 d4
    have C3 := C
    rw [R0.out] at C3
    clear C
    have C := C3
    clear C3 HO LT HSV hok R0
    go_wp2_with fail
    go_loopw [118] (fun vi W => ∃ k : Nat, k ≤ 1408 ∧ vi = .int .i64 k ∧ Hid (W.heap[y]? = some (.cells ((rstC d k).cs).toArray 33 (0, 0))) ∧ Hid (Below w.heap.size w W)) (fun vi _ => 1408 - (intOf vi).toNat)
    case atStart => exact ⟨0, by omega, rfl, C, Q⟩
    case round =>
      clear C Q
      obtain ⟨k, hk, rfl, C, Q⟩ := hrel
      by_cases hlt : k < 1408
      · have hki : (k : Int) < 1408 := by omega
        have hok := ROK.out k (by omega)
        obtain ⟨s1, s2, s3⟩ := RST.out k hlt
        have DR0 := fun W => ctlDrive_ok (rstC d k) W hok
        rw [s1] at DR0
        have DR := hide (fun W => show Calls Tryd.prog 12 #[.agg (rstC d k).cs.toArray] W fun e w' => e = .returned (.tuple #[.int .u8 49, .int .i64 0]) ∧ Below W.heap.size W w' from DR0 W)
        have SA0 := fun W => ctlSample_ok (rstC d k) 49 (.inr rfl) W hok
        rw [s2] at SA0
        have SA := hide (fun W => show Calls Tryd.prog 13 #[.agg (rstC d k).cs.toArray, .int .u8 49] W fun e w' => e = .returned (.tuple #[.agg (rstC d (k + 1)).cs.toArray, .agg (evL 0 zFr 0).toArray, .int .i64 0]) ∧ Below W.heap.size W w' from SA0 W)
        obtain ⟨u2, hu2⟩ : ∃ u2, u2 = rstC d (k + 1) := ⟨_, rfl⟩
        rw [← hu2] at SA
        have HU2 := hide hu2
        have HS3 := hide s3
        generalize rstC d k = u at *
        clear DR0 SA0 hok s1 s2 s3 hu2
        go_wp2_with (refine wpList_load_row rfl 33 (.tmp 5) (by rfl) y (by rfl) 33 u.cs.toArray (0, 0) _ (by exact C.out) Tryd.underlying33 (by rfl) (by kernel_rfl) ?_)
        (with_reducible refine (DR.out _).mono ?_)
        rintro ew10' w10' ⟨rfl, qw10'⟩
        replace C := hide (heap_below C.out qw10')
        replace Q := hide (below_next Q.out Q.out.size qw10')
        clear qw10'
        clear DR
        go_wp2_with (refine wpList_load_row rfl 33 (.tmp 5) (by rfl) y (by rfl) 33 u.cs.toArray (0, 0) _ (by exact C.out) Tryd.underlying33 (by rfl) (by kernel_rfl) ?_)
        (with_reducible refine (SA.out _).mono ?_)
        rintro ew11' w11' ⟨rfl, qw11'⟩
        replace C := hide (heap_below C.out qw11')
        replace Q := hide (below_next Q.out Q.out.size qw11')
        clear qw11'
        clear SA
        have q12' : Below w11'.heap.size w11' ((w11'.alloc (.cells zCl.cs.toArray 33)).alloc (.cells ((evL 0 zFr 0)).toArray 42)) := ((Below.refl _ _).alloc (Nat.le_refl _) _).alloc (by simp) _
        have N7 := heap_below (World.alloc_heap_new w11' (.cells zCl.cs.toArray 33)) ((Below.refl _ _).alloc (Nat.le_refl _) (.cells ((evL 0 zFr 0)).toArray 42))
        have N8 := World.alloc_heap_new (w11'.alloc (.cells zCl.cs.toArray 33)) (.cells ((evL 0 zFr 0)).toArray 42)
        simp only [World.size_alloc] at N8
        have zCx : y < w11'.heap.size := heap_lt C.out
        replace C := hide (heap_below C.out q12')
        replace Q := hide (below_next Q.out Q.out.size q12')
        clear q12'
        obtain ⟨w13', hw13'⟩ : ∃ wx, wx = (w11'.alloc (.cells zCl.cs.toArray 33)).alloc (.cells ((evL 0 zFr 0)).toArray 42) := ⟨_, rfl⟩
        rw [← hw13'] at Q C N7 N8
        replace N7 := hide N7
        replace N8 := hide N8
        have Tw14' := hide (show ((w11'.alloc (.cells zCl.cs.toArray 33)).alloc (.cells ((evL 0 zFr 0)).toArray 42)).there w11'.heap.size 0 23 by rw [← hw13']; exact there_heap (cs := zCl.cs) N7.out)
        go_wp2_with (refine wpList_store_hid (by rfl) 33 (.tmp 18) (.tmp 128) (by rfl) w11'.heap.size 0 u2.cs (by rfl) (by rfl) (by exact Tw14'.out) (by kernel_rfl) (by simp [Value.oneCell', Cl.cs]) ?_)
        intro w14' ew14'
        replace ew14' : Hid (w14' = w13'.setCells w11'.heap.size 0 u2.cs) := by rw [hw13']; exact ew14'
        replace C := hide (show w14'.heap[y]? = some (.cells u.cs.toArray 33 (0, 0)) by rw [ew14'.out]; exact other_heap (by omega) _ _ _ C.out)
        replace N8 := hide (show w14'.heap[w11'.heap.size + 1]? = some (.cells ((evL 0 zFr 0)).toArray 42 (0, 0)) by rw [ew14'.out]; exact other_heap (by omega) _ _ _ N8.out)
        replace Q := hide (show Below w.heap.size w w14' by rw [ew14'.out]; exact Q.out.trans (below_setCells _ _ _ (by have := Q.out.size; omega)))
        replace N7 := hide (show w14'.heap[w11'.heap.size]? = some (.cells u2.cs.toArray 33 (0, 0)) by rw [ew14'.out]; exact whole_heap u2.cs (xs := zCl.cs) N7.out rfl)
        clear ew14' Tw14' hw13'
        have Tw15' := hide (show w14'.there (w11'.heap.size + 1) 0 7 from there_heap (cs := (evL 0 zFr 0)) N8.out)
        go_wp2_with (refine wpList_store_hid (by rfl) 42 (.tmp 19) (.tmp 129) (by rfl) (w11'.heap.size + 1) 0 (evL 0 zFr 0) (by rfl) (by rfl) (by exact Tw15'.out) (by kernel_rfl) (by simp [Value.oneCell', evL]) ?_)
        intro w15' ew15'
        replace C := hide (show w15'.heap[y]? = some (.cells u.cs.toArray 33 (0, 0)) by rw [ew15'.out]; exact other_heap (by omega) _ _ _ C.out)
        replace N7 := hide (show w15'.heap[w11'.heap.size]? = some (.cells u2.cs.toArray 33 (0, 0)) by rw [ew15'.out]; exact other_heap (by omega) _ _ _ N7.out)
        replace Q := hide (show Below w.heap.size w w15' by rw [ew15'.out]; exact Q.out.trans (below_setCells _ _ _ (by have := Q.out.size; omega)))
        replace N8 := hide (show w15'.heap[w11'.heap.size + 1]? = some (.cells (evL 0 zFr 0).toArray 42 (0, 0)) by rw [ew15'.out]; exact whole_heap (evL 0 zFr 0) (xs := (evL 0 zFr 0)) N8.out rfl)
        clear ew15' Tw15'
        generalize w11'.heap.size = x at *
        go_upto_region 35 with fail
        go_cut [150] (fun v W => v = .bool false ∧ W = w15')
        case first =>
          obtain ⟨v0, -⟩ := ev_cells N8.out
          obtain ⟨-, ⟨c4', -, -, -, -⟩, -⟩ := cl_cells C.out
          rw [HS3.out] at c4'
          clear C Q N7 N8 RST ROK REN HS3 HU2
          go_wp2_with fail
          go_meet
          exact ⟨rfl, rfl⟩
        case rest =>
        rename_i hK2 _ hK
        obtain ⟨rfl, rfl⟩ := hcut
        refine hK _ _ ?_
        refine wp_cond_false (by rfl) (wp_skip ?_)
        refine hK2 _ _ ?_
        clear hK hK2 N8
        have Tw16' := hide (show World.there _ y 0 23 from there_heap (cs := u.cs) C.out)
        go_wp2_with (first | (refine wpList_load_row rfl 33 (.tmp 18) (by rfl) x (by rfl) 33 u2.cs.toArray (0, 0) _ (by exact N7.out) Tryd.underlying33 (by rfl) (by kernel_rfl) ?_) | (refine wpList_store_hid (by rfl) 33 (.tmp 5) (.tmp 151) (by rfl) y 0 u2.cs (by rfl) (by rfl) (by exact Tw16'.out) (by kernel_rfl) (by simp [Value.oneCell', Cl.cs]) ?_))
        intro w16' ew16'
        replace N7 := hide (show w16'.heap[x]? = some (.cells u2.cs.toArray 33 (0, 0)) by rw [ew16'.out]; exact other_heap (by omega) _ _ _ N7.out)
        replace Q := hide (show Below w.heap.size w w16' by rw [ew16'.out]; exact Q.out.trans (below_setCells _ _ _ (by have := Q.out.size; omega)))
        replace C := hide (show w16'.heap[y]? = some (.cells u2.cs.toArray 33 (0, 0)) by rw [ew16'.out]; exact whole_heap u2.cs (xs := u.cs) C.out rfl)
        clear ew16' Tw16'
        rw [HU2.out] at C
        go_wp2_with fail
        go_roundw
        case rel => exact ⟨k + 1, by omega, by go_num, C, Q⟩
        case measure => simp [intOf]; omega
      · obtain rfl : k = 1408 := by omega
        obtain ⟨r1, r2, r3, r4, r5, r6⟩ := REN.out
        obtain ⟨⟨d0, d1, d2, d3⟩, ⟨d4, -, -, -, d8⟩, -⟩ := cl_cells C.out
        rw [r1] at d0
        rw [r2] at d1
        rw [r3] at d2
        rw [r4] at d3
        rw [r5] at d4
        rw [r6] at d8
        clear r1 r2 r3 r4 r5 r6 REN RST ROK
        go_wp2_with fail
        go_ret
        exact ⟨rfl, Q.out⟩
end Go.Proofs.YtpfbobcilphncaaDoor
