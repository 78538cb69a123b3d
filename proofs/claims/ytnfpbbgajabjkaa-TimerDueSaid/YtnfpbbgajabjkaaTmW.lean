/- TimerDue. -/
import Derived.Test.YtnfpbbgajabjkaaTmZC
namespace Go.Proofs.Ytnfpbbgajabjkaa
open Go.ChangeShapes Go.WideShapes Go.ChangeAt Go.RowKit Go.Maps

theorem two_free {W : World} {B : Nat} {a b : Value} {t : TypeId} (h : W.heap[B]? = some (.cells #[a, b] t (0, 0))) : W.there B 0 2 := by
  intro j hj
  have : j = 0 ∨ j = 1 := by omega
  rcases this with rfl | rfl <;> simp [World.cell?, World.frozen?, h]

set_option maxRecDepth 100000 in
set_option maxHeartbeats 8000000 in
theorem due_walk (l0 : List Ac) (A0 : Option Addr) (c0 : Nat) (w : World) (hr : AcR w w.heap.size A0 l0) (hc0 : l0.length ≤ c0) :
    Calls Try.prog 4 #[.slice A0 l0.length c0] w fun e w' => e = .returned (.bool true) ∧ Below w.heap.size w w' := by
  have AL := hide (fun W => alive13_any W)
  have HR := hide hr
  clear hr
  have hmm := @run_makeMap Try.prog
  go_enter Try.func4, Try.ntmps4
  go_wp2_with fail
  clear hmm
  have S0 := hide (DS.made w)
  have P0 : Hid (DueP 0 [] (.map [] : DataW Unit)) := hide DueP.nil
  go_loopw [28] (fun vi W => ∃ (i : Nat) (now : Int) (l : List Tm) (A : Option Addr) (c n m : Nat) (D : DataW Unit), i ≤ l0.length ∧ i ≤ 25 ∧ vi = .int .i64 i ∧ Hid (DS w now l A c n m D W) ∧ Hid (DueP now l D) ∧ 0 ≤ now ∧ now ≤ 9 * i ∧ m ≤ i) (fun vi _ => l0.length - (intOf vi).toNat)
  case atStart => exact ⟨0, 0, [], none, 0, 0, 0, .map [], by omega, by omega, rfl, S0, P0, by omega, by omega, by omega⟩
  case round =>
    clear S0 P0
    obtain ⟨i, now, l, A, c, n, m, D, hi, hi25, rfl, hS, hP, n0, n1, hm⟩ := hrel
    by_cases hlt : i < l0.length ∧ i < 25
    · have hi1 : (i : Int) < (l0.length : Int) := by omega
      have hi2 : (i : Int) < 25 := by omega
      obtain ⟨b, off, rfl, hb, a0, a1, a2, a3⟩ := AcR.at4 (Rd.next HR.out hS.out.q hS.out.q.size) hlt.1
      generalize l0[i] = x at *
      obtain ⟨xi, xa, xs, xt⟩ := x
      dsimp only at a0 a1 a2 a3
      have zb : w.heap.size + 1 < wr.heap.size := hS.out.lt
      go_wp2_with fail
      have G6 := hide (World.alloc_heap_new wr (.cells #[.int .i64 xi, .int .i64 xa, .bool xs, .int .i64 xt] 49))
      have q6 : Below wr.heap.size wr (wr.alloc (.cells #[.int .i64 xi, .int .i64 xa, .bool xs, .int .i64 xt] 49)) := (Below.refl _ _).alloc (Nat.le_refl _) _
      have S6 := hide (hS.out.below q6)
      clear hS a0 a1 a2 a3 q6
      generalize wr.alloc (.cells #[.int .i64 xi, .int .i64 xa, .bool xs, .int .i64 xt] 49) = W1 at *
      have t1 : -20 < xi.tmod 20 := Int.lt_tmod_of_pos _ (by decide)
      have t2 : xi.tmod 20 < 20 := Int.tmod_lt_of_pos _ (by decide)
      have t3 : -30 < xa.tmod 30 := Int.lt_tmod_of_pos _ (by decide)
      have t4 : xa.tmod 30 < 30 := Int.tmod_lt_of_pos _ (by decide)
      have m6 := fun s : InW W1 => (⟨cell_heap (j := 0) G6.out s.h rfl, cell_heap (j := 1) G6.out s.h rfl⟩ : s.W.cell? ⟨wr.heap.size, 0, none⟩ = some (.int .i64 xi) ∧ s.W.cell? ⟨wr.heap.size, 1, none⟩ = some (.int .i64 xa))
      refine wp_region_tame (by kernel_rfl) (by kernel_rfl) ?_
      repeat (go_big_quiet_step (fail))
      refine wpQuiet_nil ?_
      rintro _ ⟨s, rfl⟩
      obtain ⟨W2, q2⟩ := s
      dsimp only
      have S2 := hide (S6.out.below q2)
      have G2 := hide (heap_below G6.out q2)
      clear m6 q2 S6 G6
      have I0 : 0 ≤ (xi.tmod 20 + 20) % 20 := by omega
      have I1 : (xi.tmod 20 + 20) % 20 < 20 := by omega
      have F0 : 1 ≤ 1 + xa.tmod 30 % 30 := by omega
      have F1 : 1 + xa.tmod 30 % 30 ≤ 30 := by omega
      clear t1 t2 t3 t4
      generalize (xi.tmod 20 + 20) % 20 = I at *
      generalize 1 + xa.tmod 30 % 30 = F at *
      have IW := hide (show (Lit.int .i64 I).wf = true by simp [Lit.wf, IntKind.min, IntKind.max, IntKind.bits, IntKind.signed]; omega)
      have zc : w.heap.size + 1 < W2.heap.size := S2.out.lt
      have x2 : W2.cell? ⟨wr.heap.size, 2, none⟩ = some (.bool xs) := cell_heap (j := 2) G2.out (Below.refl _ _) rfl
      go_upto_if 47 with fail
      clear x2
      go_cut [9, 10, 11, 12, 13, 14] from 29 to 152 (fun e _ _ _ _ _ W => e = .int .i64 0 ∧ ∃ (l : List Tm) (A : Option Addr) (c n m : Nat) (D : DataW Unit), m ≤ i + 1 ∧ Hid (DS w now l A c n m D W) ∧ Hid (DueP now l D) ∧ Hid (W.heap[wr.heap.size]? = some (.cells #[.int .i64 xi, .int .i64 xa, .bool xs, .int .i64 xt] 49 (0, 0))))
      case first =>
        obtain ⟨x0, x1, _, _⟩ := two_box S2.out.box
        rcases xs with _ | _
        · go_wp2_with fail
          (with_reducible refine (S2.out.set_call hP.out I0 I1 F0 (by omega)).mono ?_)
          rintro e3 w3 ⟨l', A', c', n', rfl, hl', hn', r3, hc', q3⟩
          have S3 := hide (S2.out.below q3)
          have G3 := hide (heap_below G2.out q3)
          have P3 := hide (hP.out.set I0 I1 F0 (show F ≤ 1000000 by omega))
          rw [← hl'] at P3
          have HN := hide hn'
          have R3 := hide r3
          have zd : w.heap.size + 1 < w3.heap.size := S3.out.lt
          clear x0 x1 hl' hn' r3 q3 S2 G2 hP
          go_wp2_with (refine wpList_store_hid (by rfl) 24 (.tmp 3) (.tmp 73) (by rfl) w.heap.size 0 [.int .i64 now, .slice A' n' c'] (by rfl) (by rfl) (by exact two_free S3.out.box) (by kernel_rfl) (by simp [Value.oneCell']) ?_)
          intro W4 e4
          have S4 := S3.out.store (now' := now) R3.out HN.out hc'
          have G4 := hide (other_heap (x := wr.heap.size) (b := w.heap.size) (by omega) [.int .i64 now, .slice A' n' c'] 0 _ G3.out)
          rw [← e4.out] at S4 G4
          replace S4 := hide S4
          clear e4 S3 R3 HN G3
          obtain ⟨x0, x1, _, _⟩ := two_box S4.out.box
          obtain ⟨W5, hput, m5, g5⟩ := S4.out.mp.put (by unfold maxLen; omega) I (now + F) IW.out (by simp [Lit.wf, IntKind.min, IntKind.max, IntKind.bits, IntKind.signed]; omega)
          have S5 := hide (S4.out.turn m5 g5)
          have G5 := hide (heap_map S4.out.mp g5 G4.out)
          clear m5 g5 S4 G4
          go_wp2_with fail
          go_meet
          exact ⟨rfl, _, _, _, _, _, _, by omega, S5, P3, G5⟩
        · go_wp2_with fail
          (with_reducible refine (S2.out.stop_call hP.out I).mono ?_)
          rintro e3 w3 ⟨l', A', c', n', rfl, hl', hn', r3, hc', q3⟩
          have qa : Below w3.heap.size w3 (w3.alloc (.cells #[.int .i64 now, .slice A' n' c'] 24)) := (Below.refl _ _).alloc (Nat.le_refl _) _
          have S3 := hide ((S2.out.below q3).below qa)
          have G3 := hide (heap_below (heap_below G2.out q3) qa)
          have P3 := hide (hP.out.stop I)
          rw [← hl'] at P3
          have HN := hide hn'
          have R3 := hide (TmR.next r3 qa qa.size)
          have B3 := hide (World.alloc_heap_new w3 (.cells #[.int .i64 now, .slice A' n' c'] 24))
          have zd : w.heap.size + 1 < w3.heap.size := (S2.out.below q3).lt
          clear x0 x1 hl' hn' r3 q3 qa S2 G2 hP
          obtain ⟨y0, y1, _, _⟩ := two_box B3.out
          obtain ⟨cc, hlk, _⟩ := S3.out.mp.get I IW.out
          go_wp2_with (refine wpList_store_hid (by rfl) 24 (.tmp 3) (.tmp 64) (by rfl) w.heap.size 0 [.int .i64 now, .slice A' n' c'] (by rfl) (by rfl) (by exact two_free S3.out.box) (by kernel_rfl) (by simp [Value.oneCell']) ?_)
          intro W4 e4
          have S4 := S3.out.store (now' := now) R3.out HN.out hc'
          have G4 := hide (other_heap (x := wr.heap.size) (b := w.heap.size) (by omega) [.int .i64 now, .slice A' n' c'] 0 _ G3.out)
          rw [← e4.out] at S4 G4
          replace S4 := hide S4
          clear e4 S3 R3 HN G3 B3 y0 y1 hlk
          go_wp2_with (at_delete; refine wpList_del (by rfl) _ _ (by rfl) (w.heap.size + 1) _ _ I (by rfl) (by rfl) S4.out.mp IW.out ?_)
          intro W5 m5 g5
          have S5 := hide (S4.out.turn m5 g5)
          have G5 := hide (heap_map S4.out.mp g5 G4.out)
          clear m5 g5 S4 G4
          go_wp2_with fail
          go_meet
          exact ⟨rfl, _, _, _, _, _, _, by omega, S5, P3, G5⟩
      case rest =>
        clear S2 G2 hP
        obtain ⟨rfl, l, A, c, n, m, D, hm, hS, hP, hG⟩ := hcut
        obtain ⟨x0, x1, _, _⟩ := two_box hS.out.box
        go_wp2_with fail
        (with_reducible refine (hS.out.right_call hP.out).mono ?_)
        rintro e6 w6 ⟨rfl, q6⟩
        have S6 := hide (hS.out.below q6)
        have G6 := hide (heap_below hG.out q6)
        clear x0 x1 hS hG q6
        have x3 : w6.cell? ⟨wr.heap.size, 3, none⟩ = some (.int .i64 xt) := cell_heap (j := 3) G6.out (Below.refl _ _) rfl
        have t1 : -9 < xt.tmod 9 := Int.lt_tmod_of_pos _ (by decide)
        have t2 : xt.tmod 9 < 9 := Int.tmod_lt_of_pos _ (by decide)
        go_wp2_with fail
        try simp only [Int.add_emod_right]
        obtain ⟨tn, hT⟩ : ∃ tn : Nat, xt.tmod 9 % 9 = (tn : Int) := ⟨(xt.tmod 9 % 9).toNat, by omega⟩
        have ht8 : tn ≤ 8 := by omega
        rw [hT]
        clear t1 t2 hT x3
        rename World => wa
        go_loopw [93] (fun vi W => ∃ (k : Nat) (now : Int) (l : List Tm) (A : Option Addr) (c n m : Nat) (D : DataW Unit), k ≤ tn ∧ vi = .int .i64 k ∧ Hid (DS w now l A c n m D W) ∧ Hid (DueP now l D) ∧ 0 ≤ now ∧ now ≤ 9 * i + k ∧ m ≤ i + 1 ∧ Hid (W.heap[wr.heap.size]? = some (.cells #[.int .i64 xi, .int .i64 xa, .bool xs, .int .i64 xt] 49 (0, 0)))) (fun vi _ => tn - (intOf vi).toNat)
        case atStart => exact ⟨0, _, _, _, _, _, _, _, by omega, rfl, S6, hP, n0, by omega, hm, G6⟩
        case round =>
          rename World => wb
          clear S6 G6 hP n0 n1 hm
          obtain ⟨k, now, l, A, c, n, m, D, hk, rfl, hS, hP, n0, n1, hm, hG⟩ := hrel
          by_cases hlt : k < tn
          · have hk1 : (k : Int) < (tn : Int) := by omega
            have ze : w.heap.size + 1 < wb.heap.size := hS.out.lt
            obtain ⟨x0, x1, _, _⟩ := two_box hS.out.box
            go_wp2_with fail
            (with_reducible refine (hS.out.tick_call hP.out (by omega)).mono ?_)
            rintro e7 w7 ⟨l', A', c', n', o, Ao, co, d, rfl, hl', ho, hd, hn', r7, hc', ro, q7⟩
            have qa : Below w7.heap.size w7 (w7.alloc (.cells #[.int .i64 (now + 1), .slice A' n' c'] 24)) := (Below.refl _ _).alloc (Nat.le_refl _) _
            have S7 := hide ((hS.out.below q7).below qa)
            have G7 := hide (heap_below (heap_below hG.out q7) qa)
            have HN := hide hn'
            have HL := hide hl'
            have HO := hide ho
            have HD := hide hd
            have R7 := hide (TmR.next r7 qa qa.size)
            have RO := hide (ro.alloc (.cells #[.int .i64 (now + 1), .slice A' n' c'] 24))
            have B7 := hide (World.alloc_heap_new w7 (.cells #[.int .i64 (now + 1), .slice A' n' c'] 24))
            have zf : w.heap.size + 1 < w7.heap.size := (hS.out.below q7).lt
            have zg : wr.heap.size < wb.heap.size := heap_lt hG.out
            clear x0 x1 hl' hn' ho hd r7 q7 qa ro hS hG
            obtain ⟨x0, x1, _, _⟩ := two_box S7.out.box
            obtain ⟨y0, y1, _, _⟩ := two_box B7.out
            go_wp2_with (refine wpList_store_hid (by rfl) 24 (.tmp 3) (.tmp 111) (by rfl) w.heap.size 0 [.int .i64 (now + 1), .slice A' n' c'] (by rfl) (by rfl) (by exact two_free S7.out.box) (by kernel_rfl) (by simp [Value.oneCell']) ?_)
            intro W4 e4
            have S4 := S7.out.store (now' := now + 1) R7.out HN.out hc'
            have G4 := hide (other_heap (x := wr.heap.size) (b := w.heap.size) (by omega) [.int .i64 (now + 1), .slice A' n' c'] 0 _ G7.out)
            have RO4 := own_heapB RO.out (x := w.heap.size) (by omega) [.int .i64 (now + 1), .slice A' n' c'] 0 e4.out
            replace RO4 := hide (RO4.rd (idRows_rows _))
            rw [← e4.out] at S4 G4
            replace S4 := hide S4
            clear e4 S7 R7 HN G7 B7 y0 y1 x0 x1 RO
            go_wp2_with fail
            have M4 : Hid (MpR D (l.drop 0)) := hide (by rw [List.drop_zero]; exact hP.out.2.2)
            have hdl : d ≤ l.length := by rw [HD.out]; exact dueN_le _ _
            have hl32 : l.length ≤ 32 := hP.out.len
            rename World => w4
            go_loopw [114] (fun vi W => ∃ (j : Nat) (D : DataW Unit), j ≤ d ∧ vi = .int .i64 j ∧ Hid (DS w (now + 1) l' A' c' n' m D W) ∧ Hid (MpR D (l.drop j)) ∧ Hid (Rd W W.heap.size Ao 1 (idRows o)) ∧ Hid (W.heap[wr.heap.size]? = some (.cells #[.int .i64 xi, .int .i64 xa, .bool xs, .int .i64 xt] 49 (0, 0)))) (fun vi _ => d - (intOf vi).toNat)
            case atStart => exact ⟨0, D, by omega, rfl, S4, M4, RO4, G4⟩
            case round =>
              rename World => wd
              clear S4 M4 RO4 G4
              obtain ⟨j, D1, hj, rfl, hS, hM, hRO, hG⟩ := hrel
              by_cases hjl : j < d
              · have hj1 : (j : Int) < (d : Int) := by omega
                have hjl2 : j < l.length := by omega
                have hol : (idRows o).length = d := by rw [idRows_len, HO.out, List.length_take, HD.out]; have := dueN_le (now + 1) l; omega
                obtain ⟨g, go, rfl, hgb, hgc⟩ := hRO.out (by omega)
                have hcell := hgc j [.int .i64 l[j].id] 0 (.int .i64 l[j].id) (by unfold idRows; rw [HO.out, List.getElem?_map, List.getElem?_take_of_lt (by rw [← HD.out]; exact hjl), List.getElem?_eq_getElem hjl2]; rfl) rfl
                simp only [Nat.mul_one, Nat.add_zero] at hcell
                obtain ⟨hh, hdue⟩ := hP.out.due_at (k := j) (by rw [← HD.out]; exact hjl)
                obtain ⟨hat, hhas, hnext⟩ := strike hjl2 hM.out
                have hid0 := hP.out.1.2.2.2.2.1 l[j] (List.getElem_mem _)
                have JW := hide (show (Lit.int .i64 l[j].id).wf = true by simp [Lit.wf, IntKind.min, IntKind.max, IntKind.bits, IntKind.signed]; omega)
                rw [hdue] at hat
                clear hol hgc hdue hid0 hhas
                generalize l[j].id = y at *
                have hlk := hS.out.mp.getAt y JW.out hat
                have hN := hide hnext
                obtain ⟨x0, x1, _, _⟩ := two_box hS.out.box
                clear hat hnext
                go_wp2_with (at_delete; refine wpList_del (by rfl) _ _ (by rfl) (w.heap.size + 1) _ _ y (by rfl) (by rfl) hS.out.mp JW.out ?_)
                intro W5 m5 g5
                have S5 := hide (hS.out.turn m5 g5)
                have G5 := hide (heap_map hS.out.mp g5 hG.out)
                have R5 := rd_map hS.out.mp g5 (Nat.le_refl _) hRO.out
                replace R5 : Hid (Rd W5 W5.heap.size (some ⟨g, go, none⟩) 1 (idRows o)) := hide (fun hn => by
                  obtain ⟨b, off, e, hlt, hc⟩ := R5 hn
                  exact ⟨b, off, e, Nat.lt_of_lt_of_le hlt g5.size, hc⟩)
                clear m5 g5 hS hG hRO x0 x1 hlk hcell
                go_wp2_with fail
                go_roundw
                case rel => exact ⟨j + 1, _, by omega, by go_num, S5, hN, R5, G5⟩
                case measure => simp [intOf]; omega
              · obtain rfl : j = d := by omega
                have P5 : Hid (DueP (now + 1) l' D1) := hide (by rw [HL.out]; exact hP.out.tick (by omega) (by rw [← HD.out]; exact hM.out))
                clear hM hRO
                go_wp2_with (at_range; refine wpList_range_own _ (by rfl) _ 47 (by rfl) 3 3 (int_keyed Try.underlying3) Try.underlying47 _ (w.heap.size + 1) m D1 (by rfl) hS.out.mp ?_; intro w0 hrg0 hg0 hs0)
                go_frame
                have HRG := hide hrg0
                have q0 : Below wd.heap.size wd w0 := ⟨hg0.os, hg0.tape, hg0.output, hg0.size, fun k hk => hg0.block k hk (by simp)⟩
                clear hrg0 hg0
                rename World => we
                go_loopw [23] (fun _ W => ∃ (left : Lit → Bool) (cnt : Nat), Hid (W.ranges Try.prog 3 (plainElem Try.prog 3) (w.heap.size + 1) wd.heap.size m D1 left cnt) ∧ Below wd.heap.size wd W) (fun _ W => W.rangeLeft (w.heap.size + 1) wd.heap.size)
                case atStart => exact ⟨_, _, HRG, q0⟩
                case round =>
                  rename World => wf
                  clear HRG q0 hs0
                  obtain ⟨left, cnt, hrg, hq⟩ := hrel
                  go_wp2_with (at_next; refine wpList_next_ranges_ii _ (by rfl) _ (by rfl) 3 3 .i64 .i64 (int_keyed Try.underlying3) Try.underlying3 Try.underlying3 (w.heap.size + 1) wd.heap.size m _ _ _ (by rfl) hrg.out ?_ ?_)
                  · intro _ _
                    have S8 := hide (hS.out.below hq)
                    have G8 := hide (heap_below hG.out hq)
                    clear hS hG hrg hq
                    go_wp2_with fail
                    go_roundw
                    case rel => exact ⟨k + 1, now + 1, l', A', c', n', m, D1, by omega, by go_num, S8, P5, by omega, by omega, hm, G8⟩
                    case measure => simp [intOf]; omega
                  · intro x cc w1 cnt1 hwx hwc hlx hat hrg1 hlt1 hg1 hs1 hen
                    have hmem := P5.out.2.2.came hat
                    have hcc := (P5.out.1.2.2.2.2.1 _ hmem).2.2.1
                    have hq1 : Below wd.heap.size wd w1 := hq.grown hg1 hq.size (fun k e => by cases e; exact Nat.le_refl _)
                    have hb : decide (cc ≤ now + 1) = false := by rw [decide_eq_false_iff_not]; dsimp only at hcc; omega
                    obtain ⟨x0, x1, _, _⟩ := two_box (hS.out.below hq1).box
                    have HR1 := hide hrg1
                    have HL1 := hide hlt1
                    clear hmem hcc hat hrg1 hlt1 hg1 hs1 hlx hwx hwc
                    go_wp2_with fail
                    go_roundw
                    case rel => exact ⟨_, cnt1, HR1, hq1⟩
                    case measure => rw [HR1.out.left_eq, hrg.out.left_eq]; exact HL1.out
          · obtain rfl : k = tn := by omega
            have ze : w.heap.size + 1 < wb.heap.size := hS.out.lt
            obtain ⟨x0, x1, _, _⟩ := two_box hS.out.box
            have hsz := hP.out.size
            rw [hS.out.len] at hsz
            go_wp2_with (at_len; refine wpList_len_own _ (by rfl) _ 47 (by rfl) 3 3 Try.underlying47 _ (w.heap.size + 1) m D (by rfl) hS.out.mp ?_; rw [hsz])
            have S8 := hS
            have hi1 : (i : Int) < 25 := by omega
            refine ⟨⟨i + 1, now, l, A, c, n, m, D, by omega, by omega, by go_num, hS, hP, n0, by omega, hm⟩, ?_⟩
            simp [intOf]; omega
    · have S8 := hide hS.out.q
      rcases Nat.lt_or_ge i l0.length with hlt2 | hge
      · have hi1 : (i : Int) < (l0.length : Int) := by omega
        have hi2 : ¬ (i : Int) < 25 := by omega
        obtain ⟨b, off, rfl, hb, a0, a1, a2, a3⟩ := AcR.at4 (Rd.next HR.out hS.out.q hS.out.q.size) hlt2
        generalize l0[i] = x at *
        obtain ⟨xi, xa, xs, xt⟩ := x
        dsimp only at a0 a1 a2 a3
        have zb : w.heap.size + 1 < wr.heap.size := hS.out.lt
        clear hS
        go_wp2_with fail
        (with_reducible refine (AL.out _).mono ?_)
        rintro e4 w4 ⟨rfl, q4⟩
        have Q4 := below_next S8.out (by omega) (below_next ((Below.refl _ _).alloc (Nat.le_refl _) _) (by simp) q4)
        go_wp2
        go_ret
        exact ⟨rfl, Q4⟩
      · obtain rfl : i = l0.length := by omega
        go_wp2_with fail
        (with_reducible refine (AL.out _).mono ?_)
        rintro e4 w4 ⟨rfl, q4⟩
        have Q4 := below_next S8.out S8.out.size q4
        go_wp2
        go_ret
        exact ⟨rfl, Q4⟩
end Go.Proofs.Ytnfpbbgajabjkaa
