/- The walk of ref15.Right. Printed by wip/specs/mkRsD.py. -/
import Derived.Test.YtnhegnneohpkaaaGreatMgRsB
namespace Go.Proofs.YtnhegnneohpkaaaGreat
open Go.ChangeShapes Go.WideShapes Go.ChangeAt Go.RowKit
open SG PD

set_option maxRecDepth 100000 in
set_option maxHeartbeats 8000000 in
theorem refRight15_any (L : Ly) (A : Option Addr) (c : Nat) (B : Option Addr) (d : Nat) (w : World) (hA : SgR w w.heap.size A L.sgs) (hB : InR w w.heap.size B L.nws) (hs : L.sgs.length ≤ 1000) (hn : L.nws.length ≤ 1000) (hc : L.sgs.length ≤ c) (hd : L.nws.length ≤ d) :
    Calls Tryz.prog 15 #[.agg (lyV L A c B d)] w fun e w' => e = .returned (.bool (rightB L)) ∧ Below w.heap.size w w' := by
  have q0 : Below w.heap.size w (w.alloc (.cells (lyV L A c B d) 27)) := (Below.refl _ _).alloc (Nat.le_refl _) _
  have B0 := hide (World.alloc_heap_new w (.cells (lyV L A c B d) 27))
  have HA := hide hA
  have HB := hide hB
  obtain ⟨r, hr⟩ : ∃ r, r = rightB L := ⟨_, rfl⟩
  rw [← hr]
  have N0 := hide (fun h => show r = false from hr.trans (right_no L h))
  have N1 := hide (fun i (hi : i < L.sgs.length) (h : ¬ good1 L i) => show r = false from by
    rw [hr]
    cases hx : rightB L with
    | false => rfl
    | true => exact absurd (right_good1 hx hi) h)
  have N2 := hide (fun i k (hi : i < L.sgs.length) (hk : k < L.sgs.length) (h : bad2 L i k) => show r = false from by
    rw [hr]
    cases hx : rightB L with
    | false => rfl
    | true => exact absurd h (right_bad2 hx hi hk))
  have YES := hide (fun h1 h2 h3 h4 (hg : ∀ i, i < L.sgs.length → good1 L i) (hb : ∀ i k, i < L.sgs.length → k < L.sgs.length → ¬ bad2 L i k) => show r = true from hr.trans (right_of h1 h2 h3 h4 hg hb))
  clear hA hB hr
  unfold lyV at *
  obtain ⟨c0, c1, c2⟩ := three_cells B0.out
  have Q0 := hide q0
  clear q0
  generalize hw0 : w.alloc (.cells #[.int .i64 L.size, .slice A L.sgs.length c, .slice B L.nws.length d] 27) = w0 at *
  by_cases h1 : L.size < 0
  · have E := hide (N0.out (fun h => by omega))
    clear N0 N1 N2 YES
    go_enter Tryz.func15, Tryz.ntmps15
    go_wp2_with fail
    go_ret
    exact ⟨by rw [E.out]; rfl, Q0.out⟩
  by_cases h2 : 8 < L.size
  · have E := hide (N0.out (fun h => by omega))
    clear N0 N1 N2 YES
    go_enter Tryz.func15, Tryz.ntmps15
    go_wp2_with fail
    go_ret
    exact ⟨by rw [E.out]; rfl, Q0.out⟩
  by_cases h3 : 16 < L.sgs.length
  · have h3i : (16 : Int) < (L.sgs.length : Int) := by omega
    have E := hide (N0.out (fun h => by omega))
    clear N0 N1 N2 YES
    go_enter Tryz.func15, Tryz.ntmps15
    go_wp2_with fail
    go_ret
    exact ⟨by rw [E.out]; rfl, Q0.out⟩
  by_cases h4 : L.nws.length = L.sgs.length
  case neg =>
    have e1 : ((L.nws.length : Int) == (L.sgs.length : Int)) = false := by rw [beq_eq_false_iff_ne]; omega
    have e2 : ((L.nws.length : Int) != (L.sgs.length : Int)) = true := by simp [bne, e1]
    have E := hide (N0.out (fun h => by exact h4 h.2.2.2))
    clear N0 N1 N2 YES
    go_enter Tryz.func15, Tryz.ntmps15
    go_wp2_with fail
    go_ret
    exact ⟨by rw [E.out]; rfl, Q0.out⟩
  have e1 : ((L.nws.length : Int) == (L.sgs.length : Int)) = true := by rw [beq_iff_eq]; omega
  have e2 : ((L.nws.length : Int) != (L.sgs.length : Int)) = false := by simp [bne, e1]
  have h3i : ¬ (16 : Int) < (L.sgs.length : Int) := by omega
  have HNL := hide h4
  have FIN := hide (YES.out (by omega) (by omega) (by omega) h4)
  have hl16 : L.sgs.length ≤ 16 := by omega
  clear N0 YES h4
  go_enter Tryz.func15, Tryz.ntmps15
  go_wp2_with fail
  clear c0 c1 c2 hw0
  go_loopw [33] (fun vi W => ∃ i : Nat, i ≤ L.sgs.length ∧ vi = .int .i64 i ∧ Hid (∀ j, j < i → good1 L j ∧ ∀ k, k < L.sgs.length → ¬ bad2 L j k) ∧ Hid (Below w.heap.size w W) ∧ Hid (Below w0.heap.size w0 W)) (fun vi _ => L.sgs.length - (intOf vi).toNat)
  case atStart => exact ⟨0, Nat.zero_le _, rfl, hide (fun j hj => absurd hj (Nat.not_lt_zero _)), Q0, hide (Below.refl _ _)⟩
  case round =>
    obtain ⟨i, hi, rfl, hG, hQ, hq0⟩ := hrel
    by_cases hlt : i < L.sgs.length
    case neg =>
      obtain rfl : i = L.sgs.length := by omega
      have hnl : ¬ (L.sgs.length : Int) < (L.sgs.length : Int) := by omega
      have E := hide (FIN.out (fun i hi => (hG.out i hi).1) (fun i k hi hk => (hG.out i hi).2 k hk))
      clear hlt hi N1 N2 FIN
      go_wp2_with fail
      go_ret
      exact ⟨by rw [E.out]; rfl, hQ.out⟩
    have hin : i < L.nws.length := by rw [HNL.out]; exact hlt
    have M1 := hide (N1.out i hlt)
    have hB := hide (heap_below B0.out hq0.out)
    obtain ⟨ab, ao, rfl, hab, nW0⟩ := InR.at_ HB.out hin
    have nW := hide nW0
    obtain ⟨sb, so, rfl, hsb, s0, s1, s2, s3⟩ := SgR.at_ (Rd.below HA.out hQ.out) hlt
    have hii : (i : Int) < (L.sgs.length : Int) := by omega
    have hini : (i : Int) < (L.nws.length : Int) := by omega
    have zW : w.heap.size < wr.heap.size := heap_lt hB.out
    have GD := hide (show good1 L i ↔ rightS L.sgs[i] L.size = true ∧ -1 ≤ L.nws[i] ∧ L.nws[i] < 8 * L.size from by unfold good1; rw [getD_at _ hlt, getD_at _ hin])
    have BD := hide (fun k (hk : k < L.sgs.length) (hkn : k < L.nws.length) => show bad2 L i k ↔ (k < i ∧ overB L.sgs[i] L.sgs[k] = true) ∨ (0 ≤ L.nws[i] ∧ (ofB L.sgs[k] L.nws[i] = true ∨ (k < i ∧ L.nws[k] = L.nws[i]))) from by unfold bad2; rw [getD_at _ hlt, getD_at _ hin, getD_at _ hk, getD_at _ hkn])
    have RT := hide (fun W => refRight14_any L.sgs[i] L.size W (by omega) (by omega))
    have OV := hide (fun u W => refOver_any L.sgs[i] u W)
    generalize L.sgs[i] = S at *
    generalize L.nws[i] = a at *
    have OF := hide (fun u W => refOf_any u a W)
    clear hin nW0
    have th := hide (show (wr.alloc (.cells #[.int .i64 0, .int .i64 0, .bool false, .bool false] 23)).there wr.heap.size 0 4 from there_heap (cs := [_, _, _, _]) (World.alloc_heap_new wr _))
    go_wp2_with (refine wpList_store_hid (by rfl) 23 (.tmp 4) (.tmp 37) (by rfl) wr.heap.size 0 [.int .i64 S.start, .int .i64 S.width, .bool S.big, .bool S.sgn] (by rfl) (by rfl) (by exact th.out) (by kernel_rfl) (by simp [Value.oneCell']) ?_)
    intro w2 e2
    have bs := hide (show w2.heap[wr.heap.size]? = some (.cells #[.int .i64 S.start, .int .i64 S.width, .bool S.big, .bool S.sgn] 23 (0, 0)) by rw [e2.out]; exact whole_heap [.int .i64 S.start, .int .i64 S.width, .bool S.big, .bool S.sgn] (xs := [_, _, _, _]) (World.alloc_heap_new wr _) rfl)
    have qb : Below wr.heap.size wr w2 := by
      rw [e2.out]
      exact ((Below.refl _ _).alloc (Nat.le_refl _) _).trans (below_setCells (g := wr.heap.size) _ 0 _ (Nat.le_refl _))
    have B2 := hide (heap_below hB.out qb)
    have Q2 := hide (below_next hQ.out hQ.out.size qb)
    have P2 := hide (below_next hq0.out hq0.out.size qb)
    have z2 : wr.heap.size < w2.heap.size := heap_lt bs.out
    clear th e2 qb hB hQ hq0 s0 s1 s2 s3
    generalize wr.heap.size = sx at *
    go_wp2_with fail
    obtain ⟨x0, x1, x2, x3⟩ := sg_cells bs.out
    obtain ⟨c0, c1, c2⟩ := three_cells B2.out
    have nb := cellBelow Q2.out hab nW.out
    have zwa : w.heap.size < w2.heap.size := by omega
    have f0 := fun s : InW w2 => s.cell z2 x0
    have f1 := fun s : InW w2 => s.cell z2 x1
    have f2 := fun s : InW w2 => s.cell z2 x2
    have f3 := fun s : InW w2 => s.cell z2 x3
    have g0 := fun s : InW w2 => s.cell zwa c0
    have g2 := fun s : InW w2 => s.cell zwa c2
    have h0 := fun s : InW w2 => s.cell (by omega : ab < w2.heap.size) nb
    clear x0 x1 x2 x3 c0 c1 c2 nb
    rcases hRS : rightS S L.size with _ | _
    · rw [hRS] at RT
      have E := hide (M1.out (fun h => by have := (GD.out.1 h).1; rw [hRS] at this; cases this))
      clear N1 N2 FIN M1 BD GD hG OV OF
      refine wp_region_tame (by kernel_rfl) (by kernel_rfl) ?_
      repeat (go_big_quiet_step ((go_at_call 41; exact tame_of (RT.out _))))
      refine wpQuiet_nil ?_
      rintro _ ⟨sw, rfl⟩
      clear f0 f1 f2 f3 g0 g2 h0
      have Qf := hide (below_next Q2.out Q2.out.size sw.h)
      go_wp2_with fail
      go_ret
      exact ⟨by rw [E.out]; rfl, Qf.out⟩
    rw [hRS] at RT
    by_cases ha1 : a < -1
    · have E := hide (M1.out (fun h => by have := (GD.out.1 h).2.1; omega))
      clear N1 N2 FIN M1 BD GD hG OV OF
      refine wp_region_tame (by kernel_rfl) (by kernel_rfl) ?_
      repeat (go_big_quiet_step ((go_at_call 41; exact tame_of (RT.out _))))
      refine wpQuiet_nil ?_
      rintro _ ⟨sw, rfl⟩
      clear f0 f1 f2 f3 g0 g2 h0
      have Qf := hide (below_next Q2.out Q2.out.size sw.h)
      go_wp2_with fail
      go_ret
      exact ⟨by rw [E.out]; rfl, Qf.out⟩
    by_cases ha2 : a < 8 * L.size
    case neg =>
      have E := hide (M1.out (fun h => by have := (GD.out.1 h).2.2; omega))
      clear N1 N2 FIN M1 BD GD hG OV OF
      refine wp_region_tame (by kernel_rfl) (by kernel_rfl) ?_
      repeat (go_big_quiet_step ((go_at_call 41; exact tame_of (RT.out _))))
      refine wpQuiet_nil ?_
      rintro _ ⟨sw, rfl⟩
      clear f0 f1 f2 f3 g0 g2 h0
      have Qf := hide (below_next Q2.out Q2.out.size sw.h)
      go_wp2_with fail
      go_ret
      exact ⟨by rw [E.out]; rfl, Qf.out⟩
    have GI := hide (GD.out.2 ⟨hRS, by omega, ha2⟩)
    clear GD M1 N1
    refine wp_region_tame (by kernel_rfl) (by kernel_rfl) ?_
    repeat (go_big_quiet_step ((go_at_call 41; exact tame_of (RT.out _))))
    refine wpQuiet_nil ?_
    rintro _ ⟨sw, rfl⟩
    clear f0 f1 f2 f3 g0 g2 h0 RT hRS
    have B3 := hide (heap_below B2.out sw.h)
    have Q3 := hide (below_next Q2.out Q2.out.size sw.h)
    have P3 := hide (below_next P2.out P2.out.size sw.h)
    have bs3 := hide (heap_below bs.out sw.h)
    have z3 : sx < sw.W.heap.size := heap_lt bs3.out
    have hz23 := sw.h.size
    generalize sw.W = w3 at *
    clear B2 Q2 P2 bs sw z2
    obtain ⟨c0, c1, c2⟩ := three_cells B3.out
    have SL := hide (show ∃ bb oo, (some ⟨sb, so, none⟩ : Option Addr) = some ⟨bb, oo, none⟩ from ⟨sb, so, rfl⟩)
    go_wp2_with fail
    clear c0 c1 c2
    go_loopw [65] (fun vk W => ∃ k : Nat, k ≤ L.sgs.length ∧ vk = .int .i64 k ∧ Hid (∀ j, j < k → ¬ bad2 L i j) ∧ Hid (Below w3.heap.size w3 W)) (fun vk _ => L.sgs.length - (intOf vk).toNat)
    case atStart => exact ⟨0, Nat.zero_le _, rfl, hide (fun j hj => absurd hj (Nat.not_lt_zero _)), hide (Below.refl _ _)⟩
    case round =>
      obtain ⟨k, hk, rfl, hK, hq⟩ := hrel
      have Q4 := hide (below_next Q3.out Q3.out.size hq.out)
      have P4 := hide (below_next P3.out P3.out.size hq.out)
      by_cases hkl : k < L.sgs.length
      case neg =>
        obtain rfl : k = L.sgs.length := by omega
        have hnl : ¬ (L.sgs.length : Int) < (L.sgs.length : Int) := by omega
        have hG2 := hide (show ∀ j, j < i + 1 → good1 L j ∧ ∀ k, k < L.sgs.length → ¬ bad2 L j k from fun j hj => by
          by_cases e : j = i
          · subst e; exact ⟨GI.out, hK.out⟩
          · exact hG.out j (by omega))
        clear hkl hk N2 FIN BD hK hG
        go_wp2_with fail
        go_roundw
        case rel => exact ⟨i + 1, by omega, by go_num, hG2, Q4, P4⟩
        case measure => simp [intOf]; omega
      have hkn : k < L.nws.length := by rw [HNL.out]; exact hkl
      have BK := hide (BD.out k hkl hkn)
      have M2 := hide (N2.out i k hlt hkl)
      have KS := hide (fun (h : ¬ bad2 L i k) => show ∀ j, j < k + 1 → ¬ bad2 L i j from fun j hj => by
        by_cases e : j = k
        · subst e; exact h
        · exact hK.out j (by omega))
      obtain ⟨kb, ko, hne, hkb, nK0⟩ := InR.at_ HB.out hkn
      simp only [Option.some.injEq, Addr.mk.injEq, and_true] at hne
      obtain ⟨rfl, rfl⟩ := hne
      have nK := hide nK0
      obtain ⟨tb, tq, hne, htb, s0, s1, s2, s3⟩ := SgR.at_ (Rd.below HA.out Q4.out) hkl
      simp only [Option.some.injEq, Addr.mk.injEq, and_true] at hne
      obtain ⟨rfl, rfl⟩ := hne
      have hki : (k : Int) < (L.sgs.length : Int) := by omega
      have hkni : (k : Int) < (L.nws.length : Int) := by omega
      have OVK := hide (OV.out L.sgs[k])
      have OFK := hide (OF.out L.sgs[k])
      generalize L.sgs[k] = U at *
      generalize L.nws[k] = b at *
      generalize overB S U = ov at *
      generalize ofB U a = fo at *
      clear hkn nK0 OV OF
      have B4 := hide (heap_below B3.out hq.out)
      have bs4 := hide (heap_below bs3.out hq.out)
      have z4 : sx < wr.heap.size := heap_lt bs4.out
      have th := hide (show (wr.alloc (.cells #[.int .i64 0, .int .i64 0, .bool false, .bool false] 23)).there wr.heap.size 0 4 from there_heap (cs := [_, _, _, _]) (World.alloc_heap_new wr _))
      go_wp2_with (refine wpList_store_hid (by rfl) 23 (.tmp 6) (.tmp 69) (by rfl) wr.heap.size 0 [.int .i64 U.start, .int .i64 U.width, .bool U.big, .bool U.sgn] (by rfl) (by rfl) (by exact th.out) (by kernel_rfl) (by simp [Value.oneCell']) ?_)
      intro w5 e5
      have bu := hide (show w5.heap[wr.heap.size]? = some (.cells #[.int .i64 U.start, .int .i64 U.width, .bool U.big, .bool U.sgn] 23 (0, 0)) by rw [e5.out]; exact whole_heap [.int .i64 U.start, .int .i64 U.width, .bool U.big, .bool U.sgn] (xs := [_, _, _, _]) (World.alloc_heap_new wr _) rfl)
      have qb : Below wr.heap.size wr w5 := by
        rw [e5.out]
        exact ((Below.refl _ _).alloc (Nat.le_refl _) _).trans (below_setCells (g := wr.heap.size) _ 0 _ (Nat.le_refl _))
      have B5 := hide (heap_below B4.out qb)
      have bs5 := hide (heap_below bs4.out qb)
      have hq5 := hide (below_next hq.out hq.out.size qb)
      have Q5 := hide (below_next Q4.out Q4.out.size qb)
      have z5 : wr.heap.size < w5.heap.size := heap_lt bu.out
      clear th e5 qb B4 bs4 hq Q4 P4 s0 s1 s2 s3
      generalize wr.heap.size = ux at *
      go_wp2_with fail
      obtain ⟨x0, x1, x2, x3⟩ := sg_cells bs5.out
      obtain ⟨y0, y1, y2, y3⟩ := sg_cells bu.out
      obtain ⟨c0, c1, c2⟩ := three_cells B5.out
      have na := cellBelow Q5.out hab nW.out
      have nk := cellBelow Q5.out hkb nK.out
      have zw5 : w.heap.size < w5.heap.size := by omega
      have zs5 : sx < w5.heap.size := by omega
      have f0 := fun s : InW w5 => s.cell zs5 x0
      have f1 := fun s : InW w5 => s.cell zs5 x1
      have f2 := fun s : InW w5 => s.cell zs5 x2
      have f3 := fun s : InW w5 => s.cell zs5 x3
      have u0 := fun s : InW w5 => s.cell z5 y0
      have u1 := fun s : InW w5 => s.cell z5 y1
      have u2 := fun s : InW w5 => s.cell z5 y2
      have u3 := fun s : InW w5 => s.cell z5 y3
      have g2 := fun s : InW w5 => s.cell zw5 c2
      have h0 := fun s : InW w5 => s.cell (by omega : ab < w5.heap.size) na
      have h1 := fun s : InW w5 => s.cell (by omega : ab < w5.heap.size) nk
      clear x0 x1 x2 x3 y0 y1 y2 y3 c0 c1 c2 na nk
      by_cases hki2 : k < i
      · have hkii : (k : Int) < (i : Int) := by omega
        cases ov with
        | true =>
          have E := hide (M2.out (BK.out.2 (.inl ⟨hki2, rfl⟩)))
          clear N2 FIN BD hG BK M2 KS GI hK
          refine wp_region_tame (by kernel_rfl) (by kernel_rfl) ?_
          repeat (go_big_quiet_step ((first | (go_at_call 42; exact tame_of (OVK.out _)) | (go_at_call 43; exact tame_of (OFK.out _)))))
          refine wpQuiet_nil ?_
          rintro _ ⟨sw, rfl⟩
          clear f0 f1 f2 f3 u0 u1 u2 u3 g2 h0 h1
          have Qf := hide (below_next Q5.out Q5.out.size sw.h)
          go_wp2_with fail
          go_ret
          exact ⟨by rw [E.out]; rfl, Qf.out⟩
        | false =>
          by_cases ha0 : 0 ≤ a
          · cases fo with
            | true =>
              have E := hide (M2.out (BK.out.2 (.inr ⟨ha0, .inl rfl⟩)))
              clear N2 FIN BD hG BK M2 KS GI hK
              refine wp_region_tame (by kernel_rfl) (by kernel_rfl) ?_
              repeat (go_big_quiet_step ((first | (go_at_call 42; exact tame_of (OVK.out _)) | (go_at_call 43; exact tame_of (OFK.out _)))))
              refine wpQuiet_nil ?_
              rintro _ ⟨sw, rfl⟩
              clear f0 f1 f2 f3 u0 u1 u2 u3 g2 h0 h1
              have Qf := hide (below_next Q5.out Q5.out.size sw.h)
              go_wp2_with fail
              go_ret
              exact ⟨by rw [E.out]; rfl, Qf.out⟩
            | false =>
              by_cases hab2 : b = a
              · have e3 : (b == a) = true := by rw [beq_iff_eq]; exact hab2
                have E := hide (M2.out (BK.out.2 (.inr ⟨ha0, .inr ⟨hki2, hab2⟩⟩)))
                clear hab2
                clear N2 FIN BD hG BK M2 KS GI hK
                refine wp_region_tame (by kernel_rfl) (by kernel_rfl) ?_
                repeat (go_big_quiet_step ((first | (go_at_call 42; exact tame_of (OVK.out _)) | (go_at_call 43; exact tame_of (OFK.out _)))))
                refine wpQuiet_nil ?_
                rintro _ ⟨sw, rfl⟩
                clear f0 f1 f2 f3 u0 u1 u2 u3 g2 h0 h1
                have Qf := hide (below_next Q5.out Q5.out.size sw.h)
                go_wp2_with fail
                go_ret
                exact ⟨by rw [E.out]; rfl, Qf.out⟩
              · have e3 : (b == a) = false := by rw [beq_eq_false_iff_ne]; exact hab2
                have K2 := hide (KS.out (fun h => by rcases BK.out.1 h with ⟨_, h2⟩ | ⟨_, h2 | ⟨_, h2⟩⟩; (cases h2); (cases h2); (exact hab2 h2)))
                clear N2 FIN BD hG BK M2 KS GI hK
                refine wp_region_tame (by kernel_rfl) (by kernel_rfl) ?_
                repeat (go_big_quiet_step ((first | (go_at_call 42; exact tame_of (OVK.out _)) | (go_at_call 43; exact tame_of (OFK.out _)))))
                refine wpQuiet_nil ?_
                rintro _ ⟨sw, rfl⟩
                clear f0 f1 f2 f3 u0 u1 u2 u3 g2 h0 h1
                have hqf := hide (below_next hq5.out hq5.out.size sw.h)
                go_wp2_with fail
                go_roundw
                case rel => exact ⟨k + 1, by omega, by go_num, K2, hqf⟩
                case measure => simp [intOf]; omega
          · have K2 := hide (KS.out (fun h => by rcases BK.out.1 h with ⟨_, h2⟩ | ⟨h2, _⟩; (cases h2); (exact ha0 h2)))
            clear N2 FIN BD hG BK M2 KS GI hK
            refine wp_region_tame (by kernel_rfl) (by kernel_rfl) ?_
            repeat (go_big_quiet_step ((first | (go_at_call 42; exact tame_of (OVK.out _)) | (go_at_call 43; exact tame_of (OFK.out _)))))
            refine wpQuiet_nil ?_
            rintro _ ⟨sw, rfl⟩
            clear f0 f1 f2 f3 u0 u1 u2 u3 g2 h0 h1
            have hqf := hide (below_next hq5.out hq5.out.size sw.h)
            go_wp2_with fail
            go_roundw
            case rel => exact ⟨k + 1, by omega, by go_num, K2, hqf⟩
            case measure => simp [intOf]; omega
      · have hkii : ¬ (k : Int) < (i : Int) := by omega
        by_cases ha0 : 0 ≤ a
        · cases fo with
          | true =>
            have E := hide (M2.out (BK.out.2 (.inr ⟨ha0, .inl rfl⟩)))
            clear N2 FIN BD hG BK M2 KS GI hK
            refine wp_region_tame (by kernel_rfl) (by kernel_rfl) ?_
            repeat (go_big_quiet_step ((first | (go_at_call 42; exact tame_of (OVK.out _)) | (go_at_call 43; exact tame_of (OFK.out _)))))
            refine wpQuiet_nil ?_
            rintro _ ⟨sw, rfl⟩
            clear f0 f1 f2 f3 u0 u1 u2 u3 g2 h0 h1
            have Qf := hide (below_next Q5.out Q5.out.size sw.h)
            go_wp2_with fail
            go_ret
            exact ⟨by rw [E.out]; rfl, Qf.out⟩
          | false =>
            have K2 := hide (KS.out (fun h => by rcases BK.out.1 h with ⟨h2, _⟩ | ⟨_, h2 | ⟨h2, _⟩⟩; (exact hki2 h2); (cases h2); (exact hki2 h2)))
            clear N2 FIN BD hG BK M2 KS GI hK
            refine wp_region_tame (by kernel_rfl) (by kernel_rfl) ?_
            repeat (go_big_quiet_step ((first | (go_at_call 42; exact tame_of (OVK.out _)) | (go_at_call 43; exact tame_of (OFK.out _)))))
            refine wpQuiet_nil ?_
            rintro _ ⟨sw, rfl⟩
            clear f0 f1 f2 f3 u0 u1 u2 u3 g2 h0 h1
            have hqf := hide (below_next hq5.out hq5.out.size sw.h)
            go_wp2_with fail
            go_roundw
            case rel => exact ⟨k + 1, by omega, by go_num, K2, hqf⟩
            case measure => simp [intOf]; omega
        · have K2 := hide (KS.out (fun h => by rcases BK.out.1 h with ⟨h2, _⟩ | ⟨h2, _⟩; (exact hki2 h2); (exact ha0 h2)))
          clear N2 FIN BD hG BK M2 KS GI hK
          refine wp_region_tame (by kernel_rfl) (by kernel_rfl) ?_
          repeat (go_big_quiet_step ((first | (go_at_call 42; exact tame_of (OVK.out _)) | (go_at_call 43; exact tame_of (OFK.out _)))))
          refine wpQuiet_nil ?_
          rintro _ ⟨sw, rfl⟩
          clear f0 f1 f2 f3 u0 u1 u2 u3 g2 h0 h1
          have hqf := hide (below_next hq5.out hq5.out.size sw.h)
          go_wp2_with fail
          go_roundw
          case rel => exact ⟨k + 1, by omega, by go_num, K2, hqf⟩
          case measure => simp [intOf]; omega
end Go.Proofs.YtnhegnneohpkaaaGreat
