/- The reference's Right of boxes. -/
import Derived.Test.YtbdgifngldipcaaBcB
import Derived.Test.YtbdgifngldipcaaBcD
import Derived.Test.YtbdgifngldipcaaHpR
namespace Go.Proofs.Ytbdgifngldipcaa
open Go.ChangeShapes Go.WideShapes Go.ChangeAt Go.RowKit
open FP (Fr)
open HP (kB at' Hp)

/-- What Right asks, as the document says it. -/
structure RrP (l : List Bx) (seq cap : Int) : Prop where
  c1 : 1 ≤ cap
  c8 : cap ≤ 8
  ln : (l.length : Int) ≤ cap
  s0 : 0 ≤ seq
  s1 : seq ≤ 1099511627776
  ok : ∀ j (h : j < l.length), okM seq l[j]
  ne : ∀ i j (hi : i < l.length) (hj : j < l.length), i < j → l[i].s ≠ l[j].s
  hp : ∀ j (hj : j < l.length), 0 < j → aheadB l[j] (at' l ((j - 1) / 2)) = false
theorem rr_iff {l : List Bx} {seq cap : Int} : rightBx l seq cap = true ↔ RrP l seq cap := by
  rw [right_iff]
  constructor
  · rintro ⟨h1, h2, h3, h4, h5, h6, h7, h8⟩
    refine ⟨h1, h2, h3, h4, h5, fun j h => h6 _ (List.getElem_mem h), fun i j hi hj hij => List.pairwise_iff_getElem.1 h7 i j hi hj hij, fun j hj h0 => ?_⟩
    have hp : (j - 1) / 2 < l.length := by omega
    have := h8 j h0 hj (Nat.zero_le _)
    rw [HP.at_lt hj] at this
    rw [HP.at_lt hp] at this ⊢
    rw [HP.ahead_kB (h6 _ (List.getElem_mem hj)).1 (h6 _ (List.getElem_mem hp)).1]
    exact this
  · intro h
    refine ⟨h.c1, h.c8, h.ln, h.s0, h.s1, fun x hx => ?_, ?_, fun j h0 hj _ => ?_⟩
    · obtain ⟨j, hj, rfl⟩ := List.mem_iff_getElem.1 hx
      exact h.ok j hj
    · rw [List.pairwise_iff_getElem]
      exact fun i j hi hj hij => h.ne i j hi hj hij
    · have hp : (j - 1) / 2 < l.length := by omega
      have := h.hp j hj h0
      rw [HP.at_lt hj]
      rw [HP.at_lt hp] at this ⊢
      rw [HP.ahead_kB (h.ok j hj).1 (h.ok _ hp).1] at this
      exact this
theorem rr_false {l : List Bx} {seq cap : Int} (h : ¬ RrP l seq cap) : rightBx l seq cap = false := by
  rw [← Bool.not_eq_true, rr_iff]; exact h

set_option maxRecDepth 100000 in
set_option maxHeartbeats 4000000 in
theorem refRight9_any (l : List Bx) (A : Option Addr) (c : Nat) (seq cap : Int) (w : World) (hr : BxR w w.heap.size A l) (hl : l.length ≤ 1000) (hid : ∀ x ∈ l, x.f.id < 4294967296) :
    Calls Try.prog 47 #[.agg #[.slice A l.length c, .int .i64 seq, .int .i64 cap]] w fun e w' => e = .returned (.bool (rightBx l seq cap)) ∧ Below w.heap.size w w' := by
  have q0 : Below w.heap.size w (w.alloc (.cells #[.slice A l.length c, .int .i64 seq, .int .i64 cap] 65)) := (Below.refl _ _).alloc (Nat.le_refl _) _
  have HR := hide hr
  have HI := hide hid
  have B0 := hide (World.alloc_heap_new w (.cells #[.slice A l.length c, .int .i64 seq, .int .i64 cap] 65))
  clear hr hid
  by_cases hout : 1 ≤ cap ∧ cap ≤ 8 ∧ (l.length : Int) ≤ cap ∧ 0 ≤ seq ∧ seq ≤ 1099511627776
  · obtain ⟨o1, o2, o3, o4, o5⟩ := hout
    go_enter Try.func47, Try.ntmps47
    go_wp2
    go_loopw [36] (fun i W => ∃ k : Nat, k ≤ l.length ∧ i = .int .i64 k ∧ Hid (∀ j (h : j < l.length), j < k → okM seq l[j]) ∧ Hid (∀ i j (hi : i < l.length) (hj : j < l.length), i < j → j < k → l[i].s ≠ l[j].s) ∧ Below w.heap.size w W ∧ Hid (W.heap[w.heap.size]? = some (.cells #[.slice A l.length c, .int .i64 seq, .int .i64 cap] 65 (0, 0)))) (fun i _ => l.length - (intOf i).toNat)
    case atStart => exact ⟨0, Nat.zero_le _, rfl, hide (fun _ _ h => absurd h (by omega)), hide (fun _ _ _ _ _ h => absurd h (by omega)), q0, B0⟩
    case round =>
      rename World => wa
      clear q0 B0
      obtain ⟨k, hk, rfl, hok, hne, q, hB⟩ := hrel
      have zw : w.heap.size < wa.heap.size := heap_lt hB.out
      by_cases hlt : k < l.length
      · obtain ⟨b, off, rfl, hbs, d0, d1, d2, d3, d4, d5, d6⟩ := (BxR.next HR.out q q.size).at_ hlt
        have hi1 : (k : Int) < (l.length : Int) := by omega
        have qa : Below wa.heap.size wa (wa.alloc (.cells #[.int .i64 l[k].h, .int .u32 l[k].f.id, .bool l[k].f.ext, .bool l[k].f.rem, .int .i64 l[k].f.dlc, .string l[k].f.data, .int .i64 l[k].s] 70)) := (Below.refl _ _).alloc (Nat.le_refl _) _
        have H4 := hide (World.alloc_heap_new wa (.cells #[.int .i64 l[k].h, .int .u32 l[k].f.id, .bool l[k].f.ext, .bool l[k].f.rem, .int .i64 l[k].f.dlc, .string l[k].f.data, .int .i64 l[k].s] 70))
        have H1 := hide (heap_below hB.out qa)
        have QA := below_next q q.size qa
        have FR := hide (fun W => refRight04_any l[k].f W (HI.out _ (List.getElem_mem hlt)))
        clear qa hB
        go_wp2_with fail
        (with_reducible refine (FR.out _).mono ?_)
        rintro e1 w1 ⟨rfl, q1⟩
        have Q1 := below_next QA QA.size q1
        have E1 := hide (heap_below H1.out q1)
        have E4 := hide (heap_below H4.out q1)
        have z1 : w.heap.size < w1.heap.size := heap_lt E1.out
        have z4 : wa.heap.size < w1.heap.size := heap_lt E4.out
        obtain ⟨x0, x1, x2⟩ := three_cells E1.out
        obtain ⟨y0, y1, y2, y3, y4, y5, y6⟩ := bx_cells7 E4.out
        clear q1 d0 d1 d2 d3 d4 d5 d6 H1 H4 QA FR
        by_cases hin : okM seq l[k]
        · obtain ⟨i1, i2, i3, i4, i5⟩ := id hin
          rw [i1]
          have HIN := hide hin
          have hb : b < w1.heap.size := by have := q.size; omega
          clear hin
          go_wp2_with fail
          go_loopw [5] (fun vm W => ∃ m : Nat, m ≤ k ∧ vm = .int .i64 m ∧ Hid (∀ p (hp : p < l.length), p < m → l[p].s ≠ l[k].s) ∧ Below w1.heap.size w1 W) (fun vm _ => k - (intOf vm).toNat)
          case atStart => exact ⟨0, Nat.zero_le _, rfl, hide (fun _ _ h => absurd h (by omega)), Below.refl _ _⟩
          case round =>
            rename World => wb
            obtain ⟨m, hm, rfl, hpr, q2⟩ := hrel
            have Q2 := below_next Q1 Q1.size q2
            have K1 := hide (heap_below E1.out q2)
            have K4 := hide (heap_below E4.out q2)
            have z1' : w.heap.size < wb.heap.size := heap_lt K1.out
            have z4' : wa.heap.size < wb.heap.size := heap_lt K4.out
            by_cases hmk : m < k
            · have hml : m < l.length := by omega
              have hmi : (m : Int) < (l.length : Int) := by omega
              have hmi2 : (m : Int) < (k : Int) := by omega
              obtain ⟨k0, _, _⟩ := three_cells K1.out
              have n0 := fun s : InW wb => s.cell z1' k0
              clear k0
              have n4 := fun s : InW wb => bxBox_s K4.out s
              have nm := BxR.all (BxR.next HR.out Q2 Q2.size) (Nat.le_refl _) hml
              clear x0 x1 x2 y0 y1 y2 y3 y4 y5 y6
              by_cases hs : l[m].s = l[k].s
              · have HF := hide (rr_false (l := l) (seq := seq) (cap := cap) (fun h => h.ne m k hml hlt hmk hs))
                have g1 : (l[m].s == l[k].s) = true := by rw [beq_iff_eq]; exact hs
                clear hs
                go_wp2_with fail
                refine wp_region_tame (by kernel_rfl) (by kernel_rfl) ?_
                repeat (go_big_quiet_step (fail))
                refine wpQuiet_nil ?_
                rintro _ ⟨s, rfl⟩
                have Q3 := Q2.trans (s.h.mono Q2.size)
                clear n0 n4 nm
                go_wp2_with fail
                go_ret
                exact ⟨by rw [HF.out]; rfl, Q3⟩
              · have HP := hide (show ∀ p (hp : p < l.length), p < m + 1 → l[p].s ≠ l[k].s from fun p hpl hpm => by
                  by_cases e : p = m
                  · subst e; exact hs
                  · exact hpr.out p hpl (by omega))
                have g1 : (l[m].s == l[k].s) = false := by rw [beq_eq_false_iff_ne]; exact hs
                clear hs
                go_wp2_with fail
                refine wp_region_tame (by kernel_rfl) (by kernel_rfl) ?_
                repeat (go_big_quiet_step (fail))
                refine wpQuiet_nil ?_
                rintro _ ⟨s, rfl⟩
                have q3 := q2.trans (s.h.mono q2.size)
                clear n0 n4 nm
                go_wp2_with fail
                go_roundw
                case rel => exact ⟨m + 1, by omega, by go_num, HP, q3⟩
                case measure => simp [intOf]; omega
            · obtain rfl : m = k := by omega
              have HOK := hide (show ∀ j (h : j < l.length), j < m + 1 → okM seq l[j] from fun j h hj => by
                by_cases e : j = m
                · subst e; exact HIN.out
                · exact hok.out j h (by omega))
              have HNE := hide (show ∀ i j (hi : i < l.length) (hj : j < l.length), i < j → j < m + 1 → l[i].s ≠ l[j].s from fun i j hi hj hij hjm => by
                by_cases e : j = m
                · subst e; exact hpr.out i hi hij
                · exact hne.out i j hi hj hij (by omega))
              clear x0 x1 x2 y0 y1 y2 y3 y4 y5 y6
              go_wp2_with fail
              go_roundw
              case rel => exact ⟨m + 1, by omega, by go_num, HOK, HNE, Q2, K1⟩
              case measure => simp [intOf]; omega
        · have HF := hide (rr_false (l := l) (seq := seq) (cap := cap) (fun h => hin (h.ok k hlt)))
          unfold okM at hin
          rcases hRB : FP.rightB l[k].f with _ | _
          · clear hin
            go_wp2_with fail
            go_ret
            exact ⟨by rw [HF.out]; rfl, Q1⟩
          · rcases (show l[k].h < 0 ∨ (0 ≤ l[k].h ∧ 1000000 < l[k].h) ∨ (0 ≤ l[k].h ∧ l[k].h ≤ 1000000 ∧ l[k].s < 0) ∨ (0 ≤ l[k].h ∧ l[k].h ≤ 1000000 ∧ 0 ≤ l[k].s ∧ seq ≤ l[k].s) by rw [hRB] at hin; simp only [true_and] at hin; omega) with h1 | ⟨h1, h2⟩ | ⟨h1, h2, h3⟩ | ⟨h1, h2, h3, h4⟩
            all_goals
              clear hin
              go_wp2_with fail
              go_ret
              exact ⟨by rw [HF.out]; rfl, Q1⟩
      · obtain rfl : k = l.length := by omega
        have HOK := hide (show ∀ j (h : j < l.length), okM seq l[j] from fun j h => hok.out j h h)
        have HNE := hide (show ∀ i j (hi : i < l.length) (hj : j < l.length), i < j → l[i].s ≠ l[j].s from fun i j hi hj hij => hne.out i j hi hj hij hj)
        clear hok hne
        go_wp2_with fail
        go_loopw [6] (fun vi W => ∃ j : Nat, 1 ≤ j ∧ (j ≤ l.length ∨ j = 1) ∧ vi = .int .i64 j ∧ Hid (∀ p (hp : p < l.length), 0 < p → p < j → aheadB l[p] (at' l ((p - 1) / 2)) = false) ∧ Below wa.heap.size wa W) (fun vi _ => l.length - (intOf vi).toNat)
        case atStart => exact ⟨1, Nat.le_refl _, .inr rfl, rfl, hide (fun _ _ h0 h1 => absurd h1 (by omega)), Below.refl _ _⟩
        case round =>
          rename World => wb
          obtain ⟨j, hj1, hjl, rfl, hpr, q2⟩ := hrel
          have Q2 := below_next q q.size q2
          have K1 := hide (heap_below hB.out q2)
          have z1' : w.heap.size < wb.heap.size := heap_lt K1.out
          obtain ⟨x0, x1, x2⟩ := three_cells K1.out
          by_cases hlt : j < l.length
          · have hji : (j : Int) < (l.length : Int) := by omega
            obtain ⟨pr, hprr⟩ : ∃ pr, pr = (j - 1) / 2 := ⟨_, rfl⟩
            have hpl : pr < l.length := by omega
            have hpi : (pr : Int) < (l.length : Int) := by omega
            have hq : ((j : Int) - 1) / 2 = (pr : Int) := by omega
            have hj0 : 1 ≤ (j : Int) := by omega
            have n0 := fun s : InW wb => s.cell z1' x0
            obtain ⟨b, off, rfl, _⟩ := HR.out.at_ hlt
            have mj := BxR.all (BxR.next HR.out Q2 Q2.size) (Nat.le_refl _) hlt
            have mp := BxR.all (BxR.next HR.out Q2 Q2.size) (Nat.le_refl _) hpl
            have AH := hide (fun s : InW wb => ahead9_any l[j] l[pr] s.W (HOK.out j hlt).1 (HOK.out pr hpl).1)
            rcases hA : aheadB l[j] l[pr] with _ | _
            · rw [hA] at AH
              have HN := hide (show ∀ p (hp : p < l.length), 0 < p → p < j + 1 → aheadB l[p] (at' l ((p - 1) / 2)) = false from fun p hp h0 hpj => by
                by_cases e : p = j
                · subst e
                  rw [← hprr, HP.at_lt hpl]; exact hA
                · exact hpr.out p hp h0 (by omega))
              clear hA hprr
              go_wp2_with fail
              refine wp_region_tame (by kernel_rfl) (by kernel_rfl) ?_
              repeat (go_big_quiet_step (first | (go_at_call 74; exact tame_of (AH.out _))))
              refine wpQuiet_nil ?_
              rintro _ ⟨s, rfl⟩
              have q3 := q2.trans (s.h.mono q2.size)
              clear n0 mj mp
              go_wp2_with fail
              go_roundw
              case rel => exact ⟨j + 1, by omega, by omega, by go_num, HN, q3⟩
              case measure => simp [intOf]; omega
            · rw [hA] at AH
              have HF := hide (rr_false (l := l) (seq := seq) (cap := cap) (fun h => by
                have := h.hp j hlt (by omega)
                rw [← hprr, HP.at_lt hpl, hA] at this
                cases this))
              clear hA hprr
              go_wp2_with fail
              refine wp_region_tame (by kernel_rfl) (by kernel_rfl) ?_
              repeat (go_big_quiet_step (first | (go_at_call 74; exact tame_of (AH.out _))))
              refine wpQuiet_nil ?_
              rintro _ ⟨s, rfl⟩
              have Q3 := Q2.trans (s.h.mono Q2.size)
              clear n0 mj mp
              go_wp2_with fail
              go_ret
              exact ⟨by rw [HF.out]; rfl, Q3⟩
          · have HF := hide (rr_iff.2 (⟨o1, o2, o3, o4, o5, HOK.out, HNE.out, fun p hp h0 => hpr.out p hp h0 (by omega)⟩ : RrP l seq cap))
            have hji : ¬ (j : Int) < (l.length : Int) := by omega
            go_wp2_with fail
            go_ret
            exact ⟨by rw [HF.out]; rfl, Q2⟩
  · have HF := hide (rr_false (l := l) (seq := seq) (cap := cap) (fun h => hout ⟨h.c1, h.c8, h.ln, h.s0, h.s1⟩))
    go_enter Try.func47, Try.ntmps47
    rcases (show cap < 1 ∨ (1 ≤ cap ∧ 8 < cap) ∨ (1 ≤ cap ∧ cap ≤ 8 ∧ cap < (l.length : Int)) ∨ (1 ≤ cap ∧ cap ≤ 8 ∧ (l.length : Int) ≤ cap ∧ seq < 0) ∨ (1 ≤ cap ∧ cap ≤ 8 ∧ (l.length : Int) ≤ cap ∧ 0 ≤ seq ∧ 1099511627776 < seq) by omega) with h1 | ⟨h1, h2⟩ | ⟨h1, h2, h3⟩ | ⟨h1, h2, h3, h4⟩ | ⟨h1, h2, h3, h4, h5⟩
    all_goals
      clear hout
      go_wp2_with fail
      go_ret
      exact ⟨by rw [HF.out]; rfl, q0⟩
end Go.Proofs.Ytbdgifngldipcaa
