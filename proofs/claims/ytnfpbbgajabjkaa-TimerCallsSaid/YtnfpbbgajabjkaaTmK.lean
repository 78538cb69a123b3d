/- The reference's Right of timers. -/
import Derived.Test.YtnfpbbgajabjkaaTmJ
namespace Go.Proofs.Ytnfpbbgajabjkaa
open Go.ChangeShapes Go.WideShapes Go.ChangeAt Go.RowKit

def ok1 (now : Int) (x : Tm) : Prop := 0 ≤ x.id ∧ x.id ≤ 1000000 ∧ now < x.due ∧ x.due ≤ now + 1000000
def okPr (y x : Tm) : Prop := y.id ≠ x.id ∧ y.due ≤ x.due ∧ (y.due = x.due → y.id ≤ x.id)
def refTo (now : Int) (l : List Tm) (n : Nat) : Prop := ∀ j (h : j < l.length), j < n → ok1 now l[j] ∧ ∀ m (hm : m < l.length), m < j → okPr l[m] l[j]
theorem right_ref {now : Int} {l : List Tm} : rightTm now l = true ↔ 0 ≤ now ∧ now ≤ 1099511627776 ∧ l.length ≤ 32 ∧ refTo now l l.length := by
  constructor
  · intro h
    obtain ⟨g1, g2, g3, g4⟩ := right_due h
    obtain ⟨_, _, _, hs, ho⟩ := rightTm_iff.1 h
    have hp := srtP_of hs
    refine ⟨g1, g2, g3, fun j hj _ => ⟨g4 _ (List.getElem_mem hj), fun m hm hmj => ?_⟩⟩
    have h1 := List.pairwise_iff_getElem.1 hp m j hm hj hmj
    have h2 := ho j hj hj
    unfold okTm at h2
    simp only [Bool.and_eq_true, Bool.not_eq_true'] at h2
    have h3 := List.any_eq_false.1 h2.2.2.2.2 l[m] (by rw [List.mem_take_iff_getElem]; exact ⟨m, by omega, rfl⟩)
    have h4 : l[m].id ≠ l[j].id := by simpa using h3
    unfold aheadT2 at h1
    refine ⟨h4, ?_, ?_⟩ <;> omega
  · rintro ⟨g1, g2, g3, hr⟩
    refine rightTm_iff.2 ⟨g1, g2, g3, srtB_iff.2 (fun k hk _ => ?_), fun k hk _ => ?_⟩
    · rw [ordT_neg]
      obtain ⟨h1, h2, h3⟩ := (hr (k + 1) hk hk).2 k (by omega) (by omega)
      unfold aheadT2
      omega
    · obtain ⟨⟨h1, h2, h3, h4⟩, h5⟩ := hr k hk hk
      unfold okTm
      rw [decide_eq_true h1, decide_eq_true h2, decide_eq_true h3, decide_eq_true (by omega)]
      simp only [Bool.true_and, Bool.not_eq_true']
      rw [List.any_eq_false]
      intro y hy
      rw [List.mem_take_iff_getElem] at hy
      obtain ⟨m, hm, rfl⟩ := hy
      have := (h5 m (by omega) (by omega)).1
      simpa using this
theorem right_refF {now : Int} {l : List Tm} (h : ¬ (0 ≤ now ∧ now ≤ 1099511627776 ∧ l.length ≤ 32 ∧ refTo now l l.length)) : rightTm now l = false := by
  rw [← Bool.not_eq_true, right_ref]; exact h

theorem tm_box {W W' : World} {B : Nat} {x : Tm} {t : TypeId} {fz : Nat × Nat} (h : W.heap[B]? = some (.cells #[.int .i64 x.id, .int .i64 x.due] t fz)) (q : Below W.heap.size W W') :
    W'.cell? ⟨B, 0, none⟩ = some (.int .i64 x.id) ∧ W'.cell? ⟨B, 1, none⟩ = some (.int .i64 x.due) := ⟨cell_heap h q rfl, cell_heap h q rfl⟩

set_option maxRecDepth 100000 in
set_option maxHeartbeats 4000000 in
theorem refRight13_any (now : Int) (l : List Tm) (A : Option Addr) (c : Nat) (w : World) (hr : TmR w w.heap.size A l) (hl : l.length ≤ 1000) :
    Calls Try.prog 18 #[.agg #[.int .i64 now, .slice A l.length c]] w fun e w' => e = .returned (.bool (rightTm now l)) ∧ Below w.heap.size w w' := by
  have q0 : Below w.heap.size w (w.alloc (.cells #[.int .i64 now, .slice A l.length c] 24)) := (Below.refl _ _).alloc (Nat.le_refl _) _
  have HR := hide hr
  have B0 := hide (World.alloc_heap_new w (.cells #[.int .i64 now, .slice A l.length c] 24))
  clear hr
  by_cases hout : 0 ≤ now ∧ now ≤ 1099511627776 ∧ l.length ≤ 32
  · obtain ⟨o1, o2, o3⟩ := hout
    have o3' : (l.length : Int) ≤ 32 := by omega
    go_enter Try.func18, Try.ntmps18
    go_wp2
    go_loopw [24] (fun i W => ∃ k : Nat, k ≤ l.length ∧ i = .int .i64 k ∧ Hid (refTo now l k) ∧ Below w.heap.size w W ∧ Hid (W.heap[w.heap.size]? = some (.cells #[.int .i64 now, .slice A l.length c] 24 (0, 0)))) (fun i _ => l.length - (intOf i).toNat)
    case atStart => exact ⟨0, Nat.zero_le _, rfl, hide (fun _ _ h => absurd h (by omega)), q0, B0⟩
    case round =>
      obtain ⟨k, hk, rfl, hinv, q, hB⟩ := hrel
      obtain ⟨wo, rfl⟩ : ∃ wo : World, wo = wr := ⟨_, rfl⟩
      have zw : w.heap.size < wo.heap.size := heap_lt hB.out
      by_cases hlt : k < l.length
      · obtain ⟨b, off, rfl, hbs, c0, c1⟩ := (TmR.next HR.out q q.size).at_ hlt
        have qa : Below w.heap.size w (wo.alloc (.cells #[.int .i64 l[k].id, .int .i64 l[k].due] 40)) := q.alloc q.size _
        have H4 := hide (World.alloc_heap_new wo (.cells #[.int .i64 l[k].id, .int .i64 l[k].due] 40))
        have H1 := hide (heap_below hB.out ((Below.refl _ _).alloc (Nat.le_refl _) (.cells #[.int .i64 l[k].id, .int .i64 l[k].due] 40)))
        obtain ⟨d0, d1, _, _⟩ := two_box hB.out
        have hwn : IntKind.i64.wrap (now + 1000000) = now + 1000000 := IntWalk.i64_in _ (by omega)
        by_cases hin : 0 ≤ l[k].id ∧ l[k].id ≤ 1000000 ∧ now < l[k].due ∧ l[k].due ≤ now + 1000000
        · obtain ⟨i1, i2, i3, i4⟩ := hin
          have HO1 := hide (show ok1 now l[k] from ⟨i1, i2, i3, i4⟩)
          have za : wo.heap.size < (wo.alloc (.cells #[.int .i64 l[k].id, .int .i64 l[k].due] 40)).heap.size := by simp
          go_wp2
          go_loopw [5] (fun vm W => ∃ m : Nat, m ≤ k ∧ vm = .int .i64 m ∧ Hid (∀ p (hp : p < l.length), p < m → okPr l[p] l[k]) ∧ Below (wo.alloc (.cells #[.int .i64 l[k].id, .int .i64 l[k].due] 40)).heap.size (wo.alloc (.cells #[.int .i64 l[k].id, .int .i64 l[k].due] 40)) W) (fun vm _ => k - (intOf vm).toNat)
          case atStart => exact ⟨0, Nat.zero_le _, rfl, hide (fun _ _ h => absurd h (by omega)), Below.refl _ _⟩
          case round =>
            obtain ⟨m, hm, rfl, hpr, q2⟩ := hrel
            have qf := below_next qa qa.size q2
            have E1 := hide (heap_below H1.out q2)
            have E4 := hide (heap_below H4.out q2)
            have z1 : w.heap.size < wr.heap.size := heap_lt E1.out
            have z4 : wo.heap.size < wr.heap.size := heap_lt E4.out
            obtain ⟨d0, d1, _, _⟩ := two_box E1.out
            obtain ⟨e0, e1⟩ := tm_box E4.out (Below.refl _ _)
            by_cases hmk : m < k
            · have hml : m < l.length := by omega
              obtain ⟨_, f0, f1⟩ := (TmR.next HR.out qf qf.size).at2 hml
              have hmi : (m : Int) < (l.length : Int) := by omega
              have hb : b < wr.heap.size := by omega
              by_cases hp : l[m].id ≠ l[k].id ∧ l[m].due ≤ l[k].due ∧ (l[m].due = l[k].due → l[m].id ≤ l[k].id)
              · have HP := hide (show ∀ p (hp : p < l.length), p < m + 1 → okPr l[p] l[k] from fun p hpl hpm => by
                  by_cases e : p = m
                  · subst e; exact hp
                  · exact hpr.out p hpl (by omega))
                obtain ⟨p1, p2, p3⟩ := hp
                have g1 : (l[m].id == l[k].id) = false := by rw [beq_eq_false_iff_ne]; exact p1
                have q3 : Below (wo.alloc (.cells #[.int .i64 l[k].id, .int .i64 l[k].due] 40)).heap.size (wo.alloc (.cells #[.int .i64 l[k].id, .int .i64 l[k].due] 40)) (wr.alloc (.cells #[.int .i64 l[m].id, .int .i64 l[m].due] 40)) := q2.alloc q2.size _
                by_cases he : l[m].due = l[k].due
                · have g2 : (l[m].due == l[k].due) = true := by rw [beq_iff_eq]; exact he
                  have g3 := p3 he
                  clear he p1 p3
                  go_wp2
                  go_roundw
                  case rel => exact ⟨m + 1, by omega, by go_num, HP, q3⟩
                  case measure => simp [intOf]; omega
                · have g2 : (l[m].due == l[k].due) = false := by rw [beq_eq_false_iff_ne]; exact he
                  clear he p1 p3
                  go_wp2
                  go_roundw
                  case rel => exact ⟨m + 1, by omega, by go_num, HP, q3⟩
                  case measure => simp [intOf]; omega
              · have HF := hide (right_refF (l := l) (now := now) (fun h => hp ((h.2.2.2 k hlt hlt).2 m hml hmk)))
                have q3 : Below w.heap.size w (wr.alloc (.cells #[.int .i64 l[m].id, .int .i64 l[m].due] 40)) := qf.alloc qf.size _
                rcases (show l[m].id = l[k].id ∨ l[m].id ≠ l[k].id ∧ (l[k].due < l[m].due ∨ l[m].due ≤ l[k].due ∧ l[m].due = l[k].due ∧ l[k].id < l[m].id) by omega) with h | ⟨h, h' | ⟨h', h'', h3⟩⟩
                · have g1 : (l[m].id == l[k].id) = true := by rw [beq_iff_eq]; exact h
                  clear hp h
                  go_wp2
                  go_ret
                  exact ⟨by rw [HF.out]; rfl, q3⟩
                · have g1 : (l[m].id == l[k].id) = false := by rw [beq_eq_false_iff_ne]; exact h
                  clear hp h
                  go_wp2
                  go_ret
                  exact ⟨by rw [HF.out]; rfl, q3⟩
                · have g1 : (l[m].id == l[k].id) = false := by rw [beq_eq_false_iff_ne]; exact h
                  have g2 : (l[m].due == l[k].due) = true := by rw [beq_iff_eq]; exact h''
                  clear hp h h''
                  go_wp2
                  go_ret
                  exact ⟨by rw [HF.out]; rfl, q3⟩
            · obtain rfl : m = k := by omega
              have HN := hide (show refTo now l (m + 1) from fun j hj hjm => by
                by_cases e : j = m
                · subst e; exact ⟨HO1.out, fun p hp hpm => hpr.out p hp hpm⟩
                · exact hinv.out j hj (by omega))
              go_wp2
              go_roundw
              case rel => exact ⟨m + 1, by omega, by go_num, HN, qf, E1⟩
              case measure => simp [intOf]; omega
        · have HF := hide (right_refF (l := l) (now := now) (fun h => hin (h.2.2.2 k hlt hlt).1))
          rcases (show l[k].id < 0 ∨ 0 ≤ l[k].id ∧ (1000000 < l[k].id ∨ l[k].id ≤ 1000000 ∧ (l[k].due ≤ now ∨ now < l[k].due ∧ now + 1000000 < l[k].due)) by omega) with h | ⟨g1, h | ⟨g2, h | ⟨g3, h⟩⟩⟩
          all_goals
            clear hin
            go_wp2
            go_ret
            exact ⟨by rw [HF.out]; rfl, qa⟩
      · have HT := hide (right_ref.2 ⟨o1, o2, o3, fun j h _ => hinv.out j h (by omega)⟩)
        go_wp2
        go_ret
        exact ⟨by rw [HT.out]; rfl, q⟩
  · have HF := hide (right_refF (l := l) (now := now) (fun h => hout ⟨h.1, h.2.1, h.2.2.1⟩))
    rcases (show now < 0 ∨ 0 ≤ now ∧ (1099511627776 < now ∨ now ≤ 1099511627776 ∧ 32 < l.length) by omega) with h | ⟨g1, h | ⟨g2, h⟩⟩
    all_goals
      clear hout
      go_enter Try.func18, Try.ntmps18
      go_wp2
      go_ret
      exact ⟨by rw [HF.out]; rfl, q0⟩
end Go.Proofs.Ytnfpbbgajabjkaa
