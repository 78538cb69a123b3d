/- slices.BinarySearchFunc of timers. -/
import Derived.Test.YtnfpbbgajabjkaaTmB
namespace Go.Proofs.Ytnfpbbgajabjkaa
open Go.ChangeShapes Go.WideShapes Go.ChangeAt Go.RowKit

theorem tmBox_s {W : World} {B : Nat} {f : Tm} {t : TypeId} {fz : Nat × Nat} (h : W.heap[B]? = some (.cells #[.int .i64 f.id, .int .i64 f.due] t fz)) (s : InW W) :
    s.W.cell? ⟨B, 0, none⟩ = some (.int .i64 f.id) ∧ s.W.cell? ⟨B, 1, none⟩ = some (.int .i64 f.due) := by
  have h' := heap_below h s.h
  refine ⟨?_, ?_⟩ <;> simp [World.cell?, h']
/-- i of them stand ahead of x: the first ones. -/
def BsV (l : List Tm) (x : Tm) (w : World) (e : Ending) (w' : World) : Prop :=
  ∃ (i : Nat) (b : Bool), e = .returned (.tuple #[.int .i64 i, .bool b]) ∧ i ≤ l.length ∧ (∀ k (h : k < l.length), k < i → ordT l[k] x < 0) ∧ (∀ k (h : k < l.length), i ≤ k → 0 ≤ ordT l[k] x) ∧ Below w.heap.size w w'

set_option maxRecDepth 100000 in
set_option maxHeartbeats 2000000 in
theorem bsearch_any (l : List Tm) (A : Option Addr) (c : Nat) (x : Tm) (w : World) (hr : TmR w w.heap.size A l) (hl : l.length ≤ 1000) (hm : ∀ a b (ha : a < l.length) (hb : b < l.length), a ≤ b → ordT l[b] x < 0 → ordT l[a] x < 0) :
    Calls Try.prog 54 #[.slice A l.length c, .agg #[.int .i64 x.id, .int .i64 x.due], .func (.func 55) #[] #[]] w (BsV l x w) := by
  have HR := hide hr
  have HM := hide hm
  have O := hide (fun y W => order_any y x W)
  have q0 : Below w.heap.size w (w.alloc (.cells #[.int .i64 x.id, .int .i64 x.due] 40)) := (Below.refl _ _).alloc (Nat.le_refl _) _
  have B0 := hide (World.alloc_heap_new w (.cells #[.int .i64 x.id, .int .i64 x.due] 40))
  clear hr hm
  go_enter Try.func54, Try.ntmps54
  go_wp2
  go_loopw [9, 10] (fun vi vj W => ∃ i j : Nat, i ≤ j ∧ j ≤ l.length ∧ vi = .int .i64 i ∧ vj = .int .i64 j ∧ Hid ((∀ k (h : k < l.length), k < i → ordT l[k] x < 0) ∧ (∀ k (h : k < l.length), j ≤ k → 0 ≤ ordT l[k] x)) ∧ Below w.heap.size w W ∧ Hid (W.heap[w.heap.size]? = some (.cells #[.int .i64 x.id, .int .i64 x.due] 40 (0, 0)))) (fun vi vj _ => (intOf vj).toNat - (intOf vi).toNat)
  case atStart => exact ⟨0, l.length, Nat.zero_le _, Nat.le_refl _, rfl, rfl, hide ⟨fun k h hk => absurd hk (by omega), fun k h hk => by omega⟩, q0, B0⟩
  case round =>
    obtain ⟨i, j, hij, hj, rfl, rfl, hs, q, hB⟩ := hrel
    by_cases hlt : i < j
    · obtain ⟨h, hh⟩ : ∃ h, h = (i + j) / 2 := ⟨_, rfl⟩
      have hih : i ≤ h := by omega
      have hhj : h < j := by omega
      have hhl : h < l.length := by omega
      obtain ⟨b, off, rfl, _⟩ := HR.out.at_ hhl
      have hi1 : (h : Int) < (l.length : Int) := by omega
      have hi3 : (0 : Int) ≤ (h : Int) := by omega
      have RD := (TmR.next HR.out q q.size)
      have mj := TmR.all RD (Nat.le_refl _) hhl
      have mb := fun s : InW wr => tmBox_s hB.out s
      have zb : w.heap.size < wr.heap.size := heap_lt hB.out
      have hdiv : ((i : Int) + (j : Int)) / 2 = (h : Int) := by omega
      have HD := hide hdiv
      clear hdiv RD
      by_cases ho : ordT l[h] x < 0
      · have hS := hide (show (∀ k (hk : k < l.length), k < h + 1 → ordT l[k] x < 0) ∧ (∀ k (hk : k < l.length), j ≤ k → 0 ≤ ordT l[k] x) from
          ⟨fun k hk hkh => HM.out k h hk hhl (by omega) ho, hs.out.2⟩)
        have ho' : decide (ordT l[h] x < 0) = true := decide_eq_true ho
        clear ho
        have hh2 := hide hh
        clear hh
        go_wp2_with fail
        rw [HD.out]
        refine wp_region_tame (by kernel_rfl) (by kernel_rfl) ?_
        repeat (go_big_quiet_step (first | (go_at_call 55; exact tame_of (O.out _ _))))
        refine wpQuiet_nil ?_
        rintro _ ⟨s, rfl⟩
        have qs := q.trans (s.h.mono q.size)
        have bs := hide (heap_below hB.out s.h)
        clear mj mb
        go_wp2
        go_roundw
        case rel => exact ⟨h + 1, j, by omega, by omega, by go_num, rfl, hS, qs, bs⟩
        case measure => simp [intOf]; omega
      · have hS := hide (show (∀ k (hk : k < l.length), k < i → ordT l[k] x < 0) ∧ (∀ k (hk : k < l.length), h ≤ k → 0 ≤ ordT l[k] x) from
          ⟨hs.out.1, fun k hk hkh => Int.not_lt.1 fun hn => ho (HM.out h k hhl hk (by omega) hn)⟩)
        have ho' : decide (ordT l[h] x < 0) = false := decide_eq_false ho
        clear ho
        have hh2 := hide hh
        clear hh
        go_wp2_with fail
        rw [HD.out]
        refine wp_region_tame (by kernel_rfl) (by kernel_rfl) ?_
        repeat (go_big_quiet_step (first | (go_at_call 55; exact tame_of (O.out _ _))))
        refine wpQuiet_nil ?_
        rintro _ ⟨s, rfl⟩
        have qs := q.trans (s.h.mono q.size)
        have bs := hide (heap_below hB.out s.h)
        clear mj mb
        go_wp2
        go_roundw
        case rel => exact ⟨i, h, by omega, by omega, rfl, rfl, hS, qs, bs⟩
        case measure => simp [intOf]; omega
    · obtain rfl : i = j := by omega
      have mb := fun s : InW wr => tmBox_s hB.out s
      have zb : w.heap.size < wr.heap.size := heap_lt hB.out
      by_cases hil : i < l.length
      · obtain ⟨b, off, rfl, _⟩ := HR.out.at_ hil
        have hi1 : (i : Int) < (l.length : Int) := by omega
        have hi3 : (0 : Int) ≤ (i : Int) := by omega
        have mj := TmR.all (TmR.next HR.out q q.size) (Nat.le_refl _) hil
        have hd : decide ((i : Int) < (l.length : Int)) = true := by rw [decide_eq_true_eq]; omega
        have hd' : decide (i < l.length) = true := by rw [decide_eq_true_eq]; omega
        obtain ⟨y, hy⟩ : ∃ y, y = ordT l[i] x := ⟨_, rfl⟩
        have O1 := hide (fun W => O.out l[i] W)
        rw [← hy] at O1
        clear hy hij hlt
        go_wp2_with fail
        refine wp_region_tame (by kernel_rfl) (by kernel_rfl) ?_
        repeat (go_big_quiet_step (first | (go_at_call 55; exact tame_of (O1.out _))))
        refine wpQuiet_nil ?_
        rintro _ ⟨s, rfl⟩
        have qs := q.trans (s.h.mono q.size)
        clear mj mb
        go_wp2
        go_ret2
        exact ⟨i, _, rfl, hj, hs.out.1, hs.out.2, qs⟩
      · have hd : decide ((i : Int) < (l.length : Int)) = false := by rw [decide_eq_false_iff_not]; omega
        have hd' : decide (i < l.length) = false := by rw [decide_eq_false_iff_not]; omega
        clear hij hlt
        go_wp2_with fail
        refine wp_region_tame (by kernel_rfl) (by kernel_rfl) ?_
        repeat (go_big_quiet_step (fail))
        refine wpQuiet_nil ?_
        rintro _ ⟨s, rfl⟩
        have qs := q.trans (s.h.mono q.size)
        clear mb
        go_wp2
        go_ret2
        exact ⟨i, _, rfl, hj, hs.out.1, hs.out.2, qs⟩
end Go.Proofs.Ytnfpbbgajabjkaa
