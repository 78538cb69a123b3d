/- is of package 09. -/
import Derived.Test.YtbdgifngldipcaaBcC
import Derived.Test.YtbdgifngldipcaaBcE
import Derived.Test.YtbdgifngldipcaaBcF
namespace Go.Proofs.Ytbdgifngldipcaa
open Go.ChangeShapes Go.WideShapes Go.ChangeAt Go.RowKit
open FP (Fr)
open HP (kB at' Hp)

theorem right_goodP {l : List Bx} {seq cap : Int} (h : rightBx l seq cap = true) : goodP l ∧ neP l ∧ Hp l 0 l.length ∧ l.length ≤ 8 := by
  obtain ⟨_, h1, h2, _, _, h3, h4, h5⟩ := right_iff.1 h
  exact ⟨fun x hx => (h3 x hx).1, h4, h5, by omega⟩

set_option maxRecDepth 100000 in
set_option maxHeartbeats 4000000 in
theorem is9_any (lb : List Bx) (n : Nat) (A : Option Addr) (c : Nat) (seq cap : Int) (l : List Bx) (m : Nat) (A2 : Option Addr) (c2 : Nat) (w : World) (hn : n = lb.length) (hm : m = l.length) (hr : BxR w w.heap.size A lb) (hc : n ≤ c) (hr2 : BxR w w.heap.size A2 l) (hid : ∀ x ∈ lb, x.f.id < 4294967296)
    (hR : rightBx lb seq cap = true) (hp : lb.Perm l) :
    Calls Try.prog 43 #[.agg #[.slice A n c, .int .i64 seq, .int .i64 cap], .slice A2 m c2, .int .i64 seq, .int .i64 cap] w fun e w' => e = .returned (.bool true) ∧ Below w.heap.size w w' := by
  obtain ⟨hg, hne, _, h8⟩ := right_goodP hR
  have hgl := hg.perm hp
  have hml : m = n := by rw [hm, hn, hp.length_eq]
  have hn8 : n ≤ 8 := by omega
  have hl8 : l.length ≤ 8 := by rw [← hp.length_eq]; exact h8
  have RR := hide (fun W (q : Below w.heap.size w W) => by have := refRight9_any lb A c seq cap W (BxR.next hr q q.size) (by omega) hid; rw [hR, ← hn] at this; exact this)
  have RI := hide (fun W (q : Below w.heap.size w W) => by have := bxRight_any lb A c seq cap W (BxR.next hr q q.size) (by omega) (by omega) hid; rw [hR, ← hn] at this; exact this)
  have S1 := hide (fun W (q : Below w.heap.size w W) => by have := sorted9_any lb A c W (BxR.next hr q q.size) (by omega) hg; unfold RowB1 at this; rw [← hn, sortB_len, ← hn] at this; exact this)
  have S2 := hide (fun W (q : Below w.heap.size w W) => by have := sorted9_any l A2 c2 W (BxR.next hr2 q q.size) (by omega) hgl; unfold RowB1 at this; rw [← hm, sortB_len, ← hm, ← sortB_eq hp hg hne] at this; exact this)
  have SM := hide (fun W B1 c3 B2 c4 (h1 : BxR W W.heap.size B1 (sortB lb)) (h2 : BxR W W.heap.size B2 (sortB lb)) => by have := same9 (sortB lb) B1 c3 B2 c4 W h1 h2 (by rw [sortB_len]; omega); rw [sortB_len, ← hn] at this; exact this)
  subst hml
  have B0 := hide (World.alloc_heap_new w (.cells #[.slice A m c, .int .i64 seq, .int .i64 cap] 65))
  have q0 : Below w.heap.size w (w.alloc (.cells #[.slice A m c, .int .i64 seq, .int .i64 cap] 65)) := (Below.refl _ _).alloc (Nat.le_refl _) _
  clear hn hm hr hr2 hid hR hp hg hne h8 hgl hl8
  go_enter Try.func43, Try.ntmps43
  go_wp2_with fail
  (with_reducible refine (RR.out _ q0).mono ?_)
  rintro e1 w1 ⟨rfl, q1⟩
  have Q1 := below_next q0 q0.size q1
  have B1 := hide (heap_below B0.out q1)
  have z1 : w.heap.size < w1.heap.size := heap_lt B1.out
  obtain ⟨x0, x1, x2⟩ := three_cells B1.out
  clear B0 q0 q1
  go_wp2_with fail
  (with_reducible refine (RI.out _ Q1).mono ?_)
  rintro e2 w2 ⟨rfl, q2⟩
  have Q2 := below_next Q1 Q1.size q2
  have B2 := hide (heap_below B1.out q2)
  have z2 : w.heap.size < w2.heap.size := heap_lt B2.out
  clear B1 q2 x0 x1 x2
  obtain ⟨x0, x1, x2⟩ := three_cells B2.out
  go_wp2_with fail
  (with_reducible refine (S1.out _ Q2).mono ?_)
  rintro e3 w3 ⟨A3, c3, rfl, r3, hc3, q3⟩
  have Q3 := below_next Q2 Q2.size q3
  have B3 := hide (heap_below B2.out q3)
  have z3 : w.heap.size < w3.heap.size := heap_lt B3.out
  have R3 := hide r3
  clear B2 q3 x0 x1 x2 r3
  go_wp2_with fail
  (with_reducible refine (S2.out _ Q3).mono ?_)
  rintro e4 w4 ⟨A4, c4, rfl, r4, hc4, q4⟩
  have Q4 := below_next Q3 Q3.size q4
  have B4 := hide (heap_below B3.out q4)
  have z4 : w.heap.size < w4.heap.size := heap_lt B4.out
  have S5 := hide (SM.out w4 A3 c3 A4 c4 (BxR.next R3.out q4 q4.size) r4)
  clear B3 q4 r4 R3
  go_wp2_with fail
  (with_reducible refine S5.out.mono ?_)
  rintro e5 w5 ⟨rfl, q5⟩
  have Q5 := below_next Q4 Q4.size q5
  have B5 := hide (heap_below B4.out q5)
  have z5 : w.heap.size < w5.heap.size := heap_lt B5.out
  obtain ⟨x0, x1, x2⟩ := three_cells B5.out
  clear q5 S5 B4
  go_wp2_with fail
  go_ret
  exact ⟨rfl, Q5⟩
end Go.Proofs.Ytbdgifngldipcaa
