/- The reference's Due and With; is. -/
import Derived.Test.YtnfpbbgajabjkaaTmL
namespace Go.Proofs.Ytnfpbbgajabjkaa
open Go.ChangeShapes Go.WideShapes Go.ChangeAt Go.RowKit

def dueL (t : Int) (l : List Tm) : List Tm := l.filter fun x => x.due == t
def restL (t : Int) (l : List Tm) : List Tm := l.filter fun x => !(x.due == t)
theorem due_snoc {t : Int} {l : List Tm} {k : Nat} (hk : k < l.length) : dueL t (l.take (k + 1)) = (if (l[k].due == t) = true then dueL t (l.take k) ++ [l[k]] else dueL t (l.take k)) ∧ restL t (l.take (k + 1)) = (if (l[k].due == t) = true then restL t (l.take k) else restL t (l.take k) ++ [l[k]]) := by
  unfold dueL restL
  rw [List.take_succ_eq_append_getElem hk, List.filter_append, List.filter_append]
  cases h : l[k].due == t <;> simp [h]

def DueV (t : Int) (l : List Tm) (w : World) (e : Ending) (w' : World) : Prop :=
  ∃ Ao co A c, e = .returned (.tuple #[.slice Ao (dueL t l).length co, .slice A (restL t l).length c]) ∧ Rd w' w'.heap.size Ao 1 (idRows (dueL t l)) ∧ TmR w' w'.heap.size A (restL t l) ∧ (restL t l).length ≤ c ∧ Below w.heap.size w w'
/-- When k have been gone through. -/
structure DuR (t : Int) (l : List Tm) (w : World) (k n m : Nat) (Ao : Option Addr) (co : Nat) (A : Option Addr) (c : Nat) (W : World) : Prop where
  ln : (dueL t (l.take k)).length = n
  lm : (restL t (l.take k)).length = m
  oi : Own W w.heap.size 3 1 Ao co (idRows (dueL t (l.take k)))
  ot : Own W w.heap.size 40 2 A c ((restL t (l.take k)).map tmc)

set_option maxRecDepth 100000 in
set_option maxHeartbeats 2000000 in
theorem refDue_any (l : List Tm) (A0 : Option Addr) (c0 : Nat) (t : Int) (w : World) (hr : TmR w w.heap.size A0 l) (hl : l.length ≤ 1000) :
    Calls Try.prog 22 #[.slice A0 l.length c0, .int .i64 t] w (DueV t l w) := by
  have HR := hide hr
  have O0 := hide ((Own.lit w w.heap.size 3 1 [] (Nat.le_refl _) (by simp) (by simp)).alloc (.cells #[] 40))
  have O1 := hide (Own.lit (w.alloc (.cells #[] 3)) w.heap.size 40 2 [] (by simp) (by simp) (by simp))
  have q0 : Below w.heap.size w ((w.alloc (.cells #[] 3)).alloc (.cells #[] 40)) := ((Below.refl _ _).alloc (Nat.le_refl _) _).alloc (by simp) _
  clear hr
  go_enter Try.func22, Try.ntmps22
  go_wp2
  go_loopw [14, 6, 7] (fun i vo vt W => ∃ (k n m : Nat) (Ao : Option Addr) (co : Nat) (A : Option Addr) (c : Nat), k ≤ l.length ∧ i = .int .i64 k ∧ vo = .slice Ao n co ∧ vt = .slice A m c ∧ n ≤ k ∧ m ≤ k ∧ Hid (DuR t l w k n m Ao co A c W) ∧ Below w.heap.size w W) (fun i _ _ _ => l.length - (intOf i).toNat)
  case atStart => exact ⟨0, 0, 0, _, 0, _, 0, Nat.zero_le _, rfl, rfl, rfl, Nat.le_refl _, Nat.le_refl _, hide ⟨rfl, rfl, O0.out, by have := O1.out; simpa [restL] using this⟩, q0⟩
  case round =>
    obtain ⟨k, n, m, Ao, co, A, c, hk, rfl, rfl, rfl, hn, hm, hD, q⟩ := hrel
    have zb : w.heap.size ≤ wr.heap.size := q.size
    by_cases hlt : k < l.length
    · obtain ⟨b, off, rfl, hbs, c0, c1⟩ := (TmR.next HR.out q q.size).at_ hlt
      have SN := hide (due_snoc (t := t) hlt)
      have qa : Below wr.heap.size wr (wr.alloc (.cells #[.int .i64 l[k].id, .int .i64 l[k].due] 40)) := (Below.refl _ _).alloc (Nat.le_refl _) _
      have qw := below_next q q.size qa
      rcases hb : l[k].due == t with _ | _
      · have OT := hide ((hD.out.ot.alloc (.cells #[.int .i64 l[k].id, .int .i64 l[k].due] 40)).alloc (.cells #[.int .i64 l[k].id, .int .i64 l[k].due] 40))
        have OI := hide ((hD.out.oi.alloc (.cells #[.int .i64 l[k].id, .int .i64 l[k].due] 40)).alloc (.cells #[.int .i64 l[k].id, .int .i64 l[k].due] 40))
        have R6 := hide (fun t => rd_row (cs := [.int .i64 l[k].id, .int .i64 l[k].due]) (World.alloc_heap_new (wr.alloc (.cells #[.int .i64 l[k].id, .int .i64 l[k].due] 40)) (.cells #[.int .i64 l[k].id, .int .i64 l[k].due] t)))
        have E1 := hide (show (((restL t (l.take k)).map tmc).length + [([.int .i64 l[k].id, .int .i64 l[k].due] : List Value)].length) * 16 ≤ 140737488355328 by rw [List.length_map, hD.out.lm]; simp; omega)
        have E2 := hide (show ((restL t (l.take k)).map tmc).length + [([.int .i64 l[k].id, .int .i64 l[k].due] : List Value)].length ≤ maxLen by rw [List.length_map, hD.out.lm]; simp [maxLen]; omega)
        have E3 := hide (show m = ((restL t (l.take k)).map tmc).length by rw [List.length_map, hD.out.lm])
        rw [hb] at SN
        go_wp2_with (at_builtin; refine wpList_append_rows _ rfl _ _ 22 rfl slTm w.heap.size _ _ _ ((restL t (l.take k)).map tmc) (by rfl) (by exact OT.out) _ _ _ [[.int .i64 l[k].id, .int .i64 l[k].due]] (by rfl) (by simpa using R6.out _) (by simp) (by simp [Value.oneCell']) (by exact E1.out) (by exact E2.out) (by simp; omega) (by exact E3.out) (by rfl) ?_)
        intro A6 c6 W6 o6 g6
        have q6 := below_append (qw.alloc qw.size (.cells #[.int .i64 l[k].id, .int .i64 l[k].due] 40)) g6 OT.out (Nat.le_refl _) (by have := qw.size; simp; omega)
        have NX : Hid (DuR t l w (k + 1) n (m + 1) Ao co A6 c6 W6) := by
          obtain ⟨e1, e2⟩ := SN.out
          rw [if_neg (by simp)] at e1 e2
          exact hide ⟨by rw [e1]; exact hD.out.ln, by rw [e2, List.length_append, hD.out.lm]; rfl, by rw [e1]; exact own_apartT OI.out OT.out (by decide) g6, by rw [e2, List.map_append]; exact o6⟩
        clear o6 g6 OT OI R6 E1 E2 E3 hD SN c0 c1
        go_wp2
        go_roundw
        case rel => exact ⟨k + 1, n, m + 1, Ao, co, A6, c6, by omega, by go_num, rfl, rfl, by omega, by omega, NX, q6⟩
        case measure => simp [intOf]; omega
      · have OT := hide ((hD.out.ot.alloc (.cells #[.int .i64 l[k].id, .int .i64 l[k].due] 40)).alloc (.cells #[.int .i64 l[k].id] 3))
        have OI := hide ((hD.out.oi.alloc (.cells #[.int .i64 l[k].id, .int .i64 l[k].due] 40)).alloc (.cells #[.int .i64 l[k].id] 3))
        have R6 := hide (fun t => rd_row (cs := [.int .i64 l[k].id]) (World.alloc_heap_new (wr.alloc (.cells #[.int .i64 l[k].id, .int .i64 l[k].due] 40)) (.cells #[.int .i64 l[k].id] t)))
        have E1 := hide (show ((idRows (dueL t (l.take k))).length + [([.int .i64 l[k].id] : List Value)].length) * 8 ≤ 140737488355328 by rw [idRows_len, hD.out.ln]; simp; omega)
        have E2 := hide (show (idRows (dueL t (l.take k))).length + [([.int .i64 l[k].id] : List Value)].length ≤ maxLen by rw [idRows_len, hD.out.ln]; simp [maxLen]; omega)
        have E3 := hide (show n = (idRows (dueL t (l.take k))).length by rw [idRows_len, hD.out.ln])
        rw [hb] at SN
        go_wp2_with (at_builtin; refine wpList_append_rows _ rfl _ _ 32 rfl slInt w.heap.size _ _ _ (idRows (dueL t (l.take k))) (by rfl) (by exact OI.out) _ _ _ [[.int .i64 l[k].id]] (by rfl) (by simpa using R6.out _) (by simp) (by simp [Value.oneCell']) (by exact E1.out) (by exact E2.out) (by simp; omega) (by exact E3.out) (by rfl) ?_)
        intro A6 c6 W6 o6 g6
        have q6 := below_append (qw.alloc qw.size (.cells #[.int .i64 l[k].id] 3)) g6 OI.out (Nat.le_refl _) (by have := qw.size; simp; omega)
        have NX : Hid (DuR t l w (k + 1) (n + 1) m A6 c6 A c W6) := by
          obtain ⟨e1, e2⟩ := SN.out
          first | (rw [if_pos rfl] at e1 e2) | (simp only [if_true] at e1 e2)
          have ei : idRows (dueL t (l.take (k + 1))) = idRows (dueL t (l.take k)) ++ [[.int .i64 l[k].id]] := by rw [e1]; unfold idRows; rw [List.map_append]; rfl
          exact hide ⟨by rw [e1, List.length_append, hD.out.ln]; rfl, by rw [e2]; exact hD.out.lm, by rw [ei]; exact o6, by rw [e2]; exact own_apartT OT.out OI.out (by decide) g6⟩
        clear o6 g6 OT OI R6 E1 E2 E3 hD SN c0 c1
        go_wp2
        go_roundw
        case rel => exact ⟨k + 1, n + 1, m, A6, c6, A, c, by omega, by go_num, rfl, rfl, by omega, by omega, NX, q6⟩
        case measure => simp [intOf]; omega
    · have hkl : k = l.length := by omega
      have e : l.take k = l := by rw [hkl, List.take_length]
      obtain ⟨d1, d2, d3, d4⟩ := hD.out
      rw [e] at d1 d2 d3 d4
      have F := hide (And.intro d1 (And.intro d2 (And.intro d3 d4)))
      clear d1 d2 d3 d4 hD e hkl
      go_wp2
      go_ret2
      exact ⟨Ao, co, A, c, by rw [F.out.1, F.out.2.1]; rfl, F.out.2.2.1.rd (idRows_rows _), F.out.2.2.2.rd (tmc_rows _), by have := F.out.2.2.2.le; simpa using this, q⟩

set_option maxRecDepth 100000 in
set_option maxHeartbeats 1000000 in
theorem is13_any (now : Int) (l : List Tm) (n : Nat) (A : Option Addr) (c : Nat) (B : Option Addr) (d : Nat) (w : World) (hn : n = l.length) (hA : TmR w w.heap.size A l) (hB : TmR w w.heap.size B l) (hl : l.length ≤ 1000) :
    Calls Try.prog 20 #[.agg #[.int .i64 now, .slice A n c], .int .i64 now, .slice B n d] w fun e w' => e = .returned (.bool true) ∧ Below w.heap.size w w' := by
  subst hn
  have q0 : Below w.heap.size w (w.alloc (.cells #[.int .i64 now, .slice A l.length c] 24)) := (Below.refl _ _).alloc (Nat.le_refl _) _
  have SM := hide (same13 l A c B d _ (TmR.next hA q0 q0.size) (TmR.next hB q0 q0.size) hl)
  clear hA hB
  go_enter Try.func20, Try.ntmps20
  go_wp2_with fail
  (with_reducible refine SM.out.mono ?_)
  rintro e1 w1 ⟨rfl, q1⟩
  have q := below_next q0 q0.size q1
  go_wp2
  go_ret
  exact ⟨rfl, q⟩
end Go.Proofs.Ytnfpbbgajabjkaa
