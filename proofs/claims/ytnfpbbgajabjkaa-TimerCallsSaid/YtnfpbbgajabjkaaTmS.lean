/- TimerStops. -/
import Derived.Test.YtnfpbbgajabjkaaTmJ
namespace Go.Proofs.Ytnfpbbgajabjkaa
open Go.ChangeShapes Go.WideShapes Go.ChangeAt Go.RowKit

/-- No row of timers lies where timers lie. -/
theorem tmr_ne {W : World} {B9 : Nat} {k : IntKind} {i : Int} {A' : Option Addr} {n' c' : Nat} {t : TypeId} {fz : Nat × Nat} (hb : W.heap[B9]? = some (.cells #[.int k i, .slice A' n' c'] t fz)) {B : Nat} {A : Option Addr} {l : List Tm} (hl : 0 < l.length) (h : TmR W B A l) :
    ∀ g off, A = some ⟨g, off, none⟩ → g ≠ B9 := by
  rintro g off rfl rfl
  obtain ⟨_, c0, c1⟩ := h.at2 hl
  simp only [Nat.zero_mul, Nat.add_zero] at c0 c1
  rcases off with _ | _ | off
  · simp [World.cell?, hb] at c1
  · simp [World.cell?, hb] at c0
  · simp [World.cell?, hb] at c0
theorem tmr_set {W : World} {B9 : Nat} {k : IntKind} {i : Int} {A' : Option Addr} {n' c' : Nat} {t : TypeId} {fz : Nat × Nat} (hb : W.heap[B9]? = some (.cells #[.int k i, .slice A' n' c'] t fz)) {A : Option Addr} {l : List Tm} (h : TmR W W.heap.size A l) (vs : List Value) (o : Nat) :
    TmR (W.setCells B9 o vs) (W.setCells B9 o vs).heap.size A l := by
  rcases Nat.eq_zero_or_pos l.length with h0 | h0
  · have : l = [] := List.length_eq_zero_iff.1 h0
    subst this
    exact Rd.nil
  · exact rd_setCells (tmr_ne hb h0 h) vs o W h

/-- Timers, n of them, and an answer. -/
def SetN (now : Int) (n : Nat) (l : List Tm) (w : World) (e : Ending) (w' : World) : Prop :=
  ∃ A c, e = .returned (.tuple #[.agg #[.int .i64 now, .slice A n c], .int .i64 0]) ∧ TmR w' w'.heap.size A l ∧ n ≤ c ∧ Below w.heap.size w w'
def StopN (now : Int) (b : Bool) (w : World) (e : Ending) (w' : World) : Prop :=
  ∃ A c, e = .returned (.tuple #[.agg #[.int .i64 now, .slice A 0 c], .bool b, .int .i64 0]) ∧ Below w.heap.size w w'
def TickN (now : Int) (n d : Nat) (l : List Tm) (id : Int) (w : World) (e : Ending) (w' : World) : Prop :=
  ∃ A c Ao co, e = .returned (.tuple #[.agg #[.int .i64 now, .slice A n c], .slice Ao d co, .int .i64 0]) ∧ TmR w' w'.heap.size A l ∧ n ≤ c ∧ (0 < d → ∃ g, Ao = some ⟨g, 0, none⟩ ∧ g < w'.heap.size ∧ w'.cell? ⟨g, 0, none⟩ = some (.int .i64 id)) ∧ Below w.heap.size w w'

theorem right_nil {now : Int} (h0 : 0 ≤ now) (h1 : now ≤ 1099511627776) : rightTm now [] = true := rightTm_iff.2 ⟨h0, h1, by simp, srtB_iff.2 (fun k h _ => by simp at h), fun k h _ => by simp at h⟩
theorem right_one {now id due : Int} (h0 : 0 ≤ now) (h1 : now ≤ 1099511627776) (i0 : 0 ≤ id) (i1 : id ≤ 1000000) (d0 : now < due) (d1 : due ≤ now + 1000000) : rightTm now [⟨id, due⟩] = true :=
  rightTm_iff.2 ⟨h0, h1, by simp, srtB_iff.2 (fun k h _ => by simp at h), fun k h _ => by
    have hk : k = 0 := by simp at h; omega
    subst hk
    unfold okTm
    simp
    omega⟩

theorem set_none (now id after : Int) (A : Option Addr) (c : Nat) (w : World) (n0 : 0 ≤ now) (n1 : now ≤ 1099511627776) (h0 : 0 ≤ id) (h1 : id ≤ 1000000) (h2 : 1 ≤ after) (h3 : after ≤ 1000000) :
    Calls Try.prog 13 #[.agg #[.int .i64 now, .slice A 0 c], .int .i64 id, .int .i64 after] w (SetN now 1 [⟨id, now + after⟩] w) := by
  refine (set_ok now [] A c id after w Rd.nil (Nat.zero_le _) (right_nil n0 n1) h0 h1 h2 h3 (by simp [withoutTm])).mono ?_
  rintro e w' ⟨A', c', rfl, r, hc, q⟩
  exact ⟨A', c', rfl, r, hc, q⟩
theorem set_again (now id due after : Int) (A : Option Addr) (c : Nat) (w : World) (hr : TmR w w.heap.size A [⟨id, due⟩]) (hc : 1 ≤ c) (n0 : 0 ≤ now) (n1 : now ≤ 1099511627776) (h0 : 0 ≤ id) (h1 : id ≤ 1000000) (d0 : now < due) (d1 : due ≤ now + 1000000) (h2 : 1 ≤ after) (h3 : after ≤ 1000000) :
    Calls Try.prog 13 #[.agg #[.int .i64 now, .slice A 1 c], .int .i64 id, .int .i64 after] w (SetN now 1 [⟨id, now + after⟩] w) := by
  have hw : withoutTm id [⟨id, due⟩] = [] := by simp [withoutTm]
  refine (set_ok now [⟨id, due⟩] A c id after w hr hc (right_one n0 n1 h0 h1 d0 d1) h0 h1 h2 h3 (by rw [hw]; simp)).mono ?_
  rintro e w' ⟨A', c', rfl, r, hc, q⟩
  rw [hw] at r hc ⊢
  exact ⟨A', c', rfl, r, hc, q⟩
theorem stop_one (now id due : Int) (A : Option Addr) (c : Nat) (w : World) (hr : TmR w w.heap.size A [⟨id, due⟩]) (hc : 1 ≤ c) (n0 : 0 ≤ now) (n1 : now ≤ 1099511627776) (h0 : 0 ≤ id) (h1 : id ≤ 1000000) (d0 : now < due) (d1 : due ≤ now + 1000000) :
    Calls Try.prog 14 #[.agg #[.int .i64 now, .slice A 1 c], .int .i64 id] w (StopN now true w) := by
  have hw : withoutTm id [⟨id, due⟩] = [] := by simp [withoutTm]
  refine (stop_ok now [⟨id, due⟩] A c id w hr (by simp) hc (fun x hx => by rw [List.mem_singleton.1 hx]; show due ≤ _; omega) (right_one n0 n1 h0 h1 d0 d1)).mono ?_
  rintro e w' ⟨A', c', rfl, _, _, q⟩
  rw [hw]
  exact ⟨A', c', rfl, q⟩
theorem left_one (now id due : Int) (A : Option Addr) (c : Nat) (w : World) (hr : TmR w w.heap.size A [⟨id, due⟩]) (hc : 1 ≤ c) (n0 : 0 ≤ now) (n1 : now ≤ 1099511627776) (h0 : 0 ≤ id) (h1 : id ≤ 1000000) (d0 : now < due) (d1 : due ≤ now + 1000000) :
    Calls Try.prog 15 #[.agg #[.int .i64 now, .slice A 1 c], .int .i64 id] w fun e w' => e = .returned (.tuple #[.int .i64 (due - now), .int .i64 0]) ∧ Below w.heap.size w w' := by
  refine (left_ok now [⟨id, due⟩] A c id w hr hc (right_one n0 n1 h0 h1 d0 d1)).mono ?_
  rintro e w' ⟨⟨hx, _⟩ | ⟨i, hi, _, rfl⟩, q⟩
  · have := (idxTm_nonneg (fun x => x.id == id) [⟨id, due⟩]).2 (by simp)
    omega
  · have : i = 0 := by simp at hi; omega
    subst this
    exact ⟨rfl, q⟩
theorem left_none (now id : Int) (A : Option Addr) (c : Nat) (w : World) (n0 : 0 ≤ now) (n1 : now ≤ 1099511627776) :
    Calls Try.prog 15 #[.agg #[.int .i64 now, .slice A 0 c], .int .i64 id] w fun e w' => e = .returned (.tuple #[.int .i64 0, .int .i64 21]) ∧ Below w.heap.size w w' := by
  refine (left_ok now [] A c id w Rd.nil (Nat.zero_le _) (right_nil n0 n1)).mono ?_
  rintro e w' ⟨⟨_, rfl⟩ | ⟨i, hi, _, _⟩, q⟩
  · exact ⟨rfl, q⟩
  · simp at hi
theorem tick_none (now id : Int) (A : Option Addr) (c : Nat) (w : World) (n0 : 0 ≤ now) (n1 : now < 1099511627776) :
    Calls Try.prog 16 #[.agg #[.int .i64 now, .slice A 0 c]] w (TickN (now + 1) 0 0 [] id w) := by
  refine (tick_ok now [] A c w Rd.nil (Nat.zero_le _) (right_nil n0 (by omega)) n1).mono ?_
  rintro e w' ⟨A', c', Ao, co, rfl, r, hc, o, q⟩
  exact ⟨A', c', Ao, co, rfl, Rd.nil, Nat.zero_le _, fun h => absurd h (by omega), q⟩
theorem tick_wait (now id due : Int) (A : Option Addr) (c : Nat) (w : World) (hr : TmR w w.heap.size A [⟨id, due⟩]) (hc : 1 ≤ c) (n0 : 0 ≤ now) (n1 : now < 1099511627776) (h0 : 0 ≤ id) (h1 : id ≤ 1000000) (d0 : now + 1 < due) (d1 : due ≤ now + 1000000) :
    Calls Try.prog 16 #[.agg #[.int .i64 now, .slice A 1 c]] w (TickN (now + 1) 1 0 [⟨id, due⟩] id w) := by
  have hd : dueN (now + 1) [⟨id, due⟩] = 0 := dueN_eq (Nat.zero_le _) (fun k _ h => absurd h (by omega)) (.inr ⟨by simp, by show due ≠ _; omega⟩)
  refine (tick_ok now [⟨id, due⟩] A c w hr hc (right_one n0 (by omega) h0 h1 (by omega) d1) n1).mono ?_
  rintro e w' ⟨A', c', Ao, co, rfl, r, hc, o, q⟩
  rw [hd] at r hc ⊢
  exact ⟨A', c', Ao, co, rfl, r, hc, fun h => absurd h (by omega), q⟩
theorem tick_due (now id due : Int) (A : Option Addr) (c : Nat) (w : World) (hr : TmR w w.heap.size A [⟨id, due⟩]) (hc : 1 ≤ c) (n0 : 0 ≤ now) (n1 : now < 1099511627776) (h0 : 0 ≤ id) (h1 : id ≤ 1000000) (d0 : now + 1 = due) :
    Calls Try.prog 16 #[.agg #[.int .i64 now, .slice A 1 c]] w (TickN (now + 1) 0 1 [] id w) := by
  have hd : dueN (now + 1) [⟨id, due⟩] = 1 := dueN_eq (by simp) (fun k hk _ => by
    have : k = 0 := by simp at hk; omega
    subst this
    exact d0.symm) (.inl (by simp))
  refine (tick_ok now [⟨id, due⟩] A c w hr hc (right_one n0 (by omega) h0 h1 (by omega) (by omega)) n1).mono ?_
  rintro e w' ⟨A', c', Ao, co, rfl, r, hc, o, q⟩
  rw [hd] at r hc o ⊢
  refine ⟨A', c', Ao, co, rfl, Rd.nil, Nat.zero_le _, fun _ => ?_, q⟩
  obtain ⟨g, rfl, _, hg⟩ := o.ofLen (by simp [idRows])
  refine ⟨g, rfl, hg, ?_⟩
  have := own_at o (idRows_rows _) (k := 0) (j := 0) (row := [.int .i64 id]) (v := .int .i64 id) (by simp [idRows]) rfl
  simpa using this

set_option maxRecDepth 100000 in
set_option maxHeartbeats 1000000 in
theorem alive13_any (w : World) : Calls Try.prog 19 #[] w fun e w' => e = .returned (.bool true) ∧ Below w.heap.size w w' := by
  have SE := hide (fun W => set_none 0 7 2 none 0 W (by omega) (by omega) (by omega) (by omega) (by omega) (by omega))
  have LE := hide (fun A c W h hc => left_one 0 7 (0 + 2) A c W h hc (by omega) (by omega) (by omega) (by omega) (by omega) (by omega))
  go_enter Try.func19, Try.ntmps19
  go_wp2_with fail
  (with_reducible refine (SE.out _).mono ?_)
  rintro e1 w1 ⟨A1, c1, rfl, r1, hc1, q1⟩
  have qa : Below w1.heap.size w1 (w1.alloc (.cells #[.int .i64 0, .slice A1 1 c1] 24)) := (Below.refl _ _).alloc (Nat.le_refl _) _
  have LF := hide (LE.out A1 c1 _ (TmR.next r1 qa qa.size) hc1)
  have Q2 := below_next q1 q1.size qa
  clear r1 qa
  go_wp2_with fail
  (with_reducible refine LF.out.mono ?_)
  rintro e2 w2 ⟨rfl, q2⟩
  have Q3 := below_next Q2 Q2.size q2
  go_wp2
  go_ret
  exact ⟨rfl, Q3⟩

/-- What runs at i. -/
def LT (st : Bool) (I T : Int) (i : Nat) : List Tm := if st = false ∧ (i : Int) < T then [⟨I, T⟩] else []
structure StR (st : Bool) (I T : Int) (w : World) (B9 i n : Nat) (A : Option Addr) (c : Nat) (W : World) : Prop where
  box : W.heap[B9]? = some (.cells #[.int .i64 i, .slice A n c] 24 (0, 0))
  rd : TmR W W.heap.size A (LT st I T i)
  len : (LT st I T i).length = n
  cap : n ≤ c
  q : Below w.heap.size w W
theorem StR.below {st : Bool} {I T : Int} {w : World} {B9 i n : Nat} {A : Option Addr} {c : Nat} {W W' : World} (h : StR st I T w B9 i n A c W) (hb : Below W.heap.size W W') : StR st I T w B9 i n A c W' :=
  ⟨heap_below h.box hb, TmR.next h.rd hb hb.size, h.len, h.cap, below_next h.q h.q.size hb⟩

set_option maxRecDepth 100000 in
set_option maxHeartbeats 4000000 in
theorem stops_true (id first th : Int) (w : World) : Calls Try.prog 5 #[.int .i64 id, .int .i64 first, .int .i64 th, .bool true] w fun e w' => e = .returned (.bool true) ∧ Below w.heap.size w w' := by
  have a1 : -100 < id.tmod 100 := Int.lt_tmod_of_pos _ (by decide)
  have a2 : id.tmod 100 < 100 := Int.tmod_lt_of_pos _ (by decide)
  have b1 : -20 < first.tmod 20 := Int.lt_tmod_of_pos _ (by decide)
  have b2 : first.tmod 20 < 20 := Int.tmod_lt_of_pos _ (by decide)
  have c1 : -20 < th.tmod 20 := Int.lt_tmod_of_pos _ (by decide)
  have c2 : th.tmod 20 < 20 := Int.tmod_lt_of_pos _ (by decide)
  have AL := hide (fun W => alive13_any W)
  go_enter Try.func5, Try.ntmps5
  go_wp2_with fail
  have i0 : 0 ≤ id.tmod 100 % 100 := by omega
  have i1 : id.tmod 100 % 100 < 100 := by omega
  have f0 : 1 ≤ 1 + first.tmod 20 % 20 := by omega
  have f1 : 1 + first.tmod 20 % 20 ≤ 20 := by omega
  have t0 : 1 ≤ 1 + th.tmod 20 % 20 := by omega
  have t1 : 1 + th.tmod 20 % 20 ≤ 20 := by omega
  try simp only [Int.add_emod_right]
  clear a1 a2 b1 b2 c1 c2
  generalize id.tmod 100 % 100 = I at *
  generalize 1 + first.tmod 20 % 20 = F at *
  generalize 1 + th.tmod 20 % 20 = T at *
  (with_reducible refine (set_none 0 I F none 0 _ (by omega) (by omega) (by omega) (by omega) (by omega) (by omega)).mono ?_)
  rintro e1 w1 ⟨A1, k1, rfl, r1, hc1, q1⟩
  rw [Int.zero_add] at r1
  have qa : Below w1.heap.size w1 (w1.alloc (.cells #[.int .i64 0, .slice A1 1 k1] 24)) := (Below.refl _ _).alloc (Nat.le_refl _) _
  have B9 := hide (World.alloc_heap_new w1 (.cells #[.int .i64 0, .slice A1 1 k1] 24))
  have R9 := hide (TmR.next r1 qa qa.size)
  have Q1 := below_next q1 q1.size qa
  clear r1 qa
  go_wp2_with fail
  (with_reducible refine (stop_one 0 I F A1 k1 _ R9.out hc1 (by omega) (by omega) (by omega) (by omega) (by omega) (by omega)).mono ?_)
  rintro e2 w2 ⟨A2, k2, rfl, q2⟩
  have BX := hide (heap_below B9.out q2)
  have RR : Hid (TmR w2 w2.heap.size A2 (LT true I T 0)) := hide Rd.nil
  have LL : Hid ((LT true I T 0).length = 0) := hide rfl
  have CC : 0 ≤ k2 := Nat.zero_le _
  have zb : w1.heap.size < w2.heap.size := heap_lt BX.out
  have zw : w.heap.size ≤ w1.heap.size := q1.size
  have Q2 := below_next Q1 Q1.size q2
  obtain ⟨x0, x1, x2, x3⟩ := two_box BX.out
  clear q2 R9 B9
  go_wp2
  clear x0 x1 x2 x3
  have ST : Hid (StR true I T w w1.heap.size 0 0 A2 k2 (((w2.setCell ⟨w1.heap.size, 0, none⟩ (.int .i64 0)).setCell ⟨w1.heap.size, 1, none⟩ (.slice A2 0 k2)).alloc (.cells #[.int .i64 0, .slice A2 0 k2] 24))) := by
    have h0 : StR true I T w w1.heap.size 0 0 A2 k2 (w2.setCells w1.heap.size 0 [.int .i64 0, .slice A2 0 k2]) := ⟨whole_heap [.int .i64 0, .slice A2 0 k2] (xs := [_, _]) BX.out rfl, tmr_set BX.out RR.out [.int .i64 0, .slice A2 0 k2] 0, LL.out, CC, Q2.trans (below_setCells (B := w.heap.size) (g := w1.heap.size) [.int .i64 0, .slice A2 0 k2] 0 _ zw)⟩
    exact hide (h0.below ((Below.refl _ _).alloc (Nat.le_refl _) _))
  clear BX RR LL CC Q2 hc1 Q1
  go_loopw [75] (fun vi W => ∃ (i n : Nat) (A : Option Addr) (c : Nat), i ≤ 40 ∧ vi = .int .i64 i ∧ Hid (StR true I T w w1.heap.size i n A c W)) (fun vi _ => 40 - (intOf vi).toNat)
  case atStart => exact ⟨0, 0, A2, k2, by omega, rfl, ST⟩
  case round =>
    clear ST zb
    obtain ⟨i, n, A, c, hi, rfl, hS⟩ := hrel
    have zb : w1.heap.size < wr.heap.size := heap_lt hS.out.box
    obtain ⟨x0, x1, x2, x3⟩ := two_box hS.out.box
    by_cases hlt : i < 40
    · have hi40 : (i : Int) < 40 := by omega
      have n0 : (0 : Int) ≤ (i : Int) := by omega
      have hwi : IntKind.i64.wrap ((i : Int) + 1) = (i : Int) + 1 := IntWalk.i64_in _ (by omega)
      have hwt : IntKind.i64.wrap (T - (i : Int)) = T - (i : Int) := IntWalk.i64_in _ (by omega)
      have hLT : LT true I T i = [] := rfl
      obtain rfl : n = 0 := by have := hS.out.len; rw [hLT] at this; exact this.symm
      have RD := hide hS.out.rd
      rw [hLT] at RD
      have HN2 : Hid (LT true I T (i + 1) = []) := hide (by unfold LT; rfl)
      go_wp2_with fail
      (with_reducible refine (left_none i I A c _ n0 (by omega)).mono ?_)
      rintro e3 w3 ⟨rfl, q3⟩
      have S3 := hide (hS.out.below q3)
      have RD3 := hide (TmR.next RD.out q3 q3.size)
      clear x0 x1 x2 x3 q3 RD hS
      obtain ⟨x0, x1, x2, x3⟩ := two_box S3.out.box
      go_wp2_with fail
      (with_reducible refine (tick_none i I A c _ n0 (by omega)).mono ?_)
      rintro e4 w4 ⟨A4, c4, Ao, co, rfl, r4, hc4, ho, q4⟩
      have S4 := hide (S3.out.below q4)
      have zw4 : w1.heap.size < w4.heap.size := heap_lt S4.out.box
      clear x0 x1 x2 x3 q4 RD3 S3
      obtain ⟨x0, x1, x2, x3⟩ := two_box S4.out.box
      clear ho
      have ec : ((i + 1 : Nat) : Int) = (i : Int) + 1 := by omega
      have NEXT : Hid (StR true I T w w1.heap.size (i + 1) 0 A4 c4 (((w4.setCell ⟨w1.heap.size, 0, none⟩ (.int .i64 ((i : Int) + 1))).setCell ⟨w1.heap.size, 1, none⟩ (.slice A4 0 c4)).alloc (.cells #[.int .i64 ((i : Int) + 1), .slice A4 0 c4] 24))) := by
        have h0 : StR true I T w w1.heap.size (i + 1) 0 A4 c4 (w4.setCells w1.heap.size 0 [.int .i64 ((i : Int) + 1), .slice A4 0 c4]) :=
          ⟨by rw [ec]; exact whole_heap [.int .i64 ((i : Int) + 1), .slice A4 0 c4] (xs := [_, _]) S4.out.box rfl, by rw [HN2.out]; exact tmr_set S4.out.box r4 [.int .i64 ((i : Int) + 1), .slice A4 0 c4] 0, by rw [HN2.out]; rfl, hc4, S4.out.q.trans (below_setCells (B := w.heap.size) (g := w1.heap.size) [.int .i64 ((i : Int) + 1), .slice A4 0 c4] 0 _ zw)⟩
        exact hide (h0.below ((Below.refl _ _).alloc (Nat.le_refl _) _))
      clear S4 r4 ec HN2
      go_wp2
      go_roundw
      case rel => exact ⟨i + 1, 0, A4, c4, by omega, by go_num, NEXT⟩
      case measure => simp [intOf]; omega
    · have hi40 : ¬ (i : Int) < 40 := by omega
      have Q := hS.out.q
      clear x0 x1 x2 x3 hS
      go_wp2_with fail
      (with_reducible refine (AL.out _).mono ?_)
      rintro e4 w4 ⟨rfl, q4⟩
      have Q4 := below_next Q Q.size q4
      go_wp2
      go_ret
      exact ⟨rfl, Q4⟩

set_option maxRecDepth 100000 in
set_option maxHeartbeats 4000000 in
theorem stops_false (id first th : Int) (w : World) : Calls Try.prog 5 #[.int .i64 id, .int .i64 first, .int .i64 th, .bool false] w fun e w' => e = .returned (.bool true) ∧ Below w.heap.size w w' := by
  have a1 : -100 < id.tmod 100 := Int.lt_tmod_of_pos _ (by decide)
  have a2 : id.tmod 100 < 100 := Int.tmod_lt_of_pos _ (by decide)
  have b1 : -20 < first.tmod 20 := Int.lt_tmod_of_pos _ (by decide)
  have b2 : first.tmod 20 < 20 := Int.tmod_lt_of_pos _ (by decide)
  have c1 : -20 < th.tmod 20 := Int.lt_tmod_of_pos _ (by decide)
  have c2 : th.tmod 20 < 20 := Int.tmod_lt_of_pos _ (by decide)
  have AL := hide (fun W => alive13_any W)
  go_enter Try.func5, Try.ntmps5
  go_wp2_with fail
  have i0 : 0 ≤ id.tmod 100 % 100 := by omega
  have i1 : id.tmod 100 % 100 < 100 := by omega
  have f0 : 1 ≤ 1 + first.tmod 20 % 20 := by omega
  have f1 : 1 + first.tmod 20 % 20 ≤ 20 := by omega
  have t0 : 1 ≤ 1 + th.tmod 20 % 20 := by omega
  have t1 : 1 + th.tmod 20 % 20 ≤ 20 := by omega
  try simp only [Int.add_emod_right]
  clear a1 a2 b1 b2 c1 c2
  generalize id.tmod 100 % 100 = I at *
  generalize 1 + first.tmod 20 % 20 = F at *
  generalize 1 + th.tmod 20 % 20 = T at *
  (with_reducible refine (set_none 0 I F none 0 _ (by omega) (by omega) (by omega) (by omega) (by omega) (by omega)).mono ?_)
  rintro e1 w1 ⟨A1, k1, rfl, r1, hc1, q1⟩
  rw [Int.zero_add] at r1
  have qa : Below w1.heap.size w1 (w1.alloc (.cells #[.int .i64 0, .slice A1 1 k1] 24)) := (Below.refl _ _).alloc (Nat.le_refl _) _
  have B9 := hide (World.alloc_heap_new w1 (.cells #[.int .i64 0, .slice A1 1 k1] 24))
  have R9 := hide (TmR.next r1 qa qa.size)
  have Q1 := below_next q1 q1.size qa
  clear r1 qa
  go_wp2_with fail
  (with_reducible refine (set_again 0 I F T A1 k1 _ R9.out hc1 (by omega) (by omega) (by omega) (by omega) (by omega) (by omega) (by omega) (by omega)).mono ?_)
  rintro e2 w2 ⟨A2, k2, rfl, r2, CC, q2⟩
  rw [Int.zero_add] at r2
  have BX := hide (heap_below B9.out q2)
  have hlt0 : LT false I T 0 = [⟨I, T⟩] := by unfold LT; rw [if_pos ⟨rfl, by omega⟩]
  have RR : Hid (TmR w2 w2.heap.size A2 (LT false I T 0)) := hide (by rw [hlt0]; exact r2)
  have LL : Hid ((LT false I T 0).length = 1) := hide (by rw [hlt0]; rfl)
  clear r2 hlt0
  have zb : w1.heap.size < w2.heap.size := heap_lt BX.out
  have zw : w.heap.size ≤ w1.heap.size := q1.size
  have Q2 := below_next Q1 Q1.size q2
  obtain ⟨x0, x1, x2, x3⟩ := two_box BX.out
  clear q2 R9 B9
  go_wp2
  clear x0 x1 x2 x3
  have ST : Hid (StR false I T w w1.heap.size 0 1 A2 k2 (((w2.setCell ⟨w1.heap.size, 0, none⟩ (.int .i64 0)).setCell ⟨w1.heap.size, 1, none⟩ (.slice A2 1 k2)).alloc (.cells #[.int .i64 0, .slice A2 1 k2] 24))) := by
    have h0 : StR false I T w w1.heap.size 0 1 A2 k2 (w2.setCells w1.heap.size 0 [.int .i64 0, .slice A2 1 k2]) := ⟨whole_heap [.int .i64 0, .slice A2 1 k2] (xs := [_, _]) BX.out rfl, tmr_set BX.out RR.out [.int .i64 0, .slice A2 1 k2] 0, LL.out, CC, Q2.trans (below_setCells (B := w.heap.size) (g := w1.heap.size) [.int .i64 0, .slice A2 1 k2] 0 _ zw)⟩
    exact hide (h0.below ((Below.refl _ _).alloc (Nat.le_refl _) _))
  clear BX RR LL CC Q2 hc1 Q1
  go_loopw [75] (fun vi W => ∃ (i n : Nat) (A : Option Addr) (c : Nat), i ≤ 40 ∧ vi = .int .i64 i ∧ Hid (StR false I T w w1.heap.size i n A c W)) (fun vi _ => 40 - (intOf vi).toNat)
  case atStart => exact ⟨0, 1, A2, k2, by omega, rfl, ST⟩
  case round =>
    clear ST zb
    obtain ⟨i, n, A, c, hi, rfl, hS⟩ := hrel
    have zb : w1.heap.size < wr.heap.size := heap_lt hS.out.box
    obtain ⟨x0, x1, x2, x3⟩ := two_box hS.out.box
    by_cases hlt : i < 40
    · have hi40 : (i : Int) < 40 := by omega
      have n0 : (0 : Int) ≤ (i : Int) := by omega
      have hwi : IntKind.i64.wrap ((i : Int) + 1) = (i : Int) + 1 := IntWalk.i64_in _ (by omega)
      have hwt : IntKind.i64.wrap (T - (i : Int)) = T - (i : Int) := IntWalk.i64_in _ (by omega)
      by_cases h1 : T ≤ (i : Int)
      · have hb1 : ((i : Int) + 1 == T) = false := by rw [beq_eq_false_iff_ne]; omega
        have hb2 : decide ((i : Int) < T) = false := by rw [decide_eq_false_iff_not]; omega
        have hLT : LT false I T i = [] := by unfold LT; rw [if_neg (by omega)]
        obtain rfl : n = 0 := by have := hS.out.len; rw [hLT] at this; exact this.symm
        have RD := hide hS.out.rd
        rw [hLT] at RD
        have HN2 : Hid (LT false I T (i + 1) = []) := hide (by unfold LT; rw [if_neg (by omega)])
        go_wp2_with fail
        (with_reducible refine (left_none i I A c _ n0 (by omega)).mono ?_)
        rintro e3 w3 ⟨rfl, q3⟩
        have S3 := hide (hS.out.below q3)
        have RD3 := hide (TmR.next RD.out q3 q3.size)
        clear x0 x1 x2 x3 q3 RD hS
        obtain ⟨x0, x1, x2, x3⟩ := two_box S3.out.box
        go_wp2_with fail
        (with_reducible refine (tick_none i I A c _ n0 (by omega)).mono ?_)
        rintro e4 w4 ⟨A4, c4, Ao, co, rfl, r4, hc4, ho, q4⟩
        have S4 := hide (S3.out.below q4)
        have zw4 : w1.heap.size < w4.heap.size := heap_lt S4.out.box
        clear x0 x1 x2 x3 q4 RD3 S3
        obtain ⟨x0, x1, x2, x3⟩ := two_box S4.out.box
        clear ho
        have ec : ((i + 1 : Nat) : Int) = (i : Int) + 1 := by omega
        have NEXT : Hid (StR false I T w w1.heap.size (i + 1) 0 A4 c4 (((w4.setCell ⟨w1.heap.size, 0, none⟩ (.int .i64 ((i : Int) + 1))).setCell ⟨w1.heap.size, 1, none⟩ (.slice A4 0 c4)).alloc (.cells #[.int .i64 ((i : Int) + 1), .slice A4 0 c4] 24))) := by
          have h0 : StR false I T w w1.heap.size (i + 1) 0 A4 c4 (w4.setCells w1.heap.size 0 [.int .i64 ((i : Int) + 1), .slice A4 0 c4]) :=
            ⟨by rw [ec]; exact whole_heap [.int .i64 ((i : Int) + 1), .slice A4 0 c4] (xs := [_, _]) S4.out.box rfl, by rw [HN2.out]; exact tmr_set S4.out.box r4 [.int .i64 ((i : Int) + 1), .slice A4 0 c4] 0, by rw [HN2.out]; rfl, hc4, S4.out.q.trans (below_setCells (B := w.heap.size) (g := w1.heap.size) [.int .i64 ((i : Int) + 1), .slice A4 0 c4] 0 _ zw)⟩
          exact hide (h0.below ((Below.refl _ _).alloc (Nat.le_refl _) _))
        clear S4 r4 ec HN2
        go_wp2
        go_roundw
        case rel => exact ⟨i + 1, 0, A4, c4, by omega, by go_num, NEXT⟩
        case measure => simp [intOf]; omega
      · have hb2 : decide ((i : Int) < T) = true := by rw [decide_eq_true_eq]; omega
        by_cases h2 : (i : Int) + 1 = T
        · have hb1 : ((i : Int) + 1 == T) = true := by rw [beq_iff_eq]; exact h2
          have H2 := hide h2
          clear h2
          have hLT : LT false I T i = [⟨I, T⟩] := by unfold LT; rw [if_pos ⟨rfl, by omega⟩]
          obtain rfl : n = 1 := by have := hS.out.len; rw [hLT] at this; exact this.symm
          have RD := hide hS.out.rd
          rw [hLT] at RD
          have HN2 : Hid (LT false I T (i + 1) = []) := hide (by unfold LT; rw [if_neg (by have := H2.out; omega)])
          go_wp2_with fail
          (with_reducible refine (left_one i I T A c _ RD.out hS.out.cap n0 (by omega) (by omega) (by omega) (by omega) (by omega)).mono ?_)
          rintro e3 w3 ⟨rfl, q3⟩
          have S3 := hide (hS.out.below q3)
          have RD3 := hide (TmR.next RD.out q3 q3.size)
          clear x0 x1 x2 x3 q3 RD hS
          obtain ⟨x0, x1, x2, x3⟩ := two_box S3.out.box
          go_wp2_with fail
          (with_reducible refine (tick_due i I T A c _ RD3.out S3.out.cap n0 (by omega) (by omega) (by omega) H2.out).mono ?_)
          rintro e4 w4 ⟨A4, c4, Ao, co, rfl, r4, hc4, ho, q4⟩
          have S4 := hide (S3.out.below q4)
          have zw4 : w1.heap.size < w4.heap.size := heap_lt S4.out.box
          clear x0 x1 x2 x3 q4 RD3 S3
          obtain ⟨x0, x1, x2, x3⟩ := two_box S4.out.box
          obtain ⟨g, rfl, hg, cg⟩ := ho (by omega)
          have ec : ((i + 1 : Nat) : Int) = (i : Int) + 1 := by omega
          have NEXT : Hid (StR false I T w w1.heap.size (i + 1) 0 A4 c4 (((w4.setCell ⟨w1.heap.size, 0, none⟩ (.int .i64 ((i : Int) + 1))).setCell ⟨w1.heap.size, 1, none⟩ (.slice A4 0 c4)).alloc (.cells #[.int .i64 ((i : Int) + 1), .slice A4 0 c4] 24))) := by
            have h0 : StR false I T w w1.heap.size (i + 1) 0 A4 c4 (w4.setCells w1.heap.size 0 [.int .i64 ((i : Int) + 1), .slice A4 0 c4]) :=
              ⟨by rw [ec]; exact whole_heap [.int .i64 ((i : Int) + 1), .slice A4 0 c4] (xs := [_, _]) S4.out.box rfl, by rw [HN2.out]; exact tmr_set S4.out.box r4 [.int .i64 ((i : Int) + 1), .slice A4 0 c4] 0, by rw [HN2.out]; rfl, hc4, S4.out.q.trans (below_setCells (B := w.heap.size) (g := w1.heap.size) [.int .i64 ((i : Int) + 1), .slice A4 0 c4] 0 _ zw)⟩
            exact hide (h0.below ((Below.refl _ _).alloc (Nat.le_refl _) _))
          clear S4 r4 ec HN2
          go_wp2
          go_roundw
          case rel => exact ⟨i + 1, 0, A4, c4, by omega, by go_num, NEXT⟩
          case measure => simp [intOf]; omega
        · have hb1 : ((i : Int) + 1 == T) = false := by rw [beq_eq_false_iff_ne]; exact h2
          have hLT : LT false I T i = [⟨I, T⟩] := by unfold LT; rw [if_pos ⟨rfl, by omega⟩]
          obtain rfl : n = 1 := by have := hS.out.len; rw [hLT] at this; exact this.symm
          have RD := hide hS.out.rd
          rw [hLT] at RD
          have HN2 : Hid (LT false I T (i + 1) = [⟨I, T⟩]) := hide (by unfold LT; rw [if_pos ⟨rfl, by omega⟩])
          go_wp2_with fail
          (with_reducible refine (left_one i I T A c _ RD.out hS.out.cap n0 (by omega) (by omega) (by omega) (by omega) (by omega)).mono ?_)
          rintro e3 w3 ⟨rfl, q3⟩
          have S3 := hide (hS.out.below q3)
          have RD3 := hide (TmR.next RD.out q3 q3.size)
          clear x0 x1 x2 x3 q3 RD hS
          obtain ⟨x0, x1, x2, x3⟩ := two_box S3.out.box
          go_wp2_with fail
          (with_reducible refine (tick_wait i I T A c _ RD3.out S3.out.cap n0 (by omega) (by omega) (by omega) (by omega) (by omega)).mono ?_)
          rintro e4 w4 ⟨A4, c4, Ao, co, rfl, r4, hc4, ho, q4⟩
          have S4 := hide (S3.out.below q4)
          have zw4 : w1.heap.size < w4.heap.size := heap_lt S4.out.box
          clear x0 x1 x2 x3 q4 RD3 S3
          obtain ⟨x0, x1, x2, x3⟩ := two_box S4.out.box
          clear ho
          have ec : ((i + 1 : Nat) : Int) = (i : Int) + 1 := by omega
          have NEXT : Hid (StR false I T w w1.heap.size (i + 1) 1 A4 c4 (((w4.setCell ⟨w1.heap.size, 0, none⟩ (.int .i64 ((i : Int) + 1))).setCell ⟨w1.heap.size, 1, none⟩ (.slice A4 1 c4)).alloc (.cells #[.int .i64 ((i : Int) + 1), .slice A4 1 c4] 24))) := by
            have h0 : StR false I T w w1.heap.size (i + 1) 1 A4 c4 (w4.setCells w1.heap.size 0 [.int .i64 ((i : Int) + 1), .slice A4 1 c4]) :=
              ⟨by rw [ec]; exact whole_heap [.int .i64 ((i : Int) + 1), .slice A4 1 c4] (xs := [_, _]) S4.out.box rfl, by rw [HN2.out]; exact tmr_set S4.out.box r4 [.int .i64 ((i : Int) + 1), .slice A4 1 c4] 0, by rw [HN2.out]; rfl, hc4, S4.out.q.trans (below_setCells (B := w.heap.size) (g := w1.heap.size) [.int .i64 ((i : Int) + 1), .slice A4 1 c4] 0 _ zw)⟩
            exact hide (h0.below ((Below.refl _ _).alloc (Nat.le_refl _) _))
          clear S4 r4 ec HN2
          go_wp2
          go_roundw
          case rel => exact ⟨i + 1, 1, A4, c4, by omega, by go_num, NEXT⟩
          case measure => simp [intOf]; omega
    · have hi40 : ¬ (i : Int) < 40 := by omega
      have Q := hS.out.q
      clear x0 x1 x2 x3 hS
      go_wp2_with fail
      (with_reducible refine (AL.out _).mono ?_)
      rintro e4 w4 ⟨rfl, q4⟩
      have Q4 := below_next Q Q.size q4
      go_wp2
      go_ret
      exact ⟨rfl, Q4⟩

end Go.Proofs.Ytnfpbbgajabjkaa
