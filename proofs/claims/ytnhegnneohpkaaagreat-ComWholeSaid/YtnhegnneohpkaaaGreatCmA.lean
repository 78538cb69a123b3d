/- Walks of com.all. Printed by wip/specs/mkCmA.py. -/
import Derived.Test.YtnhegnneohpkaaaGreatMgPdX
namespace Go.Proofs.YtnhegnneohpkaaaGreat
open Go.ChangeShapes Go.WideShapes Go.ChangeAt Go.RowKit
open CM PD SG

theorem getDx {α : Type} {l : List α} {i : Nat} (d : α) (hi : i < l.length) : l.getD i d = l[i] := by rw [List.getD_eq_getElem?_getD, List.getElem?_eq_getElem hi]; rfl
/-- Are all so, by their places? -/
def allW {α : Type} (p : Nat → α → Bool) (l : List α) (d : α) : Bool := (List.range l.length).all fun i => p i (l.getD i d)
theorem allW_true {α : Type} {p : Nat → α → Bool} {l : List α} {d : α} (h : ∀ i (hi : i < l.length), p i l[i] = true) : allW p l d = true := by
  unfold allW
  rw [List.all_eq_true]
  intro i hi
  rw [List.mem_range] at hi
  rw [List.getD_eq_getElem?_getD, List.getElem?_eq_getElem hi]
  exact h i hi
theorem allW_iff {α : Type} {p : Nat → α → Bool} {l : List α} {d : α} : allW p l d = true ↔ ∀ i (hi : i < l.length), p i l[i] = true := by
  refine ⟨fun h i hi => ?_, allW_true⟩
  unfold allW at h
  have := List.all_eq_true.1 h i (List.mem_range.2 hi)
  rw [List.getD_eq_getElem?_getD, List.getElem?_eq_getElem hi] at this
  exact this
theorem allW_false {α : Type} {p : Nat → α → Bool} {l : List α} {d : α} {i : Nat} (hi : i < l.length) (h : p i l[i] = false) : allW p l d = false := by
  cases hx : allW p l d with
  | false => rfl
  | true => have := allW_iff.1 hx i hi; rw [h] at this; cases this
def flcL (f : Flt) : List Value := [.int .i64 f.kind, .int .i64 f.mask, .int .i64 f.x, .int .i64 f.mn, .int .i64 f.mx, .int .i64 f.every, .int .i64 f.frm, .int .i64 f.old, .int .i64 f.count]
def FlR (w : World) (B : Nat) (A : Option Addr) (l : List Flt) : Prop := Rd w B A 9 (l.map flcL)
theorem FlR.at_ {w : World} {B : Nat} {A : Option Addr} {l : List Flt} (h : FlR w B A l) {k : Nat} (hk : k < l.length) :
    ∃ b off, A = some ⟨b, off, none⟩ ∧ b < B ∧ w.cell? ⟨b, off + k * 9, none⟩ = some (.int .i64 l[k].kind) ∧ w.cell? ⟨b, off + k * 9 + 1, none⟩ = some (.int .i64 l[k].mask) ∧ w.cell? ⟨b, off + k * 9 + 2, none⟩ = some (.int .i64 l[k].x) ∧ w.cell? ⟨b, off + k * 9 + 3, none⟩ = some (.int .i64 l[k].mn) ∧ w.cell? ⟨b, off + k * 9 + 4, none⟩ = some (.int .i64 l[k].mx) ∧ w.cell? ⟨b, off + k * 9 + 5, none⟩ = some (.int .i64 l[k].every) ∧ w.cell? ⟨b, off + k * 9 + 6, none⟩ = some (.int .i64 l[k].frm) ∧ w.cell? ⟨b, off + k * 9 + 7, none⟩ = some (.int .i64 l[k].old) ∧ w.cell? ⟨b, off + k * 9 + 8, none⟩ = some (.int .i64 l[k].count) := by
  obtain ⟨b, off, e, hb, hc⟩ := h (by simpa using Nat.lt_of_le_of_lt (Nat.zero_le _) hk)
  have hx : (l.map flcL)[k]? = some (flcL l[k]) := by simp [hk]
  exact ⟨b, off, e, hb, hc k _ 0 _ hx rfl, hc k _ 1 _ hx rfl, hc k _ 2 _ hx rfl, hc k _ 3 _ hx rfl, hc k _ 4 _ hx rfl, hc k _ 5 _ hx rfl, hc k _ 6 _ hx rfl, hc k _ 7 _ hx rfl, hc k _ 8 _ hx rfl⟩

set_option maxRecDepth 100000 in
set_option maxHeartbeats 4000000 in
theorem allInt_any (fid lb : Nat) (p : Nat → Int → Bool) (hp : ∀ (args : Array Value) (w : World), (callFunc fid args).run Tryz.prog w = .ok (.enter fid args) w) (l : List Int) (A : Option Addr) (c : Nat) (w : World) (hr : InR w w.heap.size A l) (hl : l.length ≤ 1000000)
    (hc : Hid (∀ i (hi : i < l.length) w', Below w.heap.size w w' → Calls Tryz.prog fid #[.int .i64 i, .int .i64 l[i], .pointer (some ⟨lb, 0, none⟩)] w' fun e w'' => e = .returned (.bool (p i l[i])) ∧ Below w'.heap.size w' w'')) :
    Calls Tryz.prog 86 #[.slice A l.length c, .func (.func fid) #[] #[.pointer (some ⟨lb, 0, none⟩)]] w fun e w' => e = .returned (.bool (allW p l 0)) ∧ Below w.heap.size w w' := by
  obtain ⟨r, hr2⟩ : ∃ r, r = allW p l 0 := ⟨_, rfl⟩
  rw [← hr2]
  have HY := hide (fun h => hr2.trans (allW_true h))
  have HN := hide (fun i hi h => hr2.trans (allW_false (i := i) hi h))
  clear hr2
  go_enter Tryz.func86, Tryz.ntmps86
  go_wp2_with fail
  go_loopw [9] (fun vi W => ∃ k : Nat, k ≤ l.length ∧ vi = .int .i64 k ∧ Hid (∀ i (hi : i < k) (hi2 : i < l.length), p i l[i] = true) ∧ Hid (Below w.heap.size w W)) (fun vi _ => l.length - (intOf vi).toNat)
  case atStart => exact ⟨0, Nat.zero_le _, rfl, hide (fun i hi => absurd hi (Nat.not_lt_zero _)), hide (Below.refl _ _)⟩
  case round =>
    obtain ⟨k, hk, rfl, hA, hq⟩ := hrel
    by_cases hlt : k < l.length
    · obtain ⟨b, off, rfl, hbs, c0⟩ := InR.at_ (Rd.below hr hq.out) hlt
      have C := hide (hc.out k hlt wr hq.out)
      have hki : (k : Int) < (l.length : Int) := by omega
      have HNK := hide (HN.out k hlt)
      have HS := hide (fun (h : p k l[k] = true) => show ∀ i (hi : i < k + 1) (hi2 : i < l.length), p i l[i] = true from fun i hi hi2 => by
        by_cases e : i = k
        · subst e; exact h
        · exact hA.out i (by omega) hi2)
      rcases hpk : p k l[k] with _ | _
      · rw [hpk] at C
        have E := hide (HNK.out hpk)
        clear hpk HNK HS HN HY
        generalize l[k] = v at *
        go_wp2_with fail
        (with_reducible refine (C.out).mono ?_)
        rintro e1 w1 ⟨rfl, q1⟩
        have Q := hide (below_next hq.out hq.out.size q1)
        clear q1 C c0
        go_wp2_with fail
        go_ret
        exact ⟨by rw [E.out]; rfl, Q.out⟩
      · rw [hpk] at C
        have S2 := hide (HS.out hpk)
        clear hpk HNK HS HN HY
        generalize l[k] = v at *
        go_wp2_with fail
        (with_reducible refine (C.out).mono ?_)
        rintro e1 w1 ⟨rfl, q1⟩
        have Q := hide (below_next hq.out hq.out.size q1)
        clear q1 C c0
        go_wp2_with fail
        go_roundw
        case rel => exact ⟨k + 1, by omega, by go_num, S2, Q⟩
        case measure => simp [intOf]; omega
    · obtain rfl : k = l.length := by omega
      have hnl : ¬ (l.length : Int) < (l.length : Int) := by omega
      have E := hide (HY.out (fun i hi => hA.out i hi hi))
      clear hlt hk HN HY
      go_wp2_with fail
      go_ret
      exact ⟨by rw [E.out]; rfl, hq.out⟩

set_option maxRecDepth 100000 in
set_option maxHeartbeats 4000000 in
theorem allFlt0_any (fid : Nat) (p : Nat → Flt → Bool) (hp : ∀ (args : Array Value) (w : World), (callFunc fid args).run Tryz.prog w = .ok (.enter fid args) w) (l : List Flt) (A : Option Addr) (c : Nat) (d : Flt) (w : World) (hr : FlR w w.heap.size A l) (hl : l.length ≤ 1000000)
    (hc : Hid (∀ i (hi : i < l.length) w', Below w.heap.size w w' → Calls Tryz.prog fid #[.int .i64 i, .agg #[.int .i64 l[i].kind, .int .i64 l[i].mask, .int .i64 l[i].x, .int .i64 l[i].mn, .int .i64 l[i].mx, .int .i64 l[i].every, .int .i64 l[i].frm, .int .i64 l[i].old, .int .i64 l[i].count]] w' fun e w'' => e = .returned (.bool (p i l[i])) ∧ Below w'.heap.size w' w'')) :
    Calls Tryz.prog 53 #[.slice A l.length c, .func (.func fid) #[] #[]] w fun e w' => e = .returned (.bool (allW p l d)) ∧ Below w.heap.size w w' := by
  obtain ⟨r, hr2⟩ : ∃ r, r = allW p l d := ⟨_, rfl⟩
  rw [← hr2]
  have HY := hide (fun h => hr2.trans (allW_true h))
  have HN := hide (fun i hi h => hr2.trans (allW_false (i := i) hi h))
  clear hr2
  go_enter Tryz.func53, Tryz.ntmps53
  go_wp2_with fail
  go_loopw [9] (fun vi W => ∃ k : Nat, k ≤ l.length ∧ vi = .int .i64 k ∧ Hid (∀ i (hi : i < k) (hi2 : i < l.length), p i l[i] = true) ∧ Hid (Below w.heap.size w W)) (fun vi _ => l.length - (intOf vi).toNat)
  case atStart => exact ⟨0, Nat.zero_le _, rfl, hide (fun i hi => absurd hi (Nat.not_lt_zero _)), hide (Below.refl _ _)⟩
  case round =>
    obtain ⟨k, hk, rfl, hA, hq⟩ := hrel
    by_cases hlt : k < l.length
    · obtain ⟨b, off, rfl, hbs, c0, c1, c2, c3, c4, c5, c6, c7, c8⟩ := FlR.at_ (Rd.below hr hq.out) hlt
      have HC := hide (hc.out k hlt)
      have hki : (k : Int) < (l.length : Int) := by omega
      have HNK := hide (HN.out k hlt)
      have HS := hide (fun (h : p k l[k] = true) => show ∀ i (hi : i < k + 1) (hi2 : i < l.length), p i l[i] = true from fun i hi hi2 => by
        by_cases e : i = k
        · subst e; exact h
        · exact hA.out i (by omega) hi2)
      generalize l[k] = f at *
      have th := hide (show (wr.alloc (.cells #[.int .i64 0, .int .i64 0, .int .i64 0, .int .i64 0, .int .i64 0, .int .i64 0, .int .i64 0, .int .i64 0, .int .i64 0] 29)).there wr.heap.size 0 9 from there_heap (cs := [_, _, _, _, _, _, _, _, _]) (World.alloc_heap_new wr _))
      go_wp2_with (refine wpList_store_hid (by rfl) 29 (.tmp 6) (.tmp 13) (by rfl) wr.heap.size 0 (flcL f) (by rfl) (by rfl) (by exact th.out) (by kernel_rfl) (by simp [Value.oneCell', flcL]) ?_)
      intro w2 e2
      have bs := hide (show w2.heap[wr.heap.size]? = some (.cells (flcL f).toArray 29 (0, 0)) by rw [e2.out]; exact whole_heap (flcL f) (xs := [_, _, _, _, _, _, _, _, _]) (World.alloc_heap_new wr _) rfl)
      have qb : Below wr.heap.size wr w2 := by
        rw [e2.out]
        exact ((Below.refl _ _).alloc (Nat.le_refl _) _).trans (below_setCells (g := wr.heap.size) _ 0 _ (Nat.le_refl _))
      have Q2 := hide (below_next hq.out hq.out.size qb)
      have C := HC.out w2 Q2.out
      clear th e2 qb hq c0 c1 c2 c3 c4 c5 c6 c7 c8 HC
      rcases hpk : p k f with _ | _
      · rw [hpk] at C
        replace C := hide C
        have E := hide (HNK.out hpk)
        clear hpk HNK HS HN HY
        go_wp2_with (refine wpList_load_row rfl 29 (.tmp 6) (by rfl) wr.heap.size (by rfl) 29 (flcL f).toArray (0, 0) _ (by exact bs.out) Tryz.underlying29 (by rfl) (by kernel_rfl) ?_)
        refine (C.out).mono ?_
        rintro e1 w3 ⟨rfl, q1⟩
        have Q := hide (below_next Q2.out Q2.out.size q1)
        clear q1 C
        go_wp2_with fail
        go_ret
        exact ⟨by rw [E.out]; rfl, Q.out⟩
      · rw [hpk] at C
        replace C := hide C
        have S2 := hide (HS.out hpk)
        clear hpk HNK HS HN HY
        go_wp2_with (refine wpList_load_row rfl 29 (.tmp 6) (by rfl) wr.heap.size (by rfl) 29 (flcL f).toArray (0, 0) _ (by exact bs.out) Tryz.underlying29 (by rfl) (by kernel_rfl) ?_)
        refine (C.out).mono ?_
        rintro e1 w3 ⟨rfl, q1⟩
        have Q := hide (below_next Q2.out Q2.out.size q1)
        clear q1 C
        go_wp2_with fail
        go_roundw
        case rel => exact ⟨k + 1, by omega, by go_num, S2, Q⟩
        case measure => simp [intOf]; omega
    · obtain rfl : k = l.length := by omega
      have hnl : ¬ (l.length : Int) < (l.length : Int) := by omega
      have E := hide (HY.out (fun i hi => hA.out i hi hi))
      clear hlt hk HN HY
      go_wp2_with fail
      go_ret
      exact ⟨by rw [E.out]; rfl, hq.out⟩

set_option maxRecDepth 100000 in
set_option maxHeartbeats 4000000 in
theorem allFlt1_any (fid lb : Nat) (p : Nat → Flt → Bool) (hp : ∀ (args : Array Value) (w : World), (callFunc fid args).run Tryz.prog w = .ok (.enter fid args) w) (l : List Flt) (A : Option Addr) (c : Nat) (d : Flt) (w : World) (hr : FlR w w.heap.size A l) (hl : l.length ≤ 1000000)
    (hc : Hid (∀ i (hi : i < l.length) w', Below w.heap.size w w' → Calls Tryz.prog fid #[.int .i64 i, .agg #[.int .i64 l[i].kind, .int .i64 l[i].mask, .int .i64 l[i].x, .int .i64 l[i].mn, .int .i64 l[i].mx, .int .i64 l[i].every, .int .i64 l[i].frm, .int .i64 l[i].old, .int .i64 l[i].count], .pointer (some ⟨lb, 0, none⟩)] w' fun e w'' => e = .returned (.bool (p i l[i])) ∧ Below w'.heap.size w' w'')) :
    Calls Tryz.prog 53 #[.slice A l.length c, .func (.func fid) #[] #[.pointer (some ⟨lb, 0, none⟩)]] w fun e w' => e = .returned (.bool (allW p l d)) ∧ Below w.heap.size w w' := by
  obtain ⟨r, hr2⟩ : ∃ r, r = allW p l d := ⟨_, rfl⟩
  rw [← hr2]
  have HY := hide (fun h => hr2.trans (allW_true h))
  have HN := hide (fun i hi h => hr2.trans (allW_false (i := i) hi h))
  clear hr2
  go_enter Tryz.func53, Tryz.ntmps53
  go_wp2_with fail
  go_loopw [9] (fun vi W => ∃ k : Nat, k ≤ l.length ∧ vi = .int .i64 k ∧ Hid (∀ i (hi : i < k) (hi2 : i < l.length), p i l[i] = true) ∧ Hid (Below w.heap.size w W)) (fun vi _ => l.length - (intOf vi).toNat)
  case atStart => exact ⟨0, Nat.zero_le _, rfl, hide (fun i hi => absurd hi (Nat.not_lt_zero _)), hide (Below.refl _ _)⟩
  case round =>
    obtain ⟨k, hk, rfl, hA, hq⟩ := hrel
    by_cases hlt : k < l.length
    · obtain ⟨b, off, rfl, hbs, c0, c1, c2, c3, c4, c5, c6, c7, c8⟩ := FlR.at_ (Rd.below hr hq.out) hlt
      have HC := hide (hc.out k hlt)
      have hki : (k : Int) < (l.length : Int) := by omega
      have HNK := hide (HN.out k hlt)
      have HS := hide (fun (h : p k l[k] = true) => show ∀ i (hi : i < k + 1) (hi2 : i < l.length), p i l[i] = true from fun i hi hi2 => by
        by_cases e : i = k
        · subst e; exact h
        · exact hA.out i (by omega) hi2)
      generalize l[k] = f at *
      have th := hide (show (wr.alloc (.cells #[.int .i64 0, .int .i64 0, .int .i64 0, .int .i64 0, .int .i64 0, .int .i64 0, .int .i64 0, .int .i64 0, .int .i64 0] 29)).there wr.heap.size 0 9 from there_heap (cs := [_, _, _, _, _, _, _, _, _]) (World.alloc_heap_new wr _))
      go_wp2_with (refine wpList_store_hid (by rfl) 29 (.tmp 6) (.tmp 13) (by rfl) wr.heap.size 0 (flcL f) (by rfl) (by rfl) (by exact th.out) (by kernel_rfl) (by simp [Value.oneCell', flcL]) ?_)
      intro w2 e2
      have bs := hide (show w2.heap[wr.heap.size]? = some (.cells (flcL f).toArray 29 (0, 0)) by rw [e2.out]; exact whole_heap (flcL f) (xs := [_, _, _, _, _, _, _, _, _]) (World.alloc_heap_new wr _) rfl)
      have qb : Below wr.heap.size wr w2 := by
        rw [e2.out]
        exact ((Below.refl _ _).alloc (Nat.le_refl _) _).trans (below_setCells (g := wr.heap.size) _ 0 _ (Nat.le_refl _))
      have Q2 := hide (below_next hq.out hq.out.size qb)
      have C := HC.out w2 Q2.out
      clear th e2 qb hq c0 c1 c2 c3 c4 c5 c6 c7 c8 HC
      rcases hpk : p k f with _ | _
      · rw [hpk] at C
        replace C := hide C
        have E := hide (HNK.out hpk)
        clear hpk HNK HS HN HY
        go_wp2_with (refine wpList_load_row rfl 29 (.tmp 6) (by rfl) wr.heap.size (by rfl) 29 (flcL f).toArray (0, 0) _ (by exact bs.out) Tryz.underlying29 (by rfl) (by kernel_rfl) ?_)
        refine (C.out).mono ?_
        rintro e1 w3 ⟨rfl, q1⟩
        have Q := hide (below_next Q2.out Q2.out.size q1)
        clear q1 C
        go_wp2_with fail
        go_ret
        exact ⟨by rw [E.out]; rfl, Q.out⟩
      · rw [hpk] at C
        replace C := hide C
        have S2 := hide (HS.out hpk)
        clear hpk HNK HS HN HY
        go_wp2_with (refine wpList_load_row rfl 29 (.tmp 6) (by rfl) wr.heap.size (by rfl) 29 (flcL f).toArray (0, 0) _ (by exact bs.out) Tryz.underlying29 (by rfl) (by kernel_rfl) ?_)
        refine (C.out).mono ?_
        rintro e1 w3 ⟨rfl, q1⟩
        have Q := hide (below_next Q2.out Q2.out.size q1)
        clear q1 C
        go_wp2_with fail
        go_roundw
        case rel => exact ⟨k + 1, by omega, by go_num, S2, Q⟩
        case measure => simp [intOf]; omega
    · obtain rfl : k = l.length := by omega
      have hnl : ¬ (l.length : Int) < (l.length : Int) := by omega
      have E := hide (HY.out (fun i hi => hA.out i hi hi))
      clear hlt hk HN HY
      go_wp2_with fail
      go_ret
      exact ⟨by rw [E.out]; rfl, hq.out⟩
end Go.Proofs.YtnhegnneohpkaaaGreat
