/- container/heap over box's queue: Push, Pop, Init. -/
import Derived.Test.YtbdgifngldipcaaBxF
namespace Go.Proofs.Ytbdgifngldipcaa
open Go.ChangeShapes Go.WideShapes Go.ChangeAt Go.RowKit
open FP (Fr)
open HP (kB at' Hp UpI DnI)

theorem Own.cut {W : World} {base : Nat} {e : TypeId} {sz : Nat} {A : Option Addr} {c : Nat} {R S : List (List Value)} (h : Own W base e sz A c (R ++ S)) (hs : ∀ r ∈ R, r.length = sz) : Own W base e sz A c R := by
  have hl : R.flatten.length = R.length * sz := by
    clear h
    induction R with
    | nil => simp
    | cons c cs ih => rw [List.flatten_cons, List.length_append, List.length_cons, ih (fun r hr => hs r (by simp [hr])), hs c (by simp), Nat.add_mul]; omega
  obtain ⟨h1, h2⟩ := h
  refine ⟨hl, ?_⟩
  rcases h2 with ⟨hv, h0⟩ | ⟨g, cap, cur, hv, hb, hg, hnc, hcm, hcs, ht⟩
  · rw [List.length_append] at h0
    left
    simp only [Value.slice.injEq] at hv
    obtain ⟨rfl, _, rfl⟩ := hv
    exact ⟨by rw [show R.length = 0 by omega], by omega⟩
  · right
    simp only [Value.slice.injEq] at hv
    obtain ⟨rfl, _, rfl⟩ := hv
    rw [List.length_append] at hnc ht
    refine ⟨g, c, cur, rfl, hb, hg, by omega, hcm, hcs, ?_⟩
    rw [List.flatten_append] at ht
    have h3 := congrArg (List.take (R.length * sz)) ht
    rw [List.take_take, Nat.min_eq_left (Nat.mul_le_mul_right _ (by omega)), List.take_append_of_le_length (by omega)] at h3
    rw [h3]
    exact List.take_of_length_le (by omega)

set_option maxRecDepth 100000 in
set_option maxHeartbeats 1000000 in
theorem qPop_any (B : Nat) (w : World) (bq : Nat) (A : Option Addr) (c : Nat) (l : List Bx) (x : Bx) (W : World) (h : HQ B w bq A c (l ++ [x]) W) (hl : l.length ≤ 1000) :
    Calls Try.prog 123 #[.pointer (some ⟨bq, 0, none⟩)] W fun e W' => e = .returned (.iface 70 (.agg #[.int .i64 x.h, .int .u32 x.f.id, .bool x.f.ext, .bool x.f.rem, .int .i64 x.f.dlc, .string x.f.data, .int .i64 x.s])) ∧ HQ B w bq A c l W' := by
  obtain ⟨g, rfl⟩ := h.addr (by simp)
  obtain ⟨hb, c0, c1, c2, c3, c4, c5, c6⟩ := h.rd.at2 (k := l.length) (by simp)
  have hx : (l ++ [x])[l.length]'(by simp) = x := by simp
  rw [hx] at c0 c1 c2 c3 c4 c5 c6
  simp only [Nat.zero_add] at c0 c1 c2 c3 c4 c5 c6
  have hcell := h.cell
  have hle := h.le
  have hfz := h.free
  rw [List.length_append, List.length_singleton] at hcell hle
  have hlt := h.lt
  have hi : (l.length : Int) < ((l.length + 1 : Nat) : Int) := by omega
  have hbox := h.box
  have hn := fun (W' : World) => run_to (P := Try.prog) 97 70 Try.underlying97 7 (fun W => by kernel_rfl) (some ⟨g, 0, none⟩) (l.length + 1) c l.length l.length rfl (by omega) W'
  have W1q : HQ B w bq (some ⟨g, 0, none⟩) c l ((W.setCell ⟨bq, 0, none⟩ (.slice (some ⟨g, 0, none⟩) l.length c)).alloc (.cells #[.int .i64 x.h, .int .u32 x.f.id, .bool x.f.ext, .bool x.f.rem, .int .i64 x.f.dlc, .string x.f.data, .int .i64 x.s] 70)) := by
    have h2 : Own W B 70 7 (some ⟨g, 0, none⟩) c (l.map bxc) := by
      have := h.own
      rw [List.map_append] at this
      exact this.cut (bxc_rows l)
    have h3 : HQ B w bq (some ⟨g, 0, none⟩) c l (W.setCell ⟨bq, 0, none⟩ (.slice (some ⟨g, 0, none⟩) l.length c)) :=
      ⟨Boxed.set (t := 97) _ h.box, own_setT h2 h.box (by decide) _, h.q.setCell (p := ⟨bq, 0, none⟩) h.hB _, h.hB⟩
    exact h3.below ((Below.refl _ _).alloc (Nat.le_refl _) _)
  have H1 := hide W1q
  clear h hx hbox W1q
  go_enter Try.func123, Try.ntmps123
  go_wp2
  go_ret
  exact ⟨rfl, H1.out⟩

def HpV (B : Nat) (w : World) (bq : Nat) (l : List Bx) (e : Ending) (W' : World) : Prop :=
  e = .returned (.tuple #[]) ∧ ∃ A c l', HQ B w bq A c l' W' ∧ l'.Perm l ∧ Hp l' 0 l'.length

theorem at_app {l : List Bx} {x : Bx} {k : Nat} (h : k < l.length) : at' (l ++ [x]) k = at' l k := by
  unfold at'
  rw [List.getElem?_append_left h]

set_option maxRecDepth 100000 in
set_option maxHeartbeats 1000000 in
theorem hpPush_any (B : Nat) (w : World) (bq : Nat) (A : Option Addr) (c : Nat) (l : List Bx) (x : Bx) (W : World) (h : HQ B w bq A c l W) (hl : l.length ≤ 900) (hg : GoodB (l ++ [x])) (hp : Hp l 0 l.length) :
    Calls Try.prog 65 #[.iface 98 (.pointer (some ⟨bq, 0, none⟩)), .iface 70 (.agg #[.int .i64 x.h, .int .u32 x.f.id, .bool x.f.ext, .bool x.f.rem, .int .i64 x.f.dlc, .string x.f.data, .int .i64 x.s])] W (HpV B w bq (l ++ [x])) := by
  have P := hide (qPush_any B w bq A c l x W h (by omega))
  have hm := meth_push W ⟨bq, 0, none⟩
  have HG := hide hg
  have HI := hide (show UpI (l ++ [x]) l.length from ⟨by simp, fun k h0 hk hne => by
      rw [List.length_append, List.length_singleton] at hk
      rw [at_app (by omega), at_app (by omega)]
      exact hp k h0 (by omega) (Nat.zero_le _), fun k h0 hk hkj _ => by
      rw [List.length_append, List.length_singleton] at hk
      omega⟩)
  clear h hg hp
  go_enter Try.func65, Try.ntmps65
  go_wp2_with fail
  (with_reducible refine P.out.mono ?_)
  rintro e1 w1 ⟨rfl, A1, c1, q1⟩
  obtain ⟨g, rfl⟩ := q1.addr (by simp)
  have hcell := q1.cell
  rw [List.length_append, List.length_singleton] at hcell
  have hm1 := meth_len w1 bq (l.length + 1) c1 _ hcell
  have Q1 := hide q1
  clear q1 hm
  go_wp2_with fail
  (with_reducible refine (qLen_any _ _ _ _).mono ?_)
  rintro e2 w2 ⟨rfl, rfl⟩
  have U := hide (hpUp_any B w bq g c1 (l ++ [x]) w1 Q1.out HG.out (by simp; omega) l.length HI.out)
  clear hm1 hcell
  go_wp2_with fail
  (with_reducible refine U.out.mono ?_)
  rintro e3 w3 ⟨rfl, l', q3, p3, h3⟩
  have Q3 := hide (And.intro q3 (And.intro p3 h3))
  clear q3 p3 h3
  go_wp2
  go_end0
  exact ⟨rfl, _, _, l', Q3.out⟩

def PopV (B : Nat) (w : World) (bq : Nat) (l : List Bx) (e : Ending) (W' : World) : Prop :=
  ∃ x m A c, e = .returned (.iface 70 (.agg #[.int .i64 x.h, .int .u32 x.f.id, .bool x.f.ext, .bool x.f.rem, .int .i64 x.f.dlc, .string x.f.data, .int .i64 x.s])) ∧ x = at' l 0 ∧ HQ B w bq A c m W' ∧ (m ++ [x]).Perm l ∧ Hp m 0 m.length

theorem pop_dn {l : List Bx} {n : Nat} (hn : l.length = n + 1) (hp : Hp l 0 l.length) : DnI (swapL l 0 n) 0 n 0 := by
  have h0 : 0 < l.length := by omega
  have hnl : n < l.length := by omega
  refine ⟨by rw [swapL_len]; omega, Nat.le_refl _, fun k hk0 hk _ hki => ?_, fun k _ _ _ h _ => absurd h (by omega)⟩
  rw [HP.at_swap h0 hnl, HP.at_swap h0 hnl, if_neg (by omega), if_neg (by omega), if_neg (by omega), if_neg hki]
  exact hp k hk0 (by omega) (Nat.zero_le _)

set_option maxRecDepth 100000 in
set_option maxHeartbeats 1000000 in
theorem hpPop_any (B : Nat) (w : World) (bq : Nat) (A : Option Addr) (c : Nat) (l : List Bx) (W : World) (h : HQ B w bq A c l W) (hl : l.length ≤ 900) (hn : 0 < l.length) (hg : GoodB l) (hp : Hp l 0 l.length) :
    Calls Try.prog 66 #[.iface 98 (.pointer (some ⟨bq, 0, none⟩))] W (PopV B w bq l) := by
  obtain ⟨n, hn⟩ : ∃ n, l.length = n + 1 := ⟨l.length - 1, by omega⟩
  obtain ⟨g, rfl⟩ := h.addr (by omega)
  have hcell := h.cell
  have hm0 := meth_len W bq l.length c _ hcell
  have hm1 := meth_swap W bq l.length c _ hcell
  have e1 : (l.length : Int) - 1 = (n : Int) := by omega
  have SW := hide (qSwap_any B w bq g c l W h 0 n (by omega) (by omega))
  have DN := hide (fun W2 (h2 : HQ B w bq (some ⟨g, 0, none⟩) c (swapL l 0 n) W2) => hpDown_any B w bq g c (swapL l 0 n) W2 h2 (hg.perm (HP.swapL_perm l 0 n)) (by rw [swapL_len]; omega) 0 0 n (by omega) (pop_dn hn hp))
  have HN := hide hn
  clear h hg hp hn
  go_enter Try.func66, Try.ntmps66
  go_wp2_with fail
  (with_reducible refine (qLen_any _ _ _ _).mono ?_)
  rintro e2 w2 ⟨rfl, rfl⟩
  go_wp2_with fail
  refine SW.out.mono ?_
  rintro e3 w3 ⟨rfl, q3⟩
  have D := hide (DN.out _ q3)
  clear q3 hm0 hm1 hcell
  go_wp2_with fail
  refine D.out.mono ?_
  rintro e4 w4 ⟨b, l', rfl, q4, p4, hp4, be4⟩
  have hl' : l'.length = n + 1 := by rw [p4.length_eq, swapL_len]; exact HN.out
  have hx : at' l' n = at' l 0 := by rw [be4 n (Nat.le_refl _), HP.at_swap (by omega) (by have := HN.out; omega), if_pos rfl]
  have hsp : l' = l'.dropLast ++ [at' l 0] := by
    rw [← hx, HP.at_lt (by omega)]
    have h0 : l' ≠ [] := by intro e; rw [e] at hl'; simp at hl'
    have := List.dropLast_concat_getLast h0
    rw [List.getLast_eq_getElem] at this
    simp only [hl', Nat.add_sub_cancel] at this
    exact this.symm
  have hdl : l'.dropLast.length = n := by rw [List.length_dropLast, hl']; rfl
  have hd : Hp l'.dropLast 0 l'.dropLast.length := by
    refine hp4.mono (by omega) (fun k hk => ?_)
    unfold at'
    rw [List.getElem?_dropLast, if_pos (by omega)]
  have pm : (l'.dropLast ++ [at' l 0]).Perm l := by rw [← hsp]; exact p4.trans (HP.swapL_perm l 0 n)
  rw [hsp] at q4
  have PP := hide (qPop_any B w bq _ c l'.dropLast (at' l 0) w4 q4 (by rw [hdl]; omega))
  have FIN := hide (And.intro pm hd)
  have hmp := meth_pop w4 ⟨bq, 0, none⟩
  clear q4 p4 hp4 be4 hl' hx hsp hdl hd pm
  generalize l'.dropLast = m at *
  obtain ⟨x, hx0⟩ : ∃ x, x = at' l 0 := ⟨_, rfl⟩
  rw [← hx0] at PP FIN
  have HX := hide hx0
  clear hx0
  go_wp2_with fail
  (with_reducible refine PP.out.mono ?_)
  rintro e5 w5 ⟨rfl, q5⟩
  have Q5 := hide q5
  clear q5 hmp
  go_wp2
  go_ret
  exact ⟨x, m, _, _, rfl, HX.out, Q5.out, FIN.out⟩

set_option maxRecDepth 100000 in
set_option maxHeartbeats 1000000 in
theorem hpInit_any (B : Nat) (w : World) (bq : Nat) (A : Option Addr) (c : Nat) (l : List Bx) (W : World) (h : HQ B w bq A c l W) (hl : l.length ≤ 900) (hg : GoodB l) :
    Calls Try.prog 70 #[.iface 98 (.pointer (some ⟨bq, 0, none⟩))] W (HpV B w bq l) := by
  have hcell := h.cell
  have hm0 := meth_len W bq l.length c _ hcell
  have H := hide h
  have HG := hide hg
  obtain ⟨k0, hk0⟩ : ∃ k0 : Nat, k0 = l.length / 2 := ⟨_, rfl⟩
  have e1 : (l.length : Int) / 2 - 1 = (k0 : Int) - 1 := by omega
  have hk1 : k0 ≤ 900 := by omega
  have HK := hide hk0
  clear h hg hk0
  go_enter Try.func70, Try.ntmps70
  go_wp2_with fail
  (with_reducible refine (qLen_any _ _ _ _).mono ?_)
  rintro e2 w2 ⟨rfl, rfl⟩
  clear hm0 hcell
  go_wp2
  clear e1
  go_loopw [3] (fun v W1 => ∃ (k : Nat) (m : List Bx), v = .int .i64 ((k : Int) - 1) ∧ k ≤ 900 ∧ Hid (HQ B w bq A c m W1 ∧ m.Perm l ∧ Hp m k l.length ∧ (0 < k → k < l.length))) (fun v _ => (intOf v + 1).toNat)
  case atStart => exact ⟨k0, l, rfl, hk1, hide ⟨H.out, List.Perm.refl _, fun k h0 hk hkk => by have := HK.out; omega, by have := HK.out; omega⟩⟩
  case round =>
    obtain ⟨k, m, rfl, hk, hr⟩ := hrel
    by_cases hk0 : k = 0
    · subst hk0
      have F := hide (show Hp m 0 m.length by rw [hr.out.2.1.length_eq]; exact hr.out.2.2.1)
      go_wp2
      go_end0
      exact ⟨rfl, _, _, m, hr.out.1, hr.out.2.1, F.out⟩
    · obtain ⟨i, rfl⟩ : ∃ i, k = i + 1 := ⟨k - 1, by omega⟩
      have hil := hr.out.2.2.2 (by omega)
      have hlen := hr.out.2.1.length_eq
      obtain ⟨g, rfl⟩ := hr.out.1.addr (by omega)
      have ei : ((i + 1 : Nat) : Int) - 1 = (i : Int) := by omega
      have DN := hide (hpDown_any B w bq g c m wr hr.out.1 (HG.out.perm hr.out.2.1) (by omega) i i l.length (by omega) ⟨by omega, Nat.le_refl _, fun k h0 hk hik hne => hr.out.2.2.1 k h0 hk (by omega), fun k h0 hk hki h1 h2 => by omega⟩)
      clear hlen hk0
      simp only [ei]
      go_wp2_with fail
      (with_reducible refine DN.out.mono ?_)
      rintro e4 w4 ⟨b, l', rfl, q4, p4, hp4, be4⟩
      have FIN := hide (And.intro q4 (And.intro (p4.trans hr.out.2.1) (And.intro hp4 (show 0 < i → i < l.length by omega))))
      clear q4 p4 hp4 be4 ei
      go_wp2
      go_roundw
      case rel => exact ⟨i, l', by go_num, by omega, FIN⟩
      case measure => simp [intOf] <;> omega
end Go.Proofs.Ytbdgifngldipcaa
