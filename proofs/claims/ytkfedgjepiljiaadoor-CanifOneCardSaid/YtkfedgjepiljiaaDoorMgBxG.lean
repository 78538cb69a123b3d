/- container/heap over box's queue: Push, Pop, Init. -/
import Derived.Test.YtkfedgjepiljiaaDoorMgHpP
import Derived.Lib.SliceRun
namespace Go.Proofs.YtkfedgjepiljiaaDoor
open Go.ChangeShapes Go.WideShapes Go.ChangeAt Go.RowKit
open FP (Fr)
open HP (kB at' Hp UpI DnI)

theorem Own.cut {W : World} {base : Nat} {e : TypeId} {sz : Nat} {A : Option Addr} {c : Nat} {R S : List (List Value)} (h : Own W base e sz A c (R ++ S)) (hs : ∀ r ∈ R, r.length = sz) : Own W base e sz A c R := by
  have hl : R.flatten.length = R.length * sz := by
    clear h
    induction R with
    | nil => simp
    | cons c cs ih => rw [List.flatten_cons, List.length_append, List.length_cons, ih (fun r hr => hs r (by simp [hr])), hs c (by simp), Nat.add_mul]; omega
  obtain ⟨h1, h2⟩ := h
  refine ⟨hl, ?_⟩
  rcases h2 with ⟨hv, h0⟩ | ⟨g, cap, cur, hv, hb, hg, hnc, hcm, hcs, ht⟩
  · rw [List.length_append] at h0
    left
    simp only [Value.slice.injEq] at hv
    obtain ⟨rfl, _, rfl⟩ := hv
    exact ⟨by rw [show R.length = 0 by omega], by omega⟩
  · right
    simp only [Value.slice.injEq] at hv
    obtain ⟨rfl, _, rfl⟩ := hv
    rw [List.length_append] at hnc ht
    refine ⟨g, c, cur, rfl, hb, hg, by omega, hcm, hcs, ?_⟩
    rw [List.flatten_append] at ht
    have h3 := congrArg (List.take (R.length * sz)) ht
    rw [List.take_take, Nat.min_eq_left (Nat.mul_le_mul_right _ (by omega)), List.take_append_of_le_length (by omega)] at h3
    rw [h3]
    exact List.take_of_length_le (by omega)

set_option maxRecDepth 100000 in
set_option maxHeartbeats 1000000 in
theorem qPop_any (B : Nat) (w : World) (bq : Nat) (A : Option Addr) (c : Nat) (l : List Bx) (x : Bx) (W : World) (h : HQ B w bq A c (l ++ [x]) W) (hl : l.length ≤ 1000) :
    Calls Tryd.prog 117 #[.pointer (some ⟨bq, 0, none⟩)] W fun e W' => e = .returned (.iface 60 (.agg #[.int .i64 x.h, .int .u32 x.f.id, .bool x.f.ext, .bool x.f.rem, .int .i64 x.f.dlc, .string x.f.data, .int .i64 x.s])) ∧ HQ B w bq A c l W' := by
  obtain ⟨g, rfl⟩ := h.addr (by simp)
  obtain ⟨hb, c0, c1, c2, c3, c4, c5, c6⟩ := h.rd.at2 (k := l.length) (by simp)
  have hx : (l ++ [x])[l.length]'(by simp) = x := by simp
  rw [hx] at c0 c1 c2 c3 c4 c5 c6
  simp only [Nat.zero_add] at c0 c1 c2 c3 c4 c5 c6
  have hcell := h.cell
  have hle := h.le
  have hfz := h.free
  rw [List.length_append, List.length_singleton] at hcell hle
  have hlt := h.lt
  have hi : (l.length : Int) < ((l.length + 1 : Nat) : Int) := by omega
  have hbox := h.box
  have hn := fun (W' : World) => run_to (P := Tryd.prog) 73 60 Tryd.underlying73 7 (fun W => by kernel_rfl) (some ⟨g, 0, none⟩) (l.length + 1) c l.length l.length rfl (by omega) W'
  have W1q : HQ B w bq (some ⟨g, 0, none⟩) c l ((W.setCell ⟨bq, 0, none⟩ (.slice (some ⟨g, 0, none⟩) l.length c)).alloc (.cells #[.int .i64 x.h, .int .u32 x.f.id, .bool x.f.ext, .bool x.f.rem, .int .i64 x.f.dlc, .string x.f.data, .int .i64 x.s] 60)) := by
    have h2 : Own W B 60 7 (some ⟨g, 0, none⟩) c (l.map bxc) := by
      have := h.own
      rw [List.map_append] at this
      exact this.cut (bxc_rows l)
    have h3 : HQ B w bq (some ⟨g, 0, none⟩) c l (W.setCell ⟨bq, 0, none⟩ (.slice (some ⟨g, 0, none⟩) l.length c)) :=
      ⟨Boxed.set (t := 73) _ h.box, own_setT h2 h.box (by decide) _, h.q.setCell (p := ⟨bq, 0, none⟩) h.hB _, h.hB⟩
    exact h3.below ((Below.refl _ _).alloc (Nat.le_refl _) _)
  have H1 := hide W1q
  clear h hx hbox W1q
  go_enter Tryd.func117, Tryd.ntmps117
  go_wp2
  go_ret
  exact ⟨rfl, H1.out⟩

def HpV (B : Nat) (w : World) (bq : Nat) (l : List Bx) (e : Ending) (W' : World) : Prop :=
  e = .returned (.tuple #[]) ∧ ∃ A c l', HQ B w bq A c l' W' ∧ l'.Perm l ∧ Hp l' 0 l'.length

theorem at_app {l : List Bx} {x : Bx} {k : Nat} (h : k < l.length) : at' (l ++ [x]) k = at' l k := by
  unfold at'
  rw [List.getElem?_append_left h]

set_option maxRecDepth 100000 in
set_option maxHeartbeats 1000000 in
theorem hpPush_any (B : Nat) (w : World) (bq : Nat) (A : Option Addr) (c : Nat) (l : List Bx) (x : Bx) (W : World) (h : HQ B w bq A c l W) (hl : l.length ≤ 900) (hg : GoodB (l ++ [x])) (hp : Hp l 0 l.length) :
    Calls Tryd.prog 37 #[.iface 75 (.pointer (some ⟨bq, 0, none⟩)), .iface 60 (.agg #[.int .i64 x.h, .int .u32 x.f.id, .bool x.f.ext, .bool x.f.rem, .int .i64 x.f.dlc, .string x.f.data, .int .i64 x.s])] W (HpV B w bq (l ++ [x])) := by
  have P := hide (qPush_any B w bq A c l x W h (by omega))
  have hm := meth_push W ⟨bq, 0, none⟩
  have HG := hide hg
  have HI := hide (show UpI (l ++ [x]) l.length from ⟨by simp, fun k h0 hk hne => by
      rw [List.length_append, List.length_singleton] at hk
      rw [at_app (by omega), at_app (by omega)]
      exact hp k h0 (by omega) (Nat.zero_le _), fun k h0 hk hkj _ => by
      rw [List.length_append, List.length_singleton] at hk
      omega⟩)
  clear h hg hp
  go_enter Tryd.func37, Tryd.ntmps37
  go_wp2_with fail
  (with_reducible refine P.out.mono ?_)
  rintro e1 w1 ⟨rfl, A1, c1, q1⟩
  obtain ⟨g, rfl⟩ := q1.addr (by simp)
  have hcell := q1.cell
  rw [List.length_append, List.length_singleton] at hcell
  have hm1 := meth_len w1 bq (l.length + 1) c1 _ hcell
  have Q1 := hide q1
  clear q1 hm
  go_wp2_with fail
  (with_reducible refine (qLen_any _ _ _ _).mono ?_)
  rintro e2 w2 ⟨rfl, rfl⟩
  have U := hide (hpUp_any B w bq g c1 (l ++ [x]) w1 Q1.out HG.out (by simp; omega) l.length HI.out)
  clear hm1 hcell
  go_wp2_with fail
  (with_reducible refine U.out.mono ?_)
  rintro e3 w3 ⟨rfl, l', q3, p3, h3⟩
  have Q3 := hide (And.intro q3 (And.intro p3 h3))
  clear q3 p3 h3
  go_wp2
  go_end0
  exact ⟨rfl, _, _, l', Q3.out⟩

def PopV (B : Nat) (w : World) (bq : Nat) (l : List Bx) (e : Ending) (W' : World) : Prop :=
  ∃ x m A c, e = .returned (.iface 60 (.agg #[.int .i64 x.h, .int .u32 x.f.id, .bool x.f.ext, .bool x.f.rem, .int .i64 x.f.dlc, .string x.f.data, .int .i64 x.s])) ∧ x = at' l 0 ∧ HQ B w bq A c m W' ∧ (m ++ [x]).Perm l ∧ Hp m 0 m.length

theorem pop_dn {l : List Bx} {n : Nat} (hn : l.length = n + 1) (hp : Hp l 0 l.length) : DnI (swapL l 0 n) 0 n 0 := by
  have h0 : 0 < l.length := by omega
  have hnl : n < l.length := by omega
  refine ⟨by rw [swapL_len]; omega, Nat.le_refl _, fun k hk0 hk _ hki => ?_, fun k _ _ _ h _ => absurd h (by omega)⟩
  rw [HP.at_swap h0 hnl, HP.at_swap h0 hnl, if_neg (by omega), if_neg (by omega), if_neg (by omega), if_neg hki]
  exact hp k hk0 (by omega) (Nat.zero_le _)

set_option maxRecDepth 100000 in
set_option maxHeartbeats 1000000 in
theorem hpPop_any (B : Nat) (w : World) (bq : Nat) (A : Option Addr) (c : Nat) (l : List Bx) (W : World) (h : HQ B w bq A c l W) (hl : l.length ≤ 900) (hn : 0 < l.length) (hg : GoodB l) (hp : Hp l 0 l.length) :
    Calls Tryd.prog 35 #[.iface 75 (.pointer (some ⟨bq, 0, none⟩))] W (PopV B w bq l) := by
  obtain ⟨n, hn⟩ : ∃ n, l.length = n + 1 := ⟨l.length - 1, by omega⟩
  obtain ⟨g, rfl⟩ := h.addr (by omega)
  have hcell := h.cell
  have hm0 := meth_len W bq l.length c _ hcell
  have hm1 := meth_swap W bq l.length c _ hcell
  have e1 : (l.length : Int) - 1 = (n : Int) := by omega
  have SW := hide (qSwap_any B w bq g c l W h 0 n (by omega) (by omega))
  have DN := hide (fun W2 (h2 : HQ B w bq (some ⟨g, 0, none⟩) c (swapL l 0 n) W2) => hpDown_any B w bq g c (swapL l 0 n) W2 h2 (hg.perm (HP.swapL_perm l 0 n)) (by rw [swapL_len]; omega) 0 0 n (by omega) (pop_dn hn hp))
  have HN := hide hn
  clear h hg hp hn
  go_enter Tryd.func35, Tryd.ntmps35
  go_wp2_with fail
  (with_reducible refine (qLen_any _ _ _ _).mono ?_)
  rintro e2 w2 ⟨rfl, rfl⟩
  go_wp2_with fail
  refine SW.out.mono ?_
  rintro e3 w3 ⟨rfl, q3⟩
  have D := hide (DN.out _ q3)
  clear q3 hm0 hm1 hcell
  go_wp2_with fail
  refine D.out.mono ?_
  rintro e4 w4 ⟨b, l', rfl, q4, p4, hp4, be4⟩
  have hl' : l'.length = n + 1 := by rw [p4.length_eq, swapL_len]; exact HN.out
  have hx : at' l' n = at' l 0 := by rw [be4 n (Nat.le_refl _), HP.at_swap (by omega) (by have := HN.out; omega), if_pos rfl]
  have hsp : l' = l'.dropLast ++ [at' l 0] := by
    rw [← hx, HP.at_lt (by omega)]
    have h0 : l' ≠ [] := by intro e; rw [e] at hl'; simp at hl'
    have := List.dropLast_concat_getLast h0
    rw [List.getLast_eq_getElem] at this
    simp only [hl', Nat.add_sub_cancel] at this
    exact this.symm
  have hdl : l'.dropLast.length = n := by rw [List.length_dropLast, hl']; rfl
  have hd : Hp l'.dropLast 0 l'.dropLast.length := by
    refine hp4.mono (by omega) (fun k hk => ?_)
    unfold at'
    rw [List.getElem?_dropLast, if_pos (by omega)]
  have pm : (l'.dropLast ++ [at' l 0]).Perm l := by rw [← hsp]; exact p4.trans (HP.swapL_perm l 0 n)
  rw [hsp] at q4
  have PP := hide (qPop_any B w bq _ c l'.dropLast (at' l 0) w4 q4 (by rw [hdl]; omega))
  have FIN := hide (And.intro pm hd)
  have hmp := meth_pop w4 ⟨bq, 0, none⟩
  clear q4 p4 hp4 be4 hl' hx hsp hdl hd pm
  generalize l'.dropLast = m at *
  obtain ⟨x, hx0⟩ : ∃ x, x = at' l 0 := ⟨_, rfl⟩
  rw [← hx0] at PP FIN
  have HX := hide hx0
  clear hx0
  go_wp2_with fail
  (with_reducible refine PP.out.mono ?_)
  rintro e5 w5 ⟨rfl, q5⟩
  have Q5 := hide q5
  clear q5 hmp
  go_wp2
  go_ret
  exact ⟨x, m, _, _, rfl, HX.out, Q5.out, FIN.out⟩

end Go.Proofs.YtkfedgjepiljiaaDoor

/- slices.Clone, DeleteFunc of boxes. -/
namespace Go.Proofs.YtkfedgjepiljiaaDoor
open Go.ChangeShapes Go.WideShapes Go.ChangeAt Go.RowKit
open FP (Fr)
abbrev slBx := slBox
def CloneBxV (l : List Bx) (w : World) (e : Ending) (w' : World) : Prop :=
  ∃ A' c', e = .returned (.slice A' l.length c') ∧ Own w' w.heap.size 60 7 A' c' (l.map bxc) ∧ Below w.heap.size w w'

set_option maxRecDepth 100000 in
set_option maxHeartbeats 1000000 in
theorem cloneBx_any (l : List Bx) (A : Option Addr) (c : Nat) (w : World) (hr : BxR w w.heap.size A l) (hl : l.length ≤ 100000) :
    Calls Tryd.prog 34 #[.slice A l.length c] w (CloneBxV l w) := by
  have hnil := fun (w : World) a n c n' c' => Lib.run_eql_slice_nil (P := Tryd.prog) w 27 60 a n c n' c' Tryd.underlying27
  rcases A with _ | a
  · have h0 : l = [] := by
      rcases l with _ | ⟨x, l⟩
      · rfl
      · obtain ⟨_, _, e, _⟩ := hr (by simp)
        cases e
    subst h0
    go_enter Tryd.func34, Tryd.ntmps34
    go_wp2
    go_ret
    exact ⟨none, 0, rfl, Own.nil, Below.refl _ _⟩
  · have O0 := hide (Own.lit w w.heap.size 60 7 [] (Nat.le_refl _) (by simp) (by simp))
    have q0 : Below w.heap.size w (w.alloc (.cells #[] 60)) := (Below.refl _ _).alloc (Nat.le_refl _) _
    have R0 := hide (BxR.next hr q0 q0.size)
    have S1 := hide (show (([] : List (List Value)).length + (l.map bxc).length) * 48 ≤ 140737488355328 by simp; omega)
    have S2 := hide (show ([] : List (List Value)).length + (l.map bxc).length ≤ maxLen by simp [maxLen]; omega)
    have S3 := hide (show l.length = (l.map bxc).length by simp)
    clear hr
    go_enter Tryd.func34, Tryd.ntmps34
    go_wp2_with (at_builtin; refine wpList_append_rows _ rfl _ _ 27 rfl slBx w.heap.size _ _ _ [] rfl O0.out _ _ _ (l.map bxc) rfl R0.out (bxc_rows l) (bxc_ones l) S1.out S2.out ?_ rfl S3.out ?_)
    · simp
    intro A4 n4 w4 o4 g4
    have q4 : Below w.heap.size w w4 := below_append q0 g4 O0.out (Nat.le_refl _) q0.size
    have O4 := hide o4
    clear o4 g4 O0 R0 S1 S2 S3 q0 hnil
    go_wp2
    go_ret
    exact ⟨A4, n4, by simp, O4.out, q4⟩

/-- What the rounds of DeleteFunc keep: the first i stay, of the first j; the rest is as it was. -/
structure DelBx (p : Bx → Bool) (l : List Bx) (i j : Nat) (m : List Bx) : Prop where
  len : m.length = l.length
  jl : j ≤ l.length
  ij : i ≤ j
  kept : m.take i = (l.take j).filter fun x => !p x
  rest : m.drop j = l.drop j
theorem DelBx.at_ {p : Bx → Bool} {l m : List Bx} {i j : Nat} (h : DelBx p l i j m) (hj : j < l.length) : m[j]'(by rw [h.len]; exact hj) = l[j] := by
  have h1 : m[j]? = l[j]? := by
    have := congrArg (fun x => x[0]?) h.rest
    simpa [List.getElem?_drop] using this
  rw [List.getElem?_eq_getElem hj, List.getElem?_eq_getElem (by rw [h.len]; exact hj)] at h1
  exact Option.some.inj h1
theorem DelBx.skip {p : Bx → Bool} {l m : List Bx} {i j : Nat} (h : DelBx p l i j m) (hj : j < l.length) (hp : p l[j] = true) : DelBx p l i (j + 1) m :=
  ⟨h.len, hj, by have := h.ij; omega, by rw [List.take_succ_eq_append_getElem hj, List.filter_append, h.kept]; simp [hp], by
    have := congrArg (List.drop 1) h.rest
    simpa [List.drop_drop, Nat.add_comm] using this⟩
theorem DelBx.keep {p : Bx → Bool} {l m : List Bx} {i j : Nat} (h : DelBx p l i j m) (hj : j < l.length) (hp : p l[j] = false) : DelBx p l (i + 1) (j + 1) (m.set i l[j]) := by
  have hi := h.ij
  have hil : i < m.length := by rw [h.len]; omega
  refine ⟨by simp [h.len], hj, by omega, ?_, ?_⟩
  · rw [List.take_succ_eq_append_getElem hj, List.filter_append, ← h.kept, List.take_succ_eq_append_getElem (by simpa using hil)]
    simp [hp, List.take_set_of_le]
  · have := congrArg (List.drop 1) h.rest
    rw [List.drop_set_of_lt (by omega)]
    simpa [List.drop_drop, Nat.add_comm] using this
theorem delBx_start {p : Bx → Bool} {l : List Bx} (h : 0 ≤ idxBx p l) : ∃ i : Nat, idxBx p l = i ∧ i < l.length ∧ DelBx p l i (i + 1) l := by
  have ha := (idxBx_nonneg p l).1 h
  unfold idxBx at h ⊢
  have hn : ¬ (l.all (fun f => !p f)) = true := by
    intro hc
    rw [if_pos hc] at h
    omega
  rw [if_neg hn]
  have hlt : l.findIdx p < l.length := List.findIdx_lt_length_of_exists (List.any_eq_true.1 ha)
  refine ⟨_, rfl, hlt, rfl, hlt, by omega, ?_, rfl⟩
  rw [List.take_succ_eq_append_getElem hlt, List.filter_append]
  have h1 : (l.take (l.findIdx p)).filter (fun x => !p x) = l.take (l.findIdx p) := by
    rw [List.filter_eq_self]
    intro x hx
    rw [List.mem_take_iff_getElem] at hx
    obtain ⟨k, hk, rfl⟩ := hx
    have := List.not_of_lt_findIdx (p := p) (xs := l) (i := k) (by omega)
    simpa using this
  have h2 : p (l[l.findIdx p]) = true := List.findIdx_getElem
  rw [h1]
  simp [h2]
theorem delBx_none {p : Bx → Bool} {l : List Bx} (h : idxBx p l < 0) : idxBx p l = -1 ∧ (l.filter fun x => !p x) = l := by
  have hn : ¬ l.any p = true := fun hc => by have := (idxBx_nonneg p l).2 hc; omega
  have ha : l.all (fun f => !p f) = true := by
    rw [List.all_eq_true]
    intro x hx
    cases hpx : p x
    · rfl
    · exact absurd (List.any_eq_true.2 ⟨x, hx, hpx⟩) hn
  refine ⟨by unfold idxBx; rw [if_pos ha], ?_⟩
  rw [List.filter_eq_self]
  exact List.all_eq_true.1 ha

theorem Bx_load (W : World) (g o : Nat) (x : Bx) (h : W.rangeAt g o (bxc x)) : (Instr.loadAt 60 (.pointer (some ⟨g, o, none⟩))).run Tryd.prog W = .ok (.agg #[.int .i64 x.h, .int .u32 x.f.id, .bool x.f.ext, .bool x.f.rem, .int .i64 x.f.dlc, .string x.f.data, .int .i64 x.s]) W :=
  run_loadAt_mid W g o 60 (bxc x) _ h Tryd.underlying60 rfl (by kernel_rfl)

end Go.Proofs.YtkfedgjepiljiaaDoor

/- box.New, Put. -/
namespace Go.Proofs.YtkfedgjepiljiaaDoor
open Go.ChangeShapes Go.WideShapes Go.ChangeAt Go.RowKit
open FP (Fr)
open HP (kB at' Hp UpI DnI)

theorem right_good {l : List Bx} {seq cap : Int} (h : rightBx l seq cap = true) (hid : ∀ x ∈ l, x.f.id < 4294967296) : GoodB l := fun x hx => by
  obtain ⟨k, hk, rfl⟩ := List.mem_iff_getElem.1 hx
  have := (rightBx_iff.1 h).2.2.2.2.2 k hk hk
  unfold okBx at this
  simp only [Bool.and_eq_true] at this
  exact ⟨this.1, hid _ hx⟩
theorem right_heap {l : List Bx} {seq cap : Int} (h : rightBx l seq cap = true) (hid : ∀ x ∈ l, x.f.id < 4294967296) : Hp l 0 l.length := fun k h0 hk _ => by
  have g := right_good h hid
  have hp : (k - 1) / 2 < l.length := by omega
  have := (rightBx_iff.1 h).2.2.2.2.2 k hk hk
  unfold okBx at this
  rw [List.getElem?_eq_getElem hp] at this
  simp only [Bool.and_eq_true, Bool.or_eq_true, decide_eq_true_eq, Bool.not_eq_true'] at this
  rcases this.2.2.2.2.2.2 with h | h
  · omega
  · rw [g.ahead hk hp] at h
    exact h

set_option maxRecDepth 100000 in
theorem bxNew_any (n : Int) (w : World) : Calls Tryd.prog 15 #[.int .i64 n] w fun e w' =>
    e = .returned (if 1 ≤ n ∧ n ≤ 8 then .tuple #[.agg #[.slice none 0 0, .int .i64 0, .int .i64 n], .int .i64 0] else .tuple #[.agg #[.slice none 0 0, .int .i64 0, .int .i64 0], .int .i64 1]) ∧ Below w.heap.size w w' := by
  by_cases h : 1 ≤ n ∧ n ≤ 8
  · rw [if_pos h]
    obtain ⟨h1, h2⟩ := h
    go_enter Tryd.func15, Tryd.ntmps15
    go_wp2
    refine bodyPost_ret (v := .tuple #[.agg #[.slice none 0 0, .int .i64 0, .int .i64 n], .int .i64 0]) (by simp [results, Tryd.results15, go_sem]) rfl ⟨rfl, (Below.refl _ _).alloc (Nat.le_refl _) _⟩
  · rw [if_neg h]
    rcases (show n < 1 ∨ 8 < n by omega) with h1 | h1
    all_goals
      clear h
      go_enter Tryd.func15, Tryd.ntmps15
      go_wp2
      all_goals
        refine bodyPost_ret (v := .tuple #[.agg #[.slice none 0 0, .int .i64 0, .int .i64 0], .int .i64 1]) (by simp [results, Tryd.results15, go_sem]) rfl ⟨rfl, (Below.refl _ _).alloc (Nat.le_refl _) _⟩

/-- A queue just laid. -/
theorem HQ.new {w W : World} {A : Option Addr} {c : Nat} {l : List Bx} (ho : Own W w.heap.size 60 7 A c (l.map bxc)) (q : Below w.heap.size w W) : HQ w.heap.size w W.heap.size A c l (W.alloc (.cells #[.slice A l.length c] 73)) :=
  ⟨World.alloc_heap_new W _, ho.alloc _, q.alloc q.size _, q.size⟩

def PutV (l : List Bx) (x : Bx) (seq cap : Int) (w : World) (e : Ending) (w' : World) : Prop :=
  ∃ A c l', e = .returned (.tuple #[.agg #[.slice A l'.length c, .int .i64 (seq + 1), .int .i64 cap], .int .i64 0]) ∧ Own w' w.heap.size 60 7 A c (l'.map bxc) ∧ l'.Perm (l ++ [x]) ∧ Hp l' 0 l'.length ∧ Below w.heap.size w w'

set_option maxRecDepth 100000 in
set_option maxHeartbeats 2000000 in
theorem put_ok (l : List Bx) (A : Option Addr) (c : Nat) (seq cap handle : Int) (f : Fr) (w : World) (hr : BxR w w.heap.size A l) (hcl : l.length ≤ c) (hid : ∀ x ∈ l, x.f.id < 4294967296) (hf : f.id < 4294967296)
    (hR : rightBx l seq cap = true) (h0 : 0 ≤ handle) (h1 : handle ≤ 1000000) (hfr : FP.rightB f = true) (hs : seq < 1099511627776) (hlc : (l.length : Int) < cap) :
    Calls Tryd.prog 23 #[.agg #[.slice A l.length c, .int .i64 seq, .int .i64 cap], .int .i64 handle, .agg #[.int .u32 f.id, .bool f.ext, .bool f.rem, .int .i64 f.dlc, .string f.data]] w (PutV l ⟨handle, f, seq⟩ seq cap w) := by
  obtain ⟨r1, r2, r3, r4, r5, _⟩ := rightBx_iff.1 hR
  have RI := hide (fun W (q : Below w.heap.size w W) => bxRight_any l A c seq cap W (hr.next q q.size) (by omega) hcl hid)
  rw [hR] at RI
  have RF := hide (fun W => frRight_any f W hf)
  rw [hfr] at RF
  have CL := hide (fun W (q : Below w.heap.size w W) => cloneBx_any l A c W (hr.next q q.size) (by omega))
  have HG := hide (show GoodB (l ++ [⟨handle, f, seq⟩]) from fun x hx => by
    rcases List.mem_append.1 hx with h | h
    · exact right_good hR hid x h
    · rw [List.mem_singleton] at h
      subst h
      exact ⟨hfr, hf⟩)
  have HH := hide (right_heap hR hid)
  have q0 : Below w.heap.size w (((w.alloc (.cells #[.slice A l.length c, .int .i64 seq, .int .i64 cap] 29)).alloc (.cells #[.int .u32 f.id, .bool f.ext, .bool f.rem, .int .i64 f.dlc, .string f.data] 24)).alloc (.cells #[.slice none 0 0, .int .i64 0, .int .i64 0] 29)) :=
    (((Below.refl _ _).alloc (Nat.le_refl _) _).alloc (by simp) _).alloc (by simp; omega) _
  clear hr hid hR hfr
  obtain ⟨id, ext, rem, dlc, data⟩ := f
  dsimp only at *
  go_enter Tryd.func23, Tryd.ntmps23
  go_wp2_with fail
  (with_reducible refine (RI.out _ q0).mono ?_)
  rintro e1 w1 ⟨rfl, q1⟩
  have q1' := below_next q0 q0.size q1
  obtain ⟨hc1, hz1⟩ := bcell q1
  have z1 : w.heap.size + 2 < w1.heap.size := by simp at hz1; omega
  have z1a : w.heap.size + 1 < w1.heap.size := by omega
  have z1b : w.heap.size < w1.heap.size := by omega
  go_wp2_with fail
  (with_reducible refine (RF.out _).mono ?_)
  rintro e2 w2 ⟨rfl, q2⟩
  have q2' := below_next q1' q1'.size q2
  obtain ⟨hc2, hz2⟩ := bcell q2
  go_wp2_with fail
  (with_reducible refine (CL.out _ q2').mono ?_)
  rintro e3 w3 ⟨A3, c3, rfl, o3, q3⟩
  have q3' := below_next q2' q2'.size q3
  obtain ⟨hc3, hz3⟩ := bcell q3
  have H3 := hide (HQ.new o3 q3)
  have q12 := q1.trans (q2.mono q1.size)
  have q2k := q2'
  have z3 : w.heap.size + 3 ≤ w3.heap.size := by have := q2.size; have := q3.size; omega
  have z2 : w.heap.size + 3 ≤ w2.heap.size := by have := q2.size; omega
  clear o3
  go_wp2_with fail
  have q4' : Below w.heap.size w (w3.alloc (.cells #[.slice A3 l.length c3] 73)) := q3'.alloc q3'.size _
  have z4 : w3.heap.size < (w3.alloc (.cells #[.slice A3 l.length c3] 73)).heap.size := by simp
  have Q4 : Below (w.heap.size + 3) (((w.alloc (.cells #[.slice A l.length c, .int .i64 seq, .int .i64 cap] 29)).alloc (.cells #[.int .u32 id, .bool ext, .bool rem, .int .i64 dlc, .string data] 24)).alloc (.cells #[.slice none 0 0, .int .i64 0, .int .i64 0] 29)) (w3.alloc (.cells #[.slice A3 l.length c3] 73)) :=
    ((((by simpa using q1 : Below (w.heap.size + 3) _ w1).trans (q2.mono (by omega))).trans (q3.mono (by omega))).alloc (by omega) _)
  have CELLS := hide (show ∀ W, Below (w.heap.size + 3) (((w.alloc (.cells #[.slice A l.length c, .int .i64 seq, .int .i64 cap] 29)).alloc (.cells #[.int .u32 id, .bool ext, .bool rem, .int .i64 dlc, .string data] 24)).alloc (.cells #[.slice none 0 0, .int .i64 0, .int .i64 0] 29)) W → W.cell? ⟨w.heap.size, 1, none⟩ = some (.int .i64 seq) ∧ W.cell? ⟨w.heap.size, 2, none⟩ = some (.int .i64 cap) ∧ W.cell? ⟨w.heap.size + 1, 0, none⟩ = some (.int .u32 id) ∧ W.cell? ⟨w.heap.size + 1, 1, none⟩ = some (.bool ext) ∧ W.cell? ⟨w.heap.size + 1, 2, none⟩ = some (.bool rem) ∧ W.cell? ⟨w.heap.size + 1, 3, none⟩ = some (.int .i64 dlc) ∧ W.cell? ⟨w.heap.size + 1, 4, none⟩ = some (.string data) ∧ W.cell? ⟨w.heap.size + 1 + 1, 0, none⟩ = some (.slice none 0 0) ∧ W.cell? ⟨w.heap.size + 1 + 1, 1, none⟩ = some (.int .i64 0) ∧ W.cell? ⟨w.heap.size + 1 + 1, 2, none⟩ = some (.int .i64 0) from fun W Q => ⟨cellBelow Q (by omega) (by simp [go_sem]), cellBelow Q (by omega) (by simp [go_sem]), cellBelow Q (by omega) (by simp [go_sem]), cellBelow Q (by omega) (by simp [go_sem]), cellBelow Q (by omega) (by simp [go_sem]), cellBelow Q (by omega) (by simp [go_sem]), cellBelow Q (by omega) (by simp [go_sem]), cellBelow Q (by omega) (by simp [go_sem]), cellBelow Q (by omega) (by simp [go_sem]), cellBelow Q (by omega) (by simp [go_sem])⟩)
  generalize w3.alloc (.cells #[.slice A3 l.length c3] 73) = w4 at *
  clear hc1 hc2 hc3 hz1 hz2 hz3 q1' q2' q3' q1 q3 q0
  have CL4 := CELLS.out w4 Q4
  refine wp_region_tame (by kernel_rfl) (by kernel_rfl) ?_
  have ml := fun s : InW w4 => meth_len s.W w3.heap.size l.length c3 A3 (H3.out.below s.h).cell
  have mc := fun s : InW w4 => s.cell (by omega) CL4.2.1
  clear CL4
  repeat (go_big_quiet_step (first | (go_at_call 114; exact tame_same (qLen_any _ _ _ _))))
  refine wpQuiet_nil ?_
  rintro _ ⟨s, rfl⟩
  obtain ⟨w5, q5⟩ := s
  dsimp only
  have H5 := hide (H3.out.below q5)
  have q5w : Below w.heap.size w w2 := q2k
  have Q5 := Q4.trans (q5.mono (by omega))
  obtain ⟨d1, d2, d3, d4, d5, d6, d7, d8, d9, d10⟩ := CELLS.out w5 Q5
  have PU := hide (hpPush_any w2.heap.size w2 w3.heap.size A3 c3 l ⟨handle, ⟨id, ext, rem, dlc, data⟩, seq⟩ w5 H5.out (by omega) HG.out HH.out)
  clear ml mc H3 q4' q5 Q4
  go_wp2_with fail
  (with_reducible refine PU.out.mono ?_)
  rintro e6 w6 ⟨rfl, A6, c6, l6, h6, p6, hp6⟩
  have hcell := h6.cell
  have Q6 : Below (w.heap.size + 3) (((w.alloc (.cells #[.slice A l.length c, .int .i64 seq, .int .i64 cap] 29)).alloc (.cells #[.int .u32 id, .bool ext, .bool rem, .int .i64 dlc, .string data] 24)).alloc (.cells #[.slice none 0 0, .int .i64 0, .int .i64 0] 29)) w6 := by
    have h2 := (by simpa using q12 : Below (w.heap.size + 3) _ w2)
    exact h2.trans (h6.q.mono (by omega))
  clear d1 d2 d3 d4 d5 d6 d7 d8 d9 d10
  obtain ⟨d1, d2, d3, d4, d5, d6, d7, d8, d9, d10⟩ := CELLS.out w6 Q6
  have hfz : ∀ b o, b < w.heap.size + 3 → w6.frozen? ⟨b, o, none⟩ = (((w.alloc (.cells #[.slice A l.length c, .int .i64 seq, .int .i64 cap] 29)).alloc (.cells #[.int .u32 id, .bool ext, .bool rem, .int .i64 dlc, .string data] 24)).alloc (.cells #[.slice none 0 0, .int .i64 0, .int .i64 0] 29)).frozen? ⟨b, o, none⟩ := fun b o h => Q6.frozen (p := ⟨b, o, none⟩) h
  have FIN := hide (And.intro h6 (And.intro p6 hp6))
  have AB := hide (own_blk h6.own)
  have QW : Below w.heap.size w w6 := q5w.trans (h6.q.mono (by omega))
  clear h6 p6 hp6 PU H5
  go_wp2
  refine bodyPost_ret (v := .tuple #[.agg #[.slice A6 l6.length c6, .int .i64 (seq + 1), .int .i64 cap], .int .i64 0]) (by simp [results, Tryd.results23, go_sem, d8, d9, d10]) rfl ⟨A6, c6, l6, rfl, ?_, FIN.out.2.1, FIN.out.2.2, ?_⟩
  · have hx : w.heap.size + 1 + 1 < w2.heap.size := by omega
    exact (own_setj (own_setj (own_setj FIN.out.1.own hx 0 (.slice A6 l6.length c6)) hx 1 (.int .i64 (seq + 1))) hx 2 (.int .i64 cap)).mono (by omega)
  · exact ((QW.setCell (by simp; omega) _).setCell (by simp; omega) _).setCell (by simp; omega) _
end Go.Proofs.YtkfedgjepiljiaaDoor
