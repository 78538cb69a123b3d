/- Results that lie in blocks of the call's own, whole. Nothing of the program's text. -/
import Derived.Test.YtkfedgjepiljiaaDoorOwS
import Derived.Laws.Rows
import Derived.Test.YtkfedgjepiljiaaDoorMgRfP
import Derived.Test.YtkfedgjepiljiaaDoorOrdL
import Derived.Test.YtkfedgjepiljiaaDoorMgBxL
import Derived.Test.YtkfedgjepiljiaaDoorBxA
namespace Go.Proofs.YtkfedgjepiljiaaDoor
open Go.ChangeShapes Go.WideShapes Go.ChangeAt Go.RowKit

theorem results_cell_tmp {P : Program} {fn : Func} {p q : Tmp} {ty : TypeId} (h : fn.results = #[.cell p ty, .tmp q]) (tmps : Array Value) (w : World) (g : Nat) (t : TypeId) (cs : Array Value) (fr : Nat × Nat) (d : TypeDesc) (v : Value)
    (hp : tmps.getD p undef = .pointer (some ⟨g, 0, none⟩)) (hq : tmps.getD q undef = v) (hg : w.heap[g]? = some (.cells cs t fr))
    (hu : P.underlying ty = some d) (hd : (match d with | .struct _ | .array _ _ => true | _ => false) = true) (hi : (P.info? ty).map (·.size) = some cs.size) :
    (results fn tmps).run P w = .ok (.tuple #[.agg cs, v]) w := by
  have hp' : tmps[p]?.getD undef = .pointer (some ⟨g, 0, none⟩) := by simpa using hp
  have hq' : tmps[q]?.getD undef = v := by simpa using hq
  simp [results, h, hp', hq', asAddr, run_loadVar_row w g t ty cs fr d hg hu hd hi]
theorem results_cell_tmp2 {P : Program} {fn : Func} {p q r : Tmp} {ty : TypeId} (h : fn.results = #[.cell p ty, .tmp q, .tmp r]) (tmps : Array Value) (w : World) (g : Nat) (t : TypeId) (cs : Array Value) (fr : Nat × Nat) (d : TypeDesc) (v u : Value)
    (hp : tmps.getD p undef = .pointer (some ⟨g, 0, none⟩)) (hq : tmps.getD q undef = v) (hr : tmps.getD r undef = u) (hg : w.heap[g]? = some (.cells cs t fr))
    (hu : P.underlying ty = some d) (hd : (match d with | .struct _ | .array _ _ => true | _ => false) = true) (hi : (P.info? ty).map (·.size) = some cs.size) :
    (results fn tmps).run P w = .ok (.tuple #[.agg cs, v, u]) w := by
  have hp' : tmps[p]?.getD undef = .pointer (some ⟨g, 0, none⟩) := by simpa using hp
  have hq' : tmps[q]?.getD undef = v := by simpa using hq
  have hr' : tmps[r]?.getD undef = u := by simpa using hr
  simp [results, h, hp', hq', hr', asAddr, run_loadVar_row w g t ty cs fr d hg hu hd hi]
theorem results_cell2_tmp {P : Program} {fn : Func} {p p2 q : Tmp} {ty ty2 : TypeId} (h : fn.results = #[.cell p ty, .cell p2 ty2, .tmp q]) (tmps : Array Value) (w : World) (g g2 : Nat) (t t2 : TypeId) (cs cs2 : Array Value) (fr fr2 : Nat × Nat) (d d2 : TypeDesc) (v : Value)
    (hp : tmps.getD p undef = .pointer (some ⟨g, 0, none⟩)) (hp2 : tmps.getD p2 undef = .pointer (some ⟨g2, 0, none⟩)) (hq : tmps.getD q undef = v) (hg : w.heap[g]? = some (.cells cs t fr)) (hg2 : w.heap[g2]? = some (.cells cs2 t2 fr2))
    (hu : P.underlying ty = some d) (hd : (match d with | .struct _ | .array _ _ => true | _ => false) = true) (hi : (P.info? ty).map (·.size) = some cs.size)
    (hu2 : P.underlying ty2 = some d2) (hd2 : (match d2 with | .struct _ | .array _ _ => true | _ => false) = true) (hi2 : (P.info? ty2).map (·.size) = some cs2.size) :
    (results fn tmps).run P w = .ok (.tuple #[.agg cs, .agg cs2, v]) w := by
  have hp' : tmps[p]?.getD undef = .pointer (some ⟨g, 0, none⟩) := by simpa using hp
  have hpp : tmps[p2]?.getD undef = .pointer (some ⟨g2, 0, none⟩) := by simpa using hp2
  have hq' : tmps[q]?.getD undef = v := by simpa using hq
  simp [results, h, hp', hpp, hq', asAddr, run_loadVar_row w g t ty cs fr d hg hu hd hi, run_loadVar_row w g2 t2 ty2 cs2 fr2 d2 hg2 hu2 hd2 hi2]
end Go.Proofs.YtkfedgjepiljiaaDoor

/- What stands between what is sent and a controller: its cells; canif.Right, New. -/
namespace Go.Proofs.YtkfedgjepiljiaaDoor
open Go.ChangeShapes Go.WideShapes Go.ChangeAt Go.RowKit
open FP (Fr)

structure Fi where
  A : Option Addr
  m : List Bx
  c : Nat
  seq : Int
  cap : Int
  has : Int
  on : Bool
  sent : Int
  lost : Int
def Fi.cs (x : Fi) : List Value := [.slice x.A x.m.length x.c, .int .i64 x.seq, .int .i64 x.cap, .int .i64 x.has, .bool x.on, .int .i64 x.sent, .int .i64 x.lost]
structure Fi.Ok (x : Fi) (w : World) : Prop where
  r : BxR w w.heap.size x.A x.m
  cl : x.m.length ≤ x.c
  id : ∀ b ∈ x.m, b.f.id < 4294967296
  rt : rightBx x.m x.seq x.cap = true
  hs : -1 ≤ x.has ∧ x.has ≤ 1000000
  st : 0 ≤ x.sent ∧ x.sent ≤ 1099511627776
  lt : 0 ≤ x.lost ∧ x.lost ≤ 1099511627776
  off : x.on = false → x.has = -1 ∧ x.m = []
theorem Fi.Ok.next {o : Fi} {w w' : World} (h : o.Ok w) (q : Below w.heap.size w w') : o.Ok w' := ⟨Rd.next h.r q q.size, h.cl, h.id, h.rt, h.hs, h.st, h.lt, h.off⟩
theorem fi_cells {W : World} {B : Nat} {x : Fi} {t : TypeId} {fz : Nat × Nat} (h : W.heap[B]? = some (.cells x.cs.toArray t fz)) :
    W.cell? ⟨B, 0, none⟩ = some (.slice x.A x.m.length x.c) ∧ W.cell? ⟨B, 1, none⟩ = some (.int .i64 x.seq) ∧ W.cell? ⟨B, 2, none⟩ = some (.int .i64 x.cap) ∧ W.cell? ⟨B, 3, none⟩ = some (.int .i64 x.has) ∧ W.cell? ⟨B, 4, none⟩ = some (.bool x.on) ∧ W.cell? ⟨B, 5, none⟩ = some (.int .i64 x.sent) ∧ W.cell? ⟨B, 6, none⟩ = some (.int .i64 x.lost) := by
  simp [World.cell?, h, Fi.cs]
theorem fi_len {x : Fi} {w : World} (h : x.Ok w) : x.m.length ≤ 8 := by
  obtain ⟨_, r2, r3, _⟩ := rightBx_iff.1 h.rt
  omega

set_option maxRecDepth 100000 in
set_option maxHeartbeats 4000000 in
theorem cnRight_ok (x : Fi) (w : World) (ho : x.Ok w) : Calls Tryd.prog 28 #[.agg x.cs.toArray] w fun e w' => e = .returned (.bool true) ∧ Below w.heap.size w w' := by
  obtain ⟨w0, hw0⟩ : ∃ w0, w0 = w.alloc (.cells x.cs.toArray 31) := ⟨_, rfl⟩
  have B0 := hide (World.alloc_heap_new w (.cells x.cs.toArray 31))
  have Q0 : Hid (Below w.heap.size w w0) := by rw [hw0]; exact hide ((Below.refl _ _).alloc (Nat.le_refl _) _)
  rw [← hw0] at B0
  have h8 := fi_len ho
  have o0 := ho.next Q0.out
  have RI := hide (show Calls Tryd.prog 36 #[.agg #[.slice x.A x.m.length x.c, .int .i64 x.seq, .int .i64 x.cap]] w0 fun e w' => e = .returned (.bool true) ∧ Below w0.heap.size w0 w' from by
    have := bxRight_any x.m x.A x.c x.seq x.cap w0 o0.r (by omega) ho.cl ho.id
    rwa [ho.rt] at this)
  have HS := hide ho.hs
  have ST := hide ho.st
  have LT := hide ho.lt
  have OF := hide ho.off
  obtain ⟨c0, c1, c2, c3, c4, c5, c6⟩ := fi_cells B0.out
  clear ho o0
  obtain ⟨A, m, c, seq, cap, has, on, sent, lost⟩ := x
  dsimp only at *
  go_enter Tryd.func28, Tryd.ntmps28
  go_upto_region 1 with fail
  change Code.wp _ _ _ _ (w.alloc (.cells (Fi.cs ⟨A, m, c, seq, cap, has, on, sent, lost⟩).toArray 31))
  rw [← hw0]
  clear hw0
  go_wp2_with fail
  (with_reducible refine (RI.out).mono ?_)
  rintro e1 w1 ⟨rfl, q1⟩
  have B1 := hide (heap_below B0.out q1)
  have Q1 := hide (below_next Q0.out Q0.out.size q1)
  clear q1 B0 Q0 RI c0 c1 c2 c3 c4 c5 c6
  obtain ⟨c0, c1, c2, c3, c4, c5, c6⟩ := fi_cells B1.out
  dsimp only at c0 c1 c2 c3 c4 c5 c6
  obtain ⟨s1, s2⟩ := HS.out
  obtain ⟨s3, s4⟩ := ST.out
  obtain ⟨s5, s6⟩ := LT.out
  cases on with
  | true =>
    go_wp2_with fail
    go_ret
    exact ⟨rfl, Q1.out⟩
  | false =>
    obtain ⟨rfl, rfl⟩ := OF.out rfl
    go_wp2_with fail
    go_ret
    exact ⟨rfl, Q1.out⟩
end Go.Proofs.YtkfedgjepiljiaaDoor

/- The plain law of BoxOrder: which boxes are put, and in which order they are taken. -/
namespace Go.Proofs.YtkfedgjepiljiaaDoor
open FP (Fr)
open HP (kB at' Hp)
open OP (atF bestTo orderF)

/-- The boxes that are put, of the first k frames. -/
def bsK (l : List Fr) : Nat → List Bx
  | 0 => []
  | k + 1 => if k < 8 ∧ FP.rightB (cutF (atF l k)) = true then bsK l k ++ [⟨k, cutF (atF l k), (bsK l k).length⟩] else bsK l k
theorem bsK_len (l : List Fr) : ∀ k, (bsK l k).length ≤ min k 8
  | 0 => by simp [bsK]
  | k + 1 => by
    have := bsK_len l k
    unfold bsK
    split
    · rw [List.length_append, List.length_singleton]; omega
    · omega
theorem bsK_mem (l : List Fr) (hid : ∀ k, (atF l k).id < 4294967296) : ∀ k, ∀ x ∈ bsK l k, okM ((bsK l k).length : Int) x ∧ x.f.id < 4294967296
  | 0, x, h => by simp [bsK] at h
  | k + 1, x, h => by
    unfold bsK at h ⊢
    split at h
    · rename_i hc
      rw [if_pos hc, List.length_append, List.length_singleton]
      rcases List.mem_append.1 h with h | h
      · obtain ⟨⟨a, b, c, d, e⟩, f⟩ := bsK_mem l hid k x h
        exact ⟨⟨a, b, c, d, by omega⟩, f⟩
      · rw [List.mem_singleton] at h
        subst h
        exact ⟨⟨hc.2, by show (0 : Int) ≤ (k : Int); omega, by show (k : Int) ≤ 1000000; omega, by show (0 : Int) ≤ ((bsK l k).length : Int); omega, by show ((bsK l k).length : Int) < _; omega⟩, hid k⟩
    · rename_i hc
      rw [if_neg hc]
      exact bsK_mem l hid k x h
theorem bsK_inc (l : List Fr) (hid : ∀ k, (atF l k).id < 4294967296) : ∀ k, (bsK l k).Pairwise (fun x y => x.s < y.s)
  | 0 => by simp [bsK]
  | k + 1 => by
    unfold bsK
    split
    · rw [List.pairwise_append]
      refine ⟨bsK_inc l hid k, by simp, fun x hx y hy => ?_⟩
      rw [List.mem_singleton] at hy
      subst hy
      exact (bsK_mem l hid k x hx).1.2.2.2.2
    · exact bsK_inc l hid k
theorem bsK_right {l : List Fr} (hid : ∀ k, (atF l k).id < 4294967296) {k : Nat} {m : List Bx} (p : m.Perm (bsK l k)) (hh : Hp m 0 m.length) : rightBx m (bsK l k).length 8 = true := by
  have hl := bsK_len l k
  have hml := p.length_eq
  exact right_iff.2 ⟨by omega, by omega, by omega, by omega, by omega, fun x hx => (bsK_mem l hid k x (p.mem_iff.1 hx)).1, ne_perm p (inc_ne (bsK_inc l hid k)), hh⟩

/-- Order's rest, of boxes. -/
def restB (bs : List Bx) : List Bx := bs.take (bestTo (bs.map (·.f)) bs.length) ++ bs.drop (bestTo (bs.map (·.f)) bs.length + 1)
theorem restB_inc {bs : List Bx} (h : bs.Pairwise (fun x y => x.s < y.s)) : (restB bs).Pairwise (fun x y => x.s < y.s) := by
  refine h.sublist ?_
  unfold restB
  have h1 : (bs.take (bestTo (bs.map (·.f)) bs.length) ++ bs.drop (bestTo (bs.map (·.f)) bs.length + 1)).Sublist (bs.take (bestTo (bs.map (·.f)) bs.length) ++ bs.drop (bestTo (bs.map (·.f)) bs.length)) :=
    List.Sublist.append (List.Sublist.refl _) (List.drop_sublist_drop_left _ (Nat.le_succ _))
  rwa [List.take_append_drop] at h1
theorem restB_perm {bs : List Bx} (h0 : 0 < bs.length) : (restB bs ++ [at' bs (bestTo (bs.map (·.f)) bs.length)]).Perm bs := by
  have hb := OP.bestTo_lt (bs.map (·.f)) bs.length h0
  rw [HP.at_lt hb]
  refine List.perm_append_comm.trans ?_
  have e : bs.take (bestTo (bs.map (·.f)) bs.length) ++ bs[bestTo (bs.map (·.f)) bs.length] :: bs.drop (bestTo (bs.map (·.f)) bs.length + 1) = bs := by rw [← List.drop_eq_getElem_cons hb, List.take_append_drop]
  have := (List.perm_middle (a := bs[bestTo (bs.map (·.f)) bs.length]) (l₁ := bs.take (bestTo (bs.map (·.f)) bs.length)) (l₂ := bs.drop (bestTo (bs.map (·.f)) bs.length + 1))).symm
  rwa [e] at this
theorem order_restB {bs : List Bx} (h0 : 0 < bs.length) : orderF (bs.map (·.f)) = (at' bs (bestTo (bs.map (·.f)) bs.length)).f :: orderF ((restB bs).map (·.f)) := by
  have hb := OP.bestTo_lt (bs.map (·.f)) bs.length h0
  rw [OP.orderF_step (by simpa using h0), List.length_map, OP.atF_lt (by simpa using hb), HP.at_lt hb]
  unfold restB
  simp [List.map_take, List.map_drop]
/-- What Take leaves is what Order goes on with. -/
theorem take_rest {m m' bs : List Bx} (hp : m.Perm bs) (hg : ∀ x ∈ bs, FP.rightB x.f = true) (hs : bs.Pairwise (fun x y => x.s < y.s)) (hh : Hp m 0 m.length) (h0 : 0 < bs.length) (ht : (m' ++ [at' m 0]).Perm m) : m'.Perm (restB bs) := by
  have e := first_best hp hg hs hh h0
  have h1 := (ht.trans hp).trans (restB_perm h0).symm
  rw [e] at h1
  exact (List.perm_append_right_iff _).1 h1
end Go.Proofs.YtkfedgjepiljiaaDoor

/- The plain law of taking: the boxes that are left are taken in the order that is left. -/
namespace Go.Proofs.YtkfedgjepiljiaaDoor
open FP (Fr)
open HP (kB at' Hp)
open OP (atF bestTo orderF)

/-- What is known when j boxes have been taken, last the one with the number 'last'; bs are left, m is their heap. -/
structure TkP (p : Bx → Prop) (ins : List Fr) (seq : Int) (j : Nat) (last : Int) (m bs : List Bx) : Prop where
  perm : m.Perm bs
  heap : Hp m 0 m.length
  inc : bs.Pairwise (fun x y => x.s < y.s)
  ok : ∀ x ∈ bs, okM seq x ∧ x.f.id < 4294967296 ∧ p x
  s0 : 0 ≤ seq
  s1 : seq ≤ 1099511627776
  len : bs.length ≤ 8
  drop : (orderF ins).drop j = orderF (bs.map (·.f))
  last : 0 < j → ∀ x ∈ bs, fieldF (atF (orderF ins) (j - 1)) = fieldF x.f → last < x.s

section
variable {p : Bx → Prop} {ins : List Fr} {seq : Int} {j : Nat} {last : Int} {m m' bs : List Bx}
theorem TkP.mlen (h : TkP p ins seq j last m bs) : m.length = (orderF ins).length - j := by
  rw [h.perm.length_eq, ← List.length_drop, h.drop, OP.orderF_len, List.length_map]
theorem TkP.right (h : TkP p ins seq j last m bs) : rightBx m seq 8 = true := by
  have := h.perm.length_eq
  have := h.len
  exact right_iff.2 ⟨by omega, by omega, by omega, h.s0, h.s1, fun x hx => (h.ok x (h.perm.mem_iff.1 hx)).1, ne_perm h.perm (inc_ne h.inc), h.heap⟩
theorem TkP.id (h : TkP p ins seq j last m bs) : ∀ x ∈ m, x.f.id < 4294967296 := fun x hx => (h.ok x (h.perm.mem_iff.1 hx)).2.1
theorem TkP.step (h : TkP p ins seq j last m bs) (hj : j < (orderF ins).length) (ht : (m' ++ [at' m 0]).Perm m) (hh : Hp m' 0 m'.length) :
    (at' m 0).f = (orderF ins)[j] ∧ p (at' m 0) ∧ (0 < j → fieldF (atF (orderF ins) (j - 1)) = fieldF (orderF ins)[j] → last < (at' m 0).s) ∧ TkP p ins seq (j + 1) (at' m 0).s m' (restB bs) := by
  have hml := h.mlen
  have hpl := h.perm.length_eq
  have h0 : 0 < bs.length := by omega
  have hg : ∀ x ∈ bs, FP.rightB x.f = true := fun x hx => (h.ok x hx).1.1
  have e := first_best h.perm hg h.inc h.heap h0
  have hb := OP.bestTo_lt (bs.map (·.f)) bs.length h0
  have hmem : at' m 0 ∈ bs := by rw [e, HP.at_lt hb]; exact List.getElem_mem _
  have hd := h.drop
  rw [List.drop_eq_getElem_cons hj, order_restB h0, ← e] at hd
  injection hd with hd1 hd2
  have hperm := take_rest h.perm hg h.inc h.heap h0 ht
  have hrp := restB_perm h0
  have hsub : ∀ x ∈ restB bs, x ∈ bs := fun x hx => hrp.mem_iff.1 (List.mem_append_left _ hx)
  refine ⟨hd1.symm, (h.ok _ hmem).2.2, fun h0j hf => h.last h0j _ hmem (by rw [hf, hd1]), ⟨hperm, hh, restB_inc h.inc, fun x hx => h.ok x (hsub x hx), h.s0, h.s1, ?_, hd2, fun _ x hx hf => ?_⟩⟩
  · have := hrp.length_eq
    have := h.len
    rw [List.length_append, List.length_singleton] at *
    omega
  · rw [Nat.add_sub_cancel, OP.atF_lt hj, hd1] at hf
    have hxm : x ∈ m' := hperm.mem_iff.2 hx
    have hne : x.s ≠ (at' m 0).s := by
      have h1 := ne_perm (ht.trans h.perm) (inc_ne h.inc)
      exact (List.pairwise_append.1 h1).2.2 x hxm _ (List.mem_singleton.2 rfl)
    have hk : kB x (at' m 0) = false := by
      obtain ⟨i, hi, rfl⟩ := List.mem_iff_getElem.1 (h.perm.mem_iff.2 (hsub x hx))
      have := h.heap.first i hi
      rwa [HP.at_lt hi] at this
    rcases HP.kB_cases x (at' m 0) with ⟨_, h1⟩ | ⟨h1, _⟩
    · rw [h1] at hk
      have := of_decide_eq_false hk
      omega
    · exact absurd hf.symm h1
end
end Go.Proofs.YtkfedgjepiljiaaDoor

/- What the box statements share: blocks read in a tame region; what lies while boxes are taken. -/
namespace Go.Proofs.YtkfedgjepiljiaaDoor
open Go.ChangeShapes Go.WideShapes Go.ChangeAt Go.RowKit
open FP (Fr)
open HP (kB at' Hp)
open OP (atF bestTo orderF)

theorem frBox_s {W : World} {B : Nat} {f : Fr} {t : TypeId} {fz : Nat × Nat} (h : W.heap[B]? = some (.cells #[.int .u32 f.id, .bool f.ext, .bool f.rem, .int .i64 f.dlc, .string f.data] t fz)) (s : InW W) :
    s.W.cell? ⟨B, 0, none⟩ = some (.int .u32 f.id) ∧ s.W.cell? ⟨B, 1, none⟩ = some (.bool f.ext) ∧ s.W.cell? ⟨B, 2, none⟩ = some (.bool f.rem) ∧ s.W.cell? ⟨B, 3, none⟩ = some (.int .i64 f.dlc) ∧ s.W.cell? ⟨B, 4, none⟩ = some (.string f.data) := by
  have h' := heap_below h s.h
  refine ⟨?_, ?_, ?_, ?_, ?_⟩ <;> simp [World.cell?, h']
theorem fr_cells {W : World} {B : Nat} {f : Fr} {t : TypeId} {fz : Nat × Nat} (h : W.heap[B]? = some (.cells #[.int .u32 f.id, .bool f.ext, .bool f.rem, .int .i64 f.dlc, .string f.data] t fz)) :
    W.cell? ⟨B, 0, none⟩ = some (.int .u32 f.id) ∧ W.cell? ⟨B, 1, none⟩ = some (.bool f.ext) ∧ W.cell? ⟨B, 2, none⟩ = some (.bool f.rem) ∧ W.cell? ⟨B, 3, none⟩ = some (.int .i64 f.dlc) ∧ W.cell? ⟨B, 4, none⟩ = some (.string f.data) := by
  refine ⟨?_, ?_, ?_, ?_, ?_⟩ <;> simp [World.cell?, h]
theorem bxBox_s {W : World} {B : Nat} {x : Bx} {t : TypeId} {fz : Nat × Nat} (h : W.heap[B]? = some (.cells #[.int .i64 x.h, .int .u32 x.f.id, .bool x.f.ext, .bool x.f.rem, .int .i64 x.f.dlc, .string x.f.data, .int .i64 x.s] t fz)) (s : InW W) :
    s.W.cell? ⟨B, 0, none⟩ = some (.int .i64 x.h) ∧ s.W.cell? ⟨B, 1, none⟩ = some (.int .u32 x.f.id) ∧ s.W.cell? ⟨B, 2, none⟩ = some (.bool x.f.ext) ∧ s.W.cell? ⟨B, 3, none⟩ = some (.bool x.f.rem) ∧ s.W.cell? ⟨B, 4, none⟩ = some (.int .i64 x.f.dlc) ∧ s.W.cell? ⟨B, 5, none⟩ = some (.string x.f.data) ∧ s.W.cell? ⟨B, 6, none⟩ = some (.int .i64 x.s) := by
  have h' := heap_below h s.h
  refine ⟨?_, ?_, ?_, ?_, ?_, ?_, ?_⟩ <;> simp [World.cell?, h']

/-- What lies when j boxes have been taken. -/
structure BoT (p : Bx → Prop) (ins : List Fr) (seq : Int) (w1 : World) (Aw : Option Addr) (j : Nat) (last : Int) (Am : Option Addr) (cm : Nat) (m bs : List Bx) (W : World) : Prop where
  box : W.heap[w1.heap.size]? = some (.cells #[.slice Am m.length cm, .int .i64 seq, .int .i64 8] 29 (0, 0))
  own : Own W (w1.heap.size + 1) 60 7 Am cm (m.map bxc)
  want : FrR W W.heap.size Aw (orderF ins)
  q : Below w1.heap.size w1 W
  t : TkP p ins seq j last m bs

theorem BoT.below {p : Bx → Prop} {ins : List Fr} {seq : Int} {w1 : World} {Aw : Option Addr} {j : Nat} {last : Int} {Am : Option Addr} {cm : Nat} {m bs : List Bx} {W W' : World} (h : BoT p ins seq w1 Aw j last Am cm m bs W) (hb : Below W.heap.size W W') : BoT p ins seq w1 Aw j last Am cm m bs W' :=
  ⟨heap_below h.box hb, h.own.grown hb, FrR.next h.want hb hb.size, below_next h.q h.q.size hb, h.t⟩
/-- The box at t5 is written whole. -/
theorem BoT.put {p : Bx → Prop} {ins : List Fr} {seq : Int} {w1 : World} {Aw : Option Addr} {j j' : Nat} {last last' : Int} {Am Am' : Option Addr} {cm cm' : Nat} {m m' bs bs' : List Bx} {W W' : World} (h : BoT p ins seq w1 Aw j last Am cm m bs W)
    (ho : Own W (w1.heap.size + 1) 60 7 Am' cm' (m'.map bxc)) (ht : TkP p ins seq j' last' m' bs') (hw : ∀ g off, Aw = some ⟨g, off, none⟩ → g ≠ w1.heap.size) (e : W' = W.setCells w1.heap.size 0 [.slice Am' m'.length cm', .int .i64 seq, .int .i64 8]) :
    BoT p ins seq w1 Aw j' last' Am' cm' m' bs' W' := by
  subst e
  refine ⟨whole_heap [.slice Am' m'.length cm', .int .i64 seq, .int .i64 8] (xs := [_, _, _]) h.box rfl, own_setCells (by omega) _ 0 _ ho, rd_setCells hw _ 0 _ h.want, h.q.trans (below_setCells _ 0 _ (Nat.le_refl _)), ht⟩
theorem three_free {W : World} {B : Nat} {a b c : Value} {t : TypeId} (h : W.heap[B]? = some (.cells #[a, b, c] t (0, 0))) : W.there B 0 3 := there_heap (cs := [a, b, c]) h
end Go.Proofs.YtkfedgjepiljiaaDoor

/- The plain law of BoxDrops: which boxes are put, and which are left. -/
namespace Go.Proofs.YtkfedgjepiljiaaDoor
open FP (Fr)
open HP (kB at' Hp)
open OP (atF bestTo orderF)

/-- The boxes that BoxDrops puts, of the first k frames. -/
def dsK (l : List Fr) : Nat → List Bx
  | 0 => []
  | k + 1 => if k < 8 ∧ FP.rightB (cutF (atF l k)) = true then dsK l k ++ [⟨(k : Int) % 3, cutF (atF l k), (dsK l k).length⟩] else dsK l k
theorem dsK_len (l : List Fr) : ∀ k, (dsK l k).length ≤ min k 8
  | 0 => by simp [dsK]
  | k + 1 => by
    have := dsK_len l k
    unfold dsK
    split
    · rw [List.length_append, List.length_singleton]; omega
    · omega
theorem dsK_mem (l : List Fr) (hid : ∀ k, (atF l k).id < 4294967296) : ∀ k, ∀ x ∈ dsK l k, okM ((dsK l k).length : Int) x ∧ x.f.id < 4294967296
  | 0, x, h => by simp [dsK] at h
  | k + 1, x, h => by
    unfold dsK at h ⊢
    split at h
    · rename_i hc
      rw [if_pos hc, List.length_append, List.length_singleton]
      rcases List.mem_append.1 h with h | h
      · obtain ⟨⟨a, b, c, d, e⟩, f⟩ := dsK_mem l hid k x h
        exact ⟨⟨a, b, c, d, by omega⟩, f⟩
      · rw [List.mem_singleton] at h
        subst h
        exact ⟨⟨hc.2, by show (0 : Int) ≤ (k : Int) % 3; omega, by show (k : Int) % 3 ≤ 1000000; omega, by show (0 : Int) ≤ ((dsK l k).length : Int); omega, by show ((dsK l k).length : Int) < _; omega⟩, hid k⟩
    · rename_i hc
      rw [if_neg hc]
      exact dsK_mem l hid k x h
theorem dsK_inc (l : List Fr) (hid : ∀ k, (atF l k).id < 4294967296) : ∀ k, (dsK l k).Pairwise (fun x y => x.s < y.s)
  | 0 => by simp [dsK]
  | k + 1 => by
    unfold dsK
    split
    · rw [List.pairwise_append]
      refine ⟨dsK_inc l hid k, by simp, fun x hx y hy => ?_⟩
      rw [List.mem_singleton] at hy
      subst hy
      exact (dsK_mem l hid k x hx).1.2.2.2.2
    · exact dsK_inc l hid k
theorem dsK_right {l : List Fr} (hid : ∀ k, (atF l k).id < 4294967296) {k : Nat} {m : List Bx} (p : m.Perm (dsK l k)) (hh : Hp m 0 m.length) : rightBx m (dsK l k).length 8 = true := by
  have hl := dsK_len l k
  have hml := p.length_eq
  exact right_iff.2 ⟨by omega, by omega, by omega, by omega, by omega, fun x hx => (dsK_mem l hid k x (p.mem_iff.1 hx)).1, ne_perm p (inc_ne (dsK_inc l hid k)), hh⟩

theorem dsK_succ (l : List Fr) (k : Nat) : dsK l (k + 1) = if k < 8 ∧ FP.rightB (cutF (atF l k)) = true then dsK l k ++ [⟨(k : Int) % 3, cutF (atF l k), (dsK l k).length⟩] else dsK l k := rfl
/-- Those that stay, and those that go. -/
def stay (q : Int) (l : List Bx) : List Bx := l.filter fun x => !(x.h == q)
def goes (q : Int) (l : List Bx) : List Bx := l.filter fun x => x.h == q
theorem stay_goes (q : Int) (l : List Bx) : (stay q l).length + (goes q l).length = l.length := by
  unfold stay goes
  induction l with
  | nil => rfl
  | cons x l ih =>
    rw [List.filter_cons, List.filter_cons]
    cases x.h == q
    · simp only [Bool.not_false, if_true, List.length_cons]; simp; omega
    · simp only [Bool.not_true, if_true, List.length_cons]; simp; omega
theorem stay_yes {q : Int} {l : List Bx} {x : Bx} (h : (x.h == q) = true) : stay q (l ++ [x]) = stay q l := by
  unfold stay; rw [List.filter_append]; simp [List.filter_cons, h]
theorem stay_no {q : Int} {l : List Bx} {x : Bx} (h : (x.h == q) = false) : stay q (l ++ [x]) = stay q l ++ [x] := by
  unfold stay; rw [List.filter_append]; simp [List.filter_cons, h]
theorem goes_yes {q : Int} {l : List Bx} {x : Bx} (h : (x.h == q) = true) : (goes q (l ++ [x])).length = (goes q l).length + 1 := by
  unfold goes; rw [List.filter_append]; simp [List.filter_cons, h]
theorem goes_no {q : Int} {l : List Bx} {x : Bx} (h : (x.h == q) = false) : goes q (l ++ [x]) = goes q l := by
  unfold goes; rw [List.filter_append]; simp [List.filter_cons, h]
theorem stay_start {l : List Fr} (hid : ∀ k, (atF l k).id < 4294967296) {n : Nat} {q : Int} {m m' : List Bx} (hp : m.Perm (dsK l n)) (hm : m'.Perm (stay q m)) (hh : Hp m' 0 m'.length) :
    TkP (fun x => (x.h == q) = false) ((stay q (dsK l n)).map (·.f)) (dsK l n).length 0 (-1) m' (stay q (dsK l n)) := by
  have hl := dsK_len l n
  have hsub : ∀ x ∈ stay q (dsK l n), x ∈ dsK l n ∧ (x.h == q) = false := fun x hx => by
    have := List.mem_filter.1 hx
    exact ⟨this.1, by simpa using this.2⟩
  refine ⟨hm.trans (hp.filter _), hh, (dsK_inc l hid n).sublist List.filter_sublist, fun x hx => ⟨(dsK_mem l hid n x (hsub x hx).1).1, (dsK_mem l hid n x (hsub x hx).1).2, (hsub x hx).2⟩, by omega, by omega, ?_, rfl, fun h => absurd h (by omega)⟩
  have := List.length_filter_le (fun x : Bx => !(x.h == q)) (dsK l n)
  unfold stay
  omega
end Go.Proofs.YtkfedgjepiljiaaDoor

/- The reference's Same and Without of boxes. -/
namespace Go.Proofs.YtkfedgjepiljiaaDoor
open Go.ChangeShapes Go.WideShapes Go.ChangeAt Go.RowKit
open FP (Fr)

set_option maxRecDepth 100000 in
set_option maxHeartbeats 1000000 in
theorem same9 (l : List Bx) (A : Option Addr) (c : Nat) (B : Option Addr) (d : Nat) (w : World) (hA : BxR w w.heap.size A l) (hB : BxR w w.heap.size B l) (hl : l.length ≤ 1000) :
    Calls Tryd.prog 24 #[.slice A l.length c, .slice B l.length d] w fun e w' => e = .returned (.bool true) ∧ Below w.heap.size w w' := by
  have HA := hide hA
  have HB := hide hB
  clear hA hB
  go_enter Tryd.func24, Tryd.ntmps24
  go_wp2
  go_loopw [13] (fun i W => ∃ k : Nat, k ≤ l.length ∧ i = .int .i64 k ∧ Below w.heap.size w W) (fun i _ => l.length - (intOf i).toNat)
  case atStart => exact ⟨0, Nat.zero_le _, rfl, Below.refl _ _⟩
  case round =>
    obtain ⟨k, hk, rfl, q⟩ := hrel
    by_cases hlt : k < l.length
    · obtain ⟨b, off, rfl, _⟩ := HA.out.at_ hlt
      obtain ⟨b', off', rfl, _⟩ := HB.out.at_ hlt
      have mA := BxR.all (BxR.next HA.out q q.size) (Nat.le_refl _) hlt
      have mB := BxR.all (BxR.next HB.out q q.size) (Nat.le_refl _) hlt
      have h1 : (k : Int) < (l.length : Int) := by omega
      have h0 : (0 : Int) ≤ (k : Int) := by omega
      go_wp2_with fail
      refine wp_region_tame (by kernel_rfl) (by kernel_rfl) ?_
      repeat (go_big_quiet_step (fail))
      refine wpQuiet_nil ?_
      rintro _ ⟨s, rfl⟩
      have qs := q.trans (s.h.mono q.size)
      clear mA mB
      go_wp2
      go_roundw
      case rel => exact ⟨k + 1, by omega, by go_num, qs⟩
      case measure => simp [intOf]; omega
    · go_wp2
      go_ret
      exact ⟨rfl, q⟩

def WoB (n : Nat) (l : List Bx) (w : World) (e : Ending) (w' : World) : Prop :=
  ∃ A c, e = .returned (.tuple #[.slice A l.length c, .int .i64 ((n : Int) - l.length)]) ∧ BxR w' w'.heap.size A l ∧ l.length ≤ c ∧ Below w.heap.size w w'

theorem stay_snoc {id : Int} {l : List Bx} {k : Nat} (hk : k < l.length) : stay id (l.take (k + 1)) = if (l[k].h == id) = true then stay id (l.take k) else stay id (l.take k) ++ [l[k]] := by
  unfold stay
  rw [List.take_succ_eq_append_getElem hk, List.filter_append]
  cases h : l[k].h == id <;> simp [h]

end Go.Proofs.YtkfedgjepiljiaaDoor

/- The reference's Ahead of boxes. -/
namespace Go.Proofs.YtkfedgjepiljiaaDoor
open Go.ChangeShapes Go.WideShapes Go.ChangeAt Go.RowKit
open FP (Fr)

set_option maxRecDepth 100000 in
set_option maxHeartbeats 2000000 in
theorem ahead9_any (x y : Bx) (w : World) (hx : FP.rightB x.f = true) (hy : FP.rightB y.f = true) :
    Calls Tryd.prog 38 #[.agg #[.int .i64 x.h, .int .u32 x.f.id, .bool x.f.ext, .bool x.f.rem, .int .i64 x.f.dlc, .string x.f.data, .int .i64 x.s], .agg #[.int .i64 y.h, .int .u32 y.f.id, .bool y.f.ext, .bool y.f.rem, .int .i64 y.f.dlc, .string y.f.data, .int .i64 y.s]] w fun e w' => e = .returned (.bool (aheadB x y)) ∧ Below w.heap.size w w' := by
  have L1 := hide (fun W => refLess_any x.f y.f W hx hy)
  have L2 := hide (fun W => refLess_any y.f x.f W hy hx)
  have q0 : Below w.heap.size w ((w.alloc (.cells #[.int .i64 x.h, .int .u32 x.f.id, .bool x.f.ext, .bool x.f.rem, .int .i64 x.f.dlc, .string x.f.data, .int .i64 x.s] 60)).alloc (.cells #[.int .i64 y.h, .int .u32 y.f.id, .bool y.f.ext, .bool y.f.rem, .int .i64 y.f.dlc, .string y.f.data, .int .i64 y.s] 60)) := ((Below.refl _ _).alloc (Nat.le_refl _) _).alloc (by simp) _
  have hA : aheadB x y = (lessB x.f y.f || (!lessB y.f x.f && decide (x.s < y.s))) := rfl
  rw [hA]
  obtain ⟨h, ⟨id, ext, rem, dlc, data⟩, s⟩ := x
  obtain ⟨h', ⟨id', ext', rem', dlc', data'⟩, s'⟩ := y
  dsimp only at *
  generalize lessB ⟨id, ext, rem, dlc, data⟩ ⟨id', ext', rem', dlc', data'⟩ = B1 at *
  generalize lessB ⟨id', ext', rem', dlc', data'⟩ ⟨id, ext, rem, dlc, data⟩ = B2 at *
  clear hA hx hy
  cases B1
  · cases B2
    · go_enter Tryd.func38, Tryd.ntmps38
      go_wp2_with fail
      (with_reducible refine (L1.out _).mono ?_)
      rintro e1 w1 ⟨rfl, q1⟩
      have q1' := below_next q0 q0.size q1
      obtain ⟨hc, hz1⟩ := bcell q1
      have z0 : w.heap.size < w1.heap.size := by simp at hz1; omega
      have z1 : w.heap.size + 1 < w1.heap.size := by simp at hz1; omega
      go_wp2_with fail
      (with_reducible refine (L2.out _).mono ?_)
      rintro e2 w2 ⟨rfl, q2⟩
      have q2' := below_next q1' q1'.size q2
      obtain ⟨hc2, hz2⟩ := bcell q2
      go_wp2
      all_goals
        go_ret
        exact ⟨rfl, q2'⟩
    · go_enter Tryd.func38, Tryd.ntmps38
      go_wp2_with fail
      (with_reducible refine (L1.out _).mono ?_)
      rintro e1 w1 ⟨rfl, q1⟩
      have q1' := below_next q0 q0.size q1
      obtain ⟨hc, hz1⟩ := bcell q1
      have z0 : w.heap.size < w1.heap.size := by simp at hz1; omega
      have z1 : w.heap.size + 1 < w1.heap.size := by simp at hz1; omega
      go_wp2_with fail
      (with_reducible refine (L2.out _).mono ?_)
      rintro e2 w2 ⟨rfl, q2⟩
      have q2' := below_next q1' q1'.size q2
      go_wp2
      go_ret
      exact ⟨rfl, q2'⟩
  · go_enter Tryd.func38, Tryd.ntmps38
    go_wp2_with fail
    (with_reducible refine (L1.out _).mono ?_)
    rintro e1 w1 ⟨rfl, q1⟩
    have q1' := below_next q0 q0.size q1
    go_wp2
    go_ret
    exact ⟨rfl, q1'⟩
end Go.Proofs.YtkfedgjepiljiaaDoor
