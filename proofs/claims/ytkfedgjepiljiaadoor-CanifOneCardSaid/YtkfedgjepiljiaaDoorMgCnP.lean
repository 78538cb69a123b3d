/- Plain: what stands between when frames were sent, and taken. -/
import Derived.Test.YtkfedgjepiljiaaDoorCnE
import Derived.Test.YtkfedgjepiljiaaDoorMgRes
import Derived.Test.YtkfedgjepiljiaaDoorMgRfP
import Derived.Test.YtkfedgjepiljiaaDoorOrdL
namespace Go.Proofs.YtkfedgjepiljiaaDoor
open Go.ChangeShapes Go.WideShapes Go.ChangeAt Go.RowKit
open FP (Fr)
open HP (kB at' Hp)
open OP (atF bestTo orderF)

theorem bsK_h (l : List Fr) : ∀ k, ∀ x ∈ bsK l k, 0 ≤ x.h ∧ x.h < (k : Int)
  | 0, x, h => by simp [bsK] at h
  | k + 1, x, h => by
    unfold bsK at h
    split at h
    · rcases List.mem_append.1 h with h | h
      · have := bsK_h l k x h; omega
      · rw [List.mem_singleton] at h
        subst h
        exact ⟨by show (0 : Int) ≤ (k : Int); omega, by show (k : Int) < ((k + 1 : Nat) : Int); omega⟩
    · have := bsK_h l k x h; omega
theorem bsK_hn (l : List Fr) : ∀ k, (bsK l k).Pairwise (fun x y => x.h ≠ y.h)
  | 0 => by simp [bsK]
  | k + 1 => by
    unfold bsK
    split
    · rw [List.pairwise_append]
      refine ⟨bsK_hn l k, by simp, fun x hx y hy => ?_⟩
      rw [List.mem_singleton] at hy
      subst hy
      have := bsK_h l k x hx
      show x.h ≠ (k : Int)
      omega
    · exact bsK_hn l k
/-- What stands between when k frames have been gone through. -/
structure CoX (l : List Fr) (k : Nat) (x : Fi) : Prop where
  p : x.m.Perm (bsK l k)
  h : Hp x.m 0 x.m.length
  c : x.m.length ≤ x.c
  seq : x.seq = (bsK l k).length
  cap : x.cap = 8
  has : x.has = -1
  on : x.on = true
  sent : x.sent = 0
  lost : x.lost = 0
section
variable {l : List Fr} {k : Nat} {x y : Fi}
theorem CoX.okp (hid : ∀ k, (atF l k).id < 4294967296) (h : CoX l k x) : x.Okp :=
  ⟨h.c, fun b hb => (bsK_mem l hid k b (h.p.mem_iff.1 hb)).2, by rw [h.seq, h.cap]; exact bsK_right hid h.p h.h, by rw [h.has]; omega, by rw [h.sent]; omega, by rw [h.lost]; omega, fun e => by rw [h.on] at e; cases e⟩
theorem CoX.start : CoX l 0 (newFi 8).go1 := ⟨List.Perm.refl _, fun k _ h => absurd h (by simp [newFi, Fi.go1]), Nat.le_refl _, rfl, rfl, rfl, rfl, rfl, rfl⟩
theorem CoX.skip (h : CoX l k x) (e : bsK l (k + 1) = bsK l k) : CoX l (k + 1) x := ⟨by rw [e]; exact h.p, h.h, h.c, by rw [e]; exact h.seq, h.cap, h.has, h.on, h.sent, h.lost⟩
theorem bsK_no (h : ¬ (k < 8 ∧ FP.rightB (cutF (atF l k)) = true)) : bsK l (k + 1) = bsK l k := (show bsK l (k + 1) = if k < 8 ∧ FP.rightB (cutF (atF l k)) = true then bsK l k ++ [⟨k, cutF (atF l k), (bsK l k).length⟩] else bsK l k from rfl).trans (if_neg h)
theorem bsK_yes (h : k < 8 ∧ FP.rightB (cutF (atF l k)) = true) : bsK l (k + 1) = bsK l k ++ [⟨k, cutF (atF l k), (bsK l k).length⟩] := (show bsK l (k + 1) = if k < 8 ∧ FP.rightB (cutF (atF l k)) = true then bsK l k ++ [⟨k, cutF (atF l k), (bsK l k).length⟩] else bsK l k from rfl).trans (if_pos h)
theorem CoX.room (h : CoX l k x) (hk : k < 8) : x.seq < 1099511627776 ∧ (x.m.length : Int) < x.cap := by
  have h1 := bsK_len l k
  have h2 := h.p.length_eq
  rw [h.seq, h.cap]
  omega
theorem CoX.send (h : CoX l k x) (hk : k < 8 ∧ FP.rightB (cutF (atF l k)) = true) (s : SendY x k (cutF (atF l k)) y) : CoX l (k + 1) y := by
  have e := bsK_yes hk
  have hp := s.p
  rw [h.seq] at hp
  exact ⟨by rw [e]; exact hp.trans (List.Perm.append_right _ h.p), s.h, s.c, by rw [e, List.length_append, s.seq, h.seq]; simp, by rw [s.cap]; exact h.cap, by rw [s.has]; exact h.has, by rw [s.on]; exact h.on, by rw [s.sent]; exact h.sent, by rw [s.lost]; exact h.lost⟩
end
/-- What stands between when j of them have been taken, and told as done; s tells whose handles were told. -/
structure CtX (ins : List Fr) (seq : Int) (j : Nat) (last : Int) (x : Fi) (bs : List Bx) (s : Int → Bool) : Prop where
  t : TkP (fun _ => True) ins seq j last x.m bs
  c : x.m.length ≤ x.c
  seq : x.seq = seq
  cap : x.cap = 8
  has : x.has = -1
  on : x.on = true
  sent : x.sent = j
  lost : x.lost = 0
  hs : ∀ b ∈ bs, s b.h = false
  hn : bs.Pairwise fun a b => a.h ≠ b.h
  len : ins.length ≤ 8
section
variable {ins : List Fr} {seq : Int} {j : Nat} {last : Int} {x y : Fi} {bs : List Bx} {s : Int → Bool}
theorem CtX.okp (h : CtX ins seq j last x bs s) (hj : j ≤ 8) : x.Okp :=
  ⟨h.c, h.t.id, by rw [h.seq, h.cap]; exact h.t.right, by rw [h.has]; omega, by rw [h.sent]; omega, by rw [h.lost]; omega, fun e => by rw [h.on] at e; cases e⟩
theorem CtX.mlen (h : CtX ins seq j last x bs s) (_ : j ≤ ins.length) : x.m.length = ins.length - j := by rw [h.t.mlen, OP.orderF_len]
theorem CtX.start {l : List Fr} {k : Nat} (hid : ∀ k, (atF l k).id < 4294967296) (h : CoX l k x) : CtX ((bsK l k).map (·.f)) (bsK l k).length 0 (-1) x (bsK l k) (fun _ => false) := by
  have hl := bsK_len l k
  refine ⟨⟨h.p, h.h, bsK_inc l hid k, fun b hb => ⟨(bsK_mem l hid k b hb).1, (bsK_mem l hid k b hb).2, trivial⟩, by omega, by omega, by omega, rfl, fun h => absurd h (by omega)⟩, h.c, h.seq, h.cap, h.has, h.on, h.sent, h.lost, fun _ _ => rfl, bsK_hn l k, by rw [List.length_map]; omega⟩
theorem CtX.step (h : CtX ins seq j last x bs s) (hj : j < ins.length) (n : NextY x y) :
    ∃ last' bs', (at' x.m 0).f = (orderF ins)[j]'(by rw [OP.orderF_len]; exact hj) ∧ s (at' x.m 0).h = false ∧ (0 ≤ (at' x.m 0).h ∧ (at' x.m 0).h ≤ 1000000) ∧ y.has = (at' x.m 0).h ∧ CtX ins seq (j + 1) last' y.done bs' (fun q => if q = (at' x.m 0).h then true else s q) := by
  have hjo : j < (orderF ins).length := by rw [OP.orderF_len]; exact hj
  have hb0 : bs.length = ins.length - j := by rw [← h.mlen (by omega), h.t.perm.length_eq]
  have h0 : 0 < bs.length := by omega
  have hx0 : 0 < x.m.length := by have := h.t.perm.length_eq; omega
  obtain ⟨e1, _, _, tn⟩ := h.t.step hjo n.p n.h
  have hmem : at' x.m 0 ∈ bs := h.t.perm.mem_iff.1 (at_mem hx0)
  have ef := first_best h.t.perm (fun b hb => (h.t.ok b hb).1.1) h.t.inc h.t.heap h0
  have hrp := restB_perm h0
  rw [← ef] at hrp
  have hn2 : (restB bs ++ [at' x.m 0]).Pairwise fun a b => a.h ≠ b.h := (hrp.pairwise_iff (fun {a b} (hab : a.h ≠ b.h) => fun e => hab e.symm)).2 h.hn
  have hsub : ∀ b ∈ restB bs, b ∈ bs := fun b hb => hrp.mem_iff.1 (List.mem_append_left _ hb)
  have hok := (h.t.ok _ hmem).1
  have hl := h.len
  refine ⟨_, restB bs, e1, h.hs _ hmem, ⟨hok.2.1, hok.2.2.1⟩, n.has, ⟨tn, n.c, by show y.seq = seq; rw [n.seq]; exact h.seq, by show y.cap = 8; rw [n.cap]; exact h.cap, rfl, by show y.on = true; rw [n.on]; exact h.on, ?_, by show y.lost = 0; rw [n.lost]; exact h.lost, fun b hb => ?_, (List.pairwise_append.1 hn2).1, h.len⟩⟩
  · show min (y.sent + 1) 1099511627776 = ((j + 1 : Nat) : Int)
    rw [n.sent, h.sent]
    omega
  · have h1 := (List.pairwise_append.1 hn2).2.2 b hb _ (List.mem_singleton.2 rfl)
    rw [if_neg h1]
    exact h.hs b (hsub b hb)
end
theorem fr_dat2 {W : World} {B : Nat} {f : Fr} {t : TypeId} (h : W.heap[B]? = some (.cells (frc f).toArray t (0, 0))) : W.cell? ⟨B, 4, none⟩ = some (.string f.data) ∧ W.frozen? ⟨B, 4, none⟩ = false := by
  refine ⟨by simp [World.cell?, h, frc], by simp [World.frozen?, h]⟩
theorem cl_fr23 {W : World} {x : Nat} {c : Cl} {t : TypeId} {fz : Nat × Nat} (h : W.heap[x]? = some (.cells c.cs.toArray t fz)) : W.rangeAt x 9 (frc c.f) := fun j v hj => by
  have hr := range_heap h (9 + j) v
  rw [Nat.zero_add] at hr
  refine hr ?_
  have hj5 : j < 5 := (List.getElem?_eq_some_iff.1 hj).1
  obtain rfl | rfl | rfl | rfl | rfl : j = 0 ∨ j = 1 ∨ j = 2 ∨ j = 3 ∨ j = 4 := by omega
  all_goals exact hj
/-- A row of the call's own beside a block that is written. -/
theorem own_out {W : World} {base : Nat} {e : TypeId} {sz : Nat} {A : Option Addr} {c : Nat} {R : List (List Value)} {x : Nat} (h : Own W base e sz A c R) (hx : ∀ g off, A = some ⟨g, off, none⟩ → g < x) (o : Nat) (vs : List Value) : Own (W.setCells x o vs) base e sz A c R := by
  have k := Kp.set (S := fun k => k = x) W x o vs rfl
  refine World.ownsRow.kept h (row := some x) ⟨k.os, k.tape, k.output, k.size, fun i hi hr => k.block i hi (fun e => hr (by rw [e]))⟩ ?_
  rcases own_form h with rfl | ⟨g, rfl⟩
  · simp [Value.ownBlock]
  · have := hx g 0 rfl
    simp [Value.ownBlock]
    omega
end Go.Proofs.YtkfedgjepiljiaaDoor

/- Parts of a function's code, found by a region's number or a test's slot. Nothing of the program's text. -/
namespace Go.Proofs.YtkfedgjepiljiaaDoor
open Go.ChangeShapes Go.WideShapes Go.ChangeAt Go.RowKit

def findC (p : Code → Bool) : Code → Option Code
  | .seq a b => if p (.seq a b) then some (.seq a b) else (findC p a).orElse fun _ => findC p b
  | .cond c a b => if p (.cond c a b) then some (.cond c a b) else (findC p a).orElse fun _ => findC p b
  | .block n b => if p (.block n b) then some (.block n b) else findC p b
  | .loop b => if p (.loop b) then some (.loop b) else findC p b
  | .scope b => if p (.scope b) then some (.scope b) else findC p b
  | .rangeFunc f ps a b => if p (.rangeFunc f ps a b) then some (.rangeFunc f ps a b) else (findC p a).orElse fun _ => findC p b
  | c => if p c then some c else none
def isRegion (n : Nat) : Code → Bool
  | .region k _ _ => k == n
  | _ => false
def isCond (t : Nat) : Code → Bool
  | .cond (.tmp k) _ _ => k == t
  | _ => false
def isBlock (n : Nat) : Code → Bool
  | .block k _ => k == n
  | _ => false
def partC (b : Option Code) (p : Code → Bool) : Code := (b.bind (findC p)).getD .skip
end Go.Proofs.YtkfedgjepiljiaaDoor
