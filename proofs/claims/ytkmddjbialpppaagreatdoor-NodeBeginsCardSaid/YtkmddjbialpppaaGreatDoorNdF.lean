import Derived.Test.YtkmddjbialpppaaGreatDoorNdE
import Derived.Test.YtkmddjbialpppaaGreatDoorMgCoQ
namespace Go.Proofs.YtkmddjbialpppaaGreatDoor
open Go.ChangeShapes Go.WideShapes Go.ChangeAt Go.RowKit
open CM PD SG ND
theorem nd_setL_ctl (n : Nd) (x : Cl) : eH n.cs 11 (x.cs) = ({ n with ctl := x } : Nd).cs := by
  have e : n.cs = (n.cf.cs ++ [.int .i64 n.id, .slice n.oA n.os.length n.oc, .slice n.iA n.is.length n.ic]) ++ ((n.ctl.cs) ++ (n.fi.cs ++ (bD n.tv ++ (bO n.pn ++ (bR n.nm ++ (bW n.sm ++ ([.int .i64 n.now]))))))) := by unfold Nd.cs; simp only [List.append_assoc]
  have e2 : ({ n with ctl := x } : Nd).cs = (n.cf.cs ++ [.int .i64 n.id, .slice n.oA n.os.length n.oc, .slice n.iA n.is.length n.ic]) ++ ((x.cs) ++ (n.fi.cs ++ (bD n.tv ++ (bO n.pn ++ (bR n.nm ++ (bW n.sm ++ ([.int .i64 n.now]))))))) := by unfold Nd.cs; simp only [List.append_assoc]
  have hl : ((n.cf.cs ++ [.int .i64 n.id, .slice n.oA n.os.length n.oc, .slice n.iA n.is.length n.ic]) : List Value).length = 11 := rfl
  have k := fM (n.cf.cs ++ [.int .i64 n.id, .slice n.oA n.os.length n.oc, .slice n.iA n.is.length n.ic]) (n.ctl.cs) (x.cs) (n.fi.cs ++ (bD n.tv ++ (bO n.pn ++ (bR n.nm ++ (bW n.sm ++ ([.int .i64 n.now])))))) rfl
  rw [hl] at k
  rw [e, e2]
  exact k
theorem nd_setL_fi (n : Nd) (x : Fi) : eH n.cs 34 (x.cs) = ({ n with fi := x } : Nd).cs := by
  have e : n.cs = (n.cf.cs ++ [.int .i64 n.id, .slice n.oA n.os.length n.oc, .slice n.iA n.is.length n.ic] ++ n.ctl.cs) ++ ((n.fi.cs) ++ (bD n.tv ++ (bO n.pn ++ (bR n.nm ++ (bW n.sm ++ ([.int .i64 n.now])))))) := by unfold Nd.cs; simp only [List.append_assoc]
  have e2 : ({ n with fi := x } : Nd).cs = (n.cf.cs ++ [.int .i64 n.id, .slice n.oA n.os.length n.oc, .slice n.iA n.is.length n.ic] ++ n.ctl.cs) ++ ((x.cs) ++ (bD n.tv ++ (bO n.pn ++ (bR n.nm ++ (bW n.sm ++ ([.int .i64 n.now])))))) := by unfold Nd.cs; simp only [List.append_assoc]
  have hl : ((n.cf.cs ++ [.int .i64 n.id, .slice n.oA n.os.length n.oc, .slice n.iA n.is.length n.ic] ++ n.ctl.cs) : List Value).length = 34 := rfl
  have k := fM (n.cf.cs ++ [.int .i64 n.id, .slice n.oA n.os.length n.oc, .slice n.iA n.is.length n.ic] ++ n.ctl.cs) (n.fi.cs) (x.cs) (bD n.tv ++ (bO n.pn ++ (bR n.nm ++ (bW n.sm ++ ([.int .i64 n.now]))))) rfl
  rw [hl] at k
  rw [e, e2]
  exact k
theorem nd_set_fi {W : World} {b : Nat} {n : Nd} (x : Fi) (h : W.heap[b]? = some (.cells n.cs.toArray 53 (0, 0))) : (W.setCells b 34 (x.cs)).heap[b]? = some (.cells ({ n with fi := x } : Nd).cs.toArray 53 (0, 0)) := by
  rw [← nd_setL_fi]
  exact aU (x.cs) n.cs 34 W h
theorem nd_setL_tv (n : Nd) (x : Tv) : eH n.cs 41 (bD x) = ({ n with tv := x } : Nd).cs := by
  have e : n.cs = (n.cf.cs ++ [.int .i64 n.id, .slice n.oA n.os.length n.oc, .slice n.iA n.is.length n.ic] ++ n.ctl.cs ++ n.fi.cs) ++ ((bD n.tv) ++ (bO n.pn ++ (bR n.nm ++ (bW n.sm ++ ([.int .i64 n.now]))))) := by unfold Nd.cs; simp only [List.append_assoc]
  have e2 : ({ n with tv := x } : Nd).cs = (n.cf.cs ++ [.int .i64 n.id, .slice n.oA n.os.length n.oc, .slice n.iA n.is.length n.ic] ++ n.ctl.cs ++ n.fi.cs) ++ ((bD x) ++ (bO n.pn ++ (bR n.nm ++ (bW n.sm ++ ([.int .i64 n.now]))))) := by unfold Nd.cs; simp only [List.append_assoc]
  have hl : ((n.cf.cs ++ [.int .i64 n.id, .slice n.oA n.os.length n.oc, .slice n.iA n.is.length n.ic] ++ n.ctl.cs ++ n.fi.cs) : List Value).length = 41 := rfl
  have k := fM (n.cf.cs ++ [.int .i64 n.id, .slice n.oA n.os.length n.oc, .slice n.iA n.is.length n.ic] ++ n.ctl.cs ++ n.fi.cs) (bD n.tv) (bD x) (bO n.pn ++ (bR n.nm ++ (bW n.sm ++ ([.int .i64 n.now])))) rfl
  rw [hl] at k
  rw [e, e2]
  exact k
theorem nd_set_tv {W : World} {b : Nat} {n : Nd} (x : Tv) (h : W.heap[b]? = some (.cells n.cs.toArray 53 (0, 0))) : (W.setCells b 41 (bD x)).heap[b]? = some (.cells ({ n with tv := x } : Nd).cs.toArray 53 (0, 0)) := by
  rw [← nd_setL_tv]
  exact aU (bD x) n.cs 41 W h
theorem nd_setL_pn (n : Nd) (x : Pn) : eH n.cs 54 (bO x) = ({ n with pn := x } : Nd).cs := by
  have e : n.cs = (n.cf.cs ++ [.int .i64 n.id, .slice n.oA n.os.length n.oc, .slice n.iA n.is.length n.ic] ++ n.ctl.cs ++ n.fi.cs ++ bD n.tv) ++ ((bO n.pn) ++ (bR n.nm ++ (bW n.sm ++ ([.int .i64 n.now])))) := by unfold Nd.cs; simp only [List.append_assoc]
  have e2 : ({ n with pn := x } : Nd).cs = (n.cf.cs ++ [.int .i64 n.id, .slice n.oA n.os.length n.oc, .slice n.iA n.is.length n.ic] ++ n.ctl.cs ++ n.fi.cs ++ bD n.tv) ++ ((bO x) ++ (bR n.nm ++ (bW n.sm ++ ([.int .i64 n.now])))) := by unfold Nd.cs; simp only [List.append_assoc]
  have hl : ((n.cf.cs ++ [.int .i64 n.id, .slice n.oA n.os.length n.oc, .slice n.iA n.is.length n.ic] ++ n.ctl.cs ++ n.fi.cs ++ bD n.tv) : List Value).length = 54 := rfl
  have k := fM (n.cf.cs ++ [.int .i64 n.id, .slice n.oA n.os.length n.oc, .slice n.iA n.is.length n.ic] ++ n.ctl.cs ++ n.fi.cs ++ bD n.tv) (bO n.pn) (bO x) (bR n.nm ++ (bW n.sm ++ ([.int .i64 n.now]))) rfl
  rw [hl] at k
  rw [e, e2]
  exact k
theorem nd_set_pn {W : World} {b : Nat} {n : Nd} (x : Pn) (h : W.heap[b]? = some (.cells n.cs.toArray 53 (0, 0))) : (W.setCells b 54 (bO x)).heap[b]? = some (.cells ({ n with pn := x } : Nd).cs.toArray 53 (0, 0)) := by
  rw [← nd_setL_pn]
  exact aU (bO x) n.cs 54 W h
theorem nd_setL_nm (n : Nd) (x : Nm) : eH n.cs 73 (bR x) = ({ n with nm := x } : Nd).cs := by
  have e : n.cs = (n.cf.cs ++ [.int .i64 n.id, .slice n.oA n.os.length n.oc, .slice n.iA n.is.length n.ic] ++ n.ctl.cs ++ n.fi.cs ++ bD n.tv ++ bO n.pn) ++ ((bR n.nm) ++ (bW n.sm ++ ([.int .i64 n.now]))) := by unfold Nd.cs; simp only [List.append_assoc]
  have e2 : ({ n with nm := x } : Nd).cs = (n.cf.cs ++ [.int .i64 n.id, .slice n.oA n.os.length n.oc, .slice n.iA n.is.length n.ic] ++ n.ctl.cs ++ n.fi.cs ++ bD n.tv ++ bO n.pn) ++ ((bR x) ++ (bW n.sm ++ ([.int .i64 n.now]))) := by unfold Nd.cs; simp only [List.append_assoc]
  have hl : ((n.cf.cs ++ [.int .i64 n.id, .slice n.oA n.os.length n.oc, .slice n.iA n.is.length n.ic] ++ n.ctl.cs ++ n.fi.cs ++ bD n.tv ++ bO n.pn) : List Value).length = 73 := rfl
  have k := fM (n.cf.cs ++ [.int .i64 n.id, .slice n.oA n.os.length n.oc, .slice n.iA n.is.length n.ic] ++ n.ctl.cs ++ n.fi.cs ++ bD n.tv ++ bO n.pn) (bR n.nm) (bR x) (bW n.sm ++ ([.int .i64 n.now])) rfl
  rw [hl] at k
  rw [e, e2]
  exact k
theorem nd_set_nm {W : World} {b : Nat} {n : Nd} (x : Nm) (h : W.heap[b]? = some (.cells n.cs.toArray 53 (0, 0))) : (W.setCells b 73 (bR x)).heap[b]? = some (.cells ({ n with nm := x } : Nd).cs.toArray 53 (0, 0)) := by
  rw [← nd_setL_nm]
  exact aU (bR x) n.cs 73 W h
theorem nd_setL_sm (n : Nd) (x : Sm) : eH n.cs 83 (bW x) = ({ n with sm := x } : Nd).cs := by
  have e : n.cs = (n.cf.cs ++ [.int .i64 n.id, .slice n.oA n.os.length n.oc, .slice n.iA n.is.length n.ic] ++ n.ctl.cs ++ n.fi.cs ++ bD n.tv ++ bO n.pn ++ bR n.nm) ++ ((bW n.sm) ++ ([.int .i64 n.now])) := by unfold Nd.cs; simp only [List.append_assoc]
  have e2 : ({ n with sm := x } : Nd).cs = (n.cf.cs ++ [.int .i64 n.id, .slice n.oA n.os.length n.oc, .slice n.iA n.is.length n.ic] ++ n.ctl.cs ++ n.fi.cs ++ bD n.tv ++ bO n.pn ++ bR n.nm) ++ ((bW x) ++ ([.int .i64 n.now])) := by unfold Nd.cs; simp only [List.append_assoc]
  have hl : ((n.cf.cs ++ [.int .i64 n.id, .slice n.oA n.os.length n.oc, .slice n.iA n.is.length n.ic] ++ n.ctl.cs ++ n.fi.cs ++ bD n.tv ++ bO n.pn ++ bR n.nm) : List Value).length = 83 := rfl
  have k := fM (n.cf.cs ++ [.int .i64 n.id, .slice n.oA n.os.length n.oc, .slice n.iA n.is.length n.ic] ++ n.ctl.cs ++ n.fi.cs ++ bD n.tv ++ bO n.pn ++ bR n.nm) (bW n.sm) (bW x) ([.int .i64 n.now]) rfl
  rw [hl] at k
  rw [e, e2]
  exact k
theorem nd_set_sm {W : World} {b : Nat} {n : Nd} (x : Sm) (h : W.heap[b]? = some (.cells n.cs.toArray 53 (0, 0))) : (W.setCells b 83 (bW x)).heap[b]? = some (.cells ({ n with sm := x } : Nd).cs.toArray 53 (0, 0)) := by
  rw [← nd_setL_sm]
  exact aU (bW x) n.cs 83 W h
theorem nd_set_outs {W : World} {b : Nat} {n : Nd} (os : List Ou) (A : Option Addr) (c : Nat) (h : W.heap[b]? = some (.cells n.cs.toArray 53 (0, 0))) : (W.setCells b 9 [.slice A os.length c]).heap[b]? = some (.cells ({ n with os := os, oA := A, oc := c } : Nd).cs.toArray 53 (0, 0)) := aU [.slice A os.length c] n.cs 9 W h
theorem nd_set_ins {W : World} {b : Nat} {n : Nd} (is : List Inn) (A : Option Addr) (c : Nat) (h : W.heap[b]? = some (.cells n.cs.toArray 53 (0, 0))) : (W.setCells b 10 [.slice A is.length c]).heap[b]? = some (.cells ({ n with is := is, iA := A, ic := c } : Nd).cs.toArray 53 (0, 0)) := aU [.slice A is.length c] n.cs 10 W h
def OutIs (p : Pd) (o : Ou) : Prop := NouV p.ly p.fill p.fl p.S.l p.yes p.no p.delay o 0
def InIs (p : Pd) (i : Inn) : Prop := CinV p i 0
theorem OutIs.right {p : Pd} {V : Ou} (h : OutIs p V) : V.right = true := by
  rcases h with ⟨h0, _, e1, e2, e3, e4, e5, e6, e7, e8⟩ | ⟨_, h, _⟩
  · unfold fX at h0
    obtain ⟨g1, g2⟩ := Bool.and_eq_true_iff.1 h0
    obtain ⟨g3, g4⟩ := Bool.and_eq_true_iff.1 g2
    have hg : g9 p.S.l = p.S.l := by unfold g9; rw [if_pos g1]
    rw [hg] at g3
    unfold Ou.right
    rw [e1, e3, e4, e5, e6, g3, e7, e8, sndNew_right g4, List.length_replicate]
    have g5 := g3
    unfold jX at g5
    simp only [Bool.and_eq_true, decide_eq_true_eq] at g5
    simp [g5.2.2.2.2.1]
  · cases h
theorem InIs.right {p : Pd} {V : Inn} (h : InIs p V) : V.right = true := by
  rcases h with ⟨h0, _, e1, e2, e3, e4, e5, e6, e7⟩ | ⟨_, h, _⟩
  · unfold inB newInB at h0
    obtain ⟨g1, g2⟩ := Bool.and_eq_true_iff.1 h0
    obtain ⟨g3, g4⟩ := Bool.and_eq_true_iff.1 g2
    unfold Inn.right
    rw [e1, e2, e3, e4, e5, e6, e7, g3, g4]
    rfl
  · cases h
theorem OutIs.ly {p : Pd} {V : Ou} (h : OutIs p V) : V.ly = p.ly := by
  rcases h with ⟨_, _, e, _⟩ | ⟨_, h, _⟩
  · exact e
  · cases h
theorem InIs.ly {p : Pd} {V : Inn} (h : InIs p V) : V.ly = p.ly := by
  rcases h with ⟨_, _, e, _⟩ | ⟨_, h, _⟩
  · exact e
  · cases h
theorem InIs.w {p : Pd} {V : Inn} (h : InIs p V) : V.w = wtOf p := by
  rcases h with ⟨_, _, _, _, _, _, _, _, e⟩ | ⟨_, h, _⟩
  · exact e
  · cases h
theorem OutIs.away {p : Pd} {V : Ou} {Z : Nat → Prop} {B : Nat} (h : OutIs p V) (hn : V.New B) (h1 : p.ly.Away Z) (h2 : OffS Z p.fl.a p.fl.l.length) (hZ : ∀ k, Z k → k < B) : V.Away Z := by
  rcases h with ⟨_, _, e1, _, e3, _⟩ | ⟨_, h, _⟩
  · exact ⟨by rw [e1]; exact h1, by rw [e3]; exact h2, gI hn.S hZ, gI hn.G hZ, gI hn.news hZ⟩
  · cases h
theorem InIs.away {p : Pd} {V : Inn} {Z : Nat → Prop} {B : Nat} (h : InIs p V) (hn : V.New B) (h1 : p.ly.Away Z) (h2 : OffS Z p.fl.a p.fl.l.length) (h3 : OffS Z p.subs.a p.subs.l.length) (hZ : ∀ k, Z k → k < B) : V.Away Z := by
  rcases h with ⟨_, _, e1, e2, _, _, _, e3, _⟩ | ⟨_, h, _⟩
  · exact ⟨by rw [e1]; exact h1, by rw [e2]; exact h2, gI hn.S hZ, gI hn.G hZ, by rw [e3]; exact h3⟩
  · cases h
def ZR (X : Nat → Prop) (A : Option Addr) (k : Nat) : Prop := X k ∨ ∃ a : Addr, A = some a ∧ a.block = k
theorem iD {W W' : World} {A : Option Addr} {n m : Nat} (hg : W.grownBy W' (Value.slice A n m).ownBlock) : Kp (fun k => ∃ a : Addr, A = some a ∧ a.block = k) W W' :=
  ⟨hg.os, hg.tape, hg.output, hg.size, fun k hk hs => hg.block k hk fun e => by
    cases A with
    | none => exact absurd e (by simp [Value.ownBlock])
    | some a => exact hs ⟨a, rfl, (Option.some.inj e).symm⟩⟩
theorem fH {W : World} {base : Nat} {e : TypeId} {sz : Nat} {A : Option Addr} {c : Nat} {R : List (List Value)} (h : Own W base e sz A c R) {a : Addr} (ha : A = some a) : base ≤ a.block ∧ a.block < W.heap.size := by
  subst ha
  exact World.ownsRow.lt h a.block rfl
structure OutsR (X : Nat → Prop) (W : World) (N : Nat) (A : Option Addr) (cc : Nat) (l : List Pd) (S : List Nat) (os : List Ou) : Prop where
  own : Own W N 77 26 A cc (os.map Ou.cs)
  ok : ∀ o ∈ os, o.Ok W
  away : ∀ o ∈ os, o.Away (ZR X A)
  is : ∀ i (hi : i < os.length), ∃ p, l[S.getD i 0]? = some p ∧ OutIs p os[i]
theorem OutsR.nil (X : Nat → Prop) (W : World) (N : Nat) (l : List Pd) (S : List Nat) : OutsR X W N none 0 l S [] := ⟨Own.nil, fun _ h => by (cases h), fun _ h => by (cases h), fun i hi => absurd hi (Nat.not_lt_zero _)⟩
section
variable {X : Nat → Prop} {N cc : Nat} {W W' : World} {A : Option Addr} {l : List Pd} {S : List Nat} {os : List Ou}
theorem OutsR.below (h : OutsR X W N A cc l S os) (q : Below W.heap.size W W') : OutsR X W' N A cc l S os := ⟨h.own.grown q, fun o ho => (h.ok o ho).next q, h.away, h.is⟩
theorem OutsR.set (h : OutsR X W N A cc l S os) (hX : ∀ k, X k → k < N) {b : Nat} (hb : X b) (o : Nat) (vs : List Value) : OutsR X (W.setCells b o vs) N A cc l S os := ⟨cM (hX b hb) _ _ _ h.own, fun x hx => (h.ok x hx).set (h.away x hx) (.inl hb) _ _, h.away, h.is⟩
theorem OutsR.lt (h : OutsR X W N A cc l S os) (hX : ∀ k, X k → k < N) (hN : N ≤ W.heap.size) : ∀ k, ZR X A k → k < W.heap.size := fun k hk => by
  rcases hk with hk | ⟨a, ha, rfl⟩
  · have := hX k hk; omega
  · exact (fH h.own ha).2
theorem OutsR.low (h : OutsR X W N A cc l S os) {B : Nat} (hb : ∀ k, X k → B ≤ k) (hN : B ≤ N) : ∀ k, ZR X A k → B ≤ k := fun k hk => by
  rcases hk with hk | ⟨a, ha, rfl⟩
  · exact hb k hk
  · exact Nat.le_trans hN (fH h.own ha).1
theorem OutsR.app {V : Ou} {A' : Option Addr} {c' : Nat} {p : Pd} (h : OutsR X W N A cc l S os) (ap : Ap1 W W' N 77 26 A cc (os.map Ou.cs) V.cs A' c') (hl : ∀ g off, A' = some ⟨g, off, none⟩ → (Value.slice A os.length cc).ownBlock = some g ∨ g = W.heap.size + 1)
    (hV : V.Ok W) (hVa : V.Away (ZR X A)) (hp : l[S.getD os.length 0]? = some p) (hi : OutIs p V) : OutsR X W' N A' c' l S (os ++ [V]) := by
  have hall : ∀ o ∈ os ++ [V], o.Ok W ∧ o.Away (ZR X A) := fun o ho => by
    rcases List.mem_append.1 ho with ho | ho
    · exact ⟨h.ok o ho, h.away o ho⟩
    · rw [List.mem_singleton.1 ho]; exact ⟨hV, hVa⟩
  have qn : Below W.heap.size W (W.alloc (.cells V.cs.toArray 77)) := (Below.refl _ _).alloc (Nat.le_refl _) _
  refine ⟨by rw [List.map_append]; exact ap.own, fun o ho => ((hall o ho).1.next qn).kp (iD ap.grown) ((hall o ho).2.mono fun k hk => .inr hk), fun o ho => ?_, fun i hi2 => ?_⟩
  · refine ((hall o ho).2.or (hall o ho).1.away).mono fun k hk => ?_
    rcases hk with hk | ⟨a, ha, rfl⟩
    · exact .inl (.inl hk)
    · obtain ⟨g, off, e⟩ : ∃ g off, a = ⟨g, off, none⟩ := by
        rcases ap.own.2 with ⟨hv, _⟩ | ⟨g, cap, cur, hv, _, _⟩
        · subst ha; simp at hv
        · subst ha
          simp only [Value.slice.injEq, Option.some.injEq] at hv
          exact ⟨g, 0, hv.1⟩
      subst e
      rcases hl g off ha with h1 | h1
      · refine .inl (.inr ?_)
        cases A with
        | none => exact absurd h1 (by simp [Value.ownBlock])
        | some a => exact ⟨a, rfl, Option.some.inj h1⟩
      · exact .inr (by dsimp only; omega)
  · rcases Nat.lt_or_ge i os.length with h1 | h1
    · obtain ⟨q, h2, h3⟩ := h.is i h1
      exact ⟨q, h2, by rw [List.getElem_append_left h1]; exact h3⟩
    · have e : i = os.length := by rw [List.length_append] at hi2; simp at hi2; omega
      subst e
      exact ⟨p, hp, by rw [List.getElem_append_right (Nat.le_refl _)]; simpa using hi⟩
end
structure RowsO (X : Nat → Prop) (M : Nat) (W : World) (A : Option Addr) (os : List Ou) : Prop where
  rd : Rd W W.heap.size A 26 (os.map Ou.cs)
  off : OffS (fun k => X k ∨ M ≤ k) A os.length
  ok : ∀ o ∈ os, o.Ok W
  away : ∀ o ∈ os, o.Away (fun k => X k ∨ M ≤ k)
section
variable {X : Nat → Prop} {N cc M : Nat} {W W' : World} {A : Option Addr} {l : List Pd} {S : List Nat} {os : List Ou}
theorem OutsR.rows (h : OutsR X W N A cc l S os) (hX : ∀ k, X k → k < N) (hM : W.heap.size ≤ M) : RowsO X M W A os := by
  have hr := h.own.rd (fun r hr => by obtain ⟨x, _, rfl⟩ := List.mem_map.1 hr; rfl)
  refine ⟨hr, ?_, h.ok, fun o ho => ((h.away o ho).or (h.ok o ho).away).mono fun k hk => hk.elim (fun e => .inl (.inl e)) (fun e => .inr (Nat.le_trans hM e))⟩
  have k1 := fJ hr
  rw [List.length_map] at k1
  have k2 : OffS X A os.length := .inr fun g off e t => by have h1 := (fH h.own e).1; have h2 := hX g t; dsimp only at h1; omega
  exact (k2.or k1).mono fun k hk => hk.elim .inl (fun e => .inr (Nat.le_trans hM e))
theorem RowsO.kp (h : RowsO X M W A os) (k : Kp (fun k => X k ∨ M ≤ k) W W') : RowsO X M W' A os := ⟨k.rd h.rd (by rw [List.length_map]; exact h.off), h.off, fun o ho => (h.ok o ho).kp k (h.away o ho), h.away⟩
theorem RowsO.below (h : RowsO X M W A os) (q : Below W.heap.size W W') : RowsO X M W' A os := h.kp (Kp.of q)
theorem RowsO.set (h : RowsO X M W A os) {b : Nat} (hb : X b) (o : Nat) (vs : List Value) : RowsO X M (W.setCells b o vs) A os := h.kp (Kp.set _ _ _ _ (.inl hb))
end
structure InsR (X : Nat → Prop) (W : World) (N : Nat) (A : Option Addr) (cc : Nat) (l : List Pd) (S : List Nat) (os : List Inn) : Prop where
  own : Own W N 102 13 A cc (os.map Inn.cs)
  ok : ∀ o ∈ os, o.Ok W
  away : ∀ o ∈ os, o.Away (ZR X A)
  is : ∀ i (hi : i < os.length), ∃ p, l[S.getD i 0]? = some p ∧ InIs p os[i]
theorem InsR.nil (X : Nat → Prop) (W : World) (N : Nat) (l : List Pd) (S : List Nat) : InsR X W N none 0 l S [] := ⟨Own.nil, fun _ h => by (cases h), fun _ h => by (cases h), fun i hi => absurd hi (Nat.not_lt_zero _)⟩
section
variable {X : Nat → Prop} {N cc : Nat} {W W' : World} {A : Option Addr} {l : List Pd} {S : List Nat} {os : List Inn}
theorem InsR.below (h : InsR X W N A cc l S os) (q : Below W.heap.size W W') : InsR X W' N A cc l S os := ⟨h.own.grown q, fun o ho => (h.ok o ho).next q, h.away, h.is⟩
theorem InsR.set (h : InsR X W N A cc l S os) (hX : ∀ k, X k → k < N) {b : Nat} (hb : X b) (o : Nat) (vs : List Value) : InsR X (W.setCells b o vs) N A cc l S os := ⟨cM (hX b hb) _ _ _ h.own, fun x hx => (h.ok x hx).set (h.away x hx) (.inl hb) _ _, h.away, h.is⟩
theorem InsR.lt (h : InsR X W N A cc l S os) (hX : ∀ k, X k → k < N) (hN : N ≤ W.heap.size) : ∀ k, ZR X A k → k < W.heap.size := fun k hk => by
  rcases hk with hk | ⟨a, ha, rfl⟩
  · have := hX k hk; omega
  · exact (fH h.own ha).2
theorem InsR.low (h : InsR X W N A cc l S os) {B : Nat} (hb : ∀ k, X k → B ≤ k) (hN : B ≤ N) : ∀ k, ZR X A k → B ≤ k := fun k hk => by
  rcases hk with hk | ⟨a, ha, rfl⟩
  · exact hb k hk
  · exact Nat.le_trans hN (fH h.own ha).1
theorem InsR.app {V : Inn} {A' : Option Addr} {c' : Nat} {p : Pd} (h : InsR X W N A cc l S os) (ap : Ap1 W W' N 102 13 A cc (os.map Inn.cs) V.cs A' c') (hl : ∀ g off, A' = some ⟨g, off, none⟩ → (Value.slice A os.length cc).ownBlock = some g ∨ g = W.heap.size + 1)
    (hV : V.Ok W) (hVa : V.Away (ZR X A)) (hp : l[S.getD os.length 0]? = some p) (hi : InIs p V) : InsR X W' N A' c' l S (os ++ [V]) := by
  have hall : ∀ o ∈ os ++ [V], o.Ok W ∧ o.Away (ZR X A) := fun o ho => by
    rcases List.mem_append.1 ho with ho | ho
    · exact ⟨h.ok o ho, h.away o ho⟩
    · rw [List.mem_singleton.1 ho]; exact ⟨hV, hVa⟩
  have qn : Below W.heap.size W (W.alloc (.cells V.cs.toArray 102)) := (Below.refl _ _).alloc (Nat.le_refl _) _
  refine ⟨by rw [List.map_append]; exact ap.own, fun o ho => ((hall o ho).1.next qn).kp (iD ap.grown) ((hall o ho).2.mono fun k hk => .inr hk), fun o ho => ?_, fun i hi2 => ?_⟩
  · refine ((hall o ho).2.or (hall o ho).1.away).mono fun k hk => ?_
    rcases hk with hk | ⟨a, ha, rfl⟩
    · exact .inl (.inl hk)
    · obtain ⟨g, off, e⟩ : ∃ g off, a = ⟨g, off, none⟩ := by
        rcases ap.own.2 with ⟨hv, _⟩ | ⟨g, cap, cur, hv, _, _⟩
        · subst ha; simp at hv
        · subst ha
          simp only [Value.slice.injEq, Option.some.injEq] at hv
          exact ⟨g, 0, hv.1⟩
      subst e
      rcases hl g off ha with h1 | h1
      · refine .inl (.inr ?_)
        cases A with
        | none => exact absurd h1 (by simp [Value.ownBlock])
        | some a => exact ⟨a, rfl, Option.some.inj h1⟩
      · exact .inr (by dsimp only; omega)
  · rcases Nat.lt_or_ge i os.length with h1 | h1
    · obtain ⟨q, h2, h3⟩ := h.is i h1
      exact ⟨q, h2, by rw [List.getElem_append_left h1]; exact h3⟩
    · have e : i = os.length := by rw [List.length_append] at hi2; simp at hi2; omega
      subst e
      exact ⟨p, hp, by rw [List.getElem_append_right (Nat.le_refl _)]; simpa using hi⟩
end
structure RowsI (X : Nat → Prop) (M : Nat) (W : World) (A : Option Addr) (os : List Inn) : Prop where
  rd : Rd W W.heap.size A 13 (os.map Inn.cs)
  off : OffS (fun k => X k ∨ M ≤ k) A os.length
  ok : ∀ o ∈ os, o.Ok W
  away : ∀ o ∈ os, o.Away (fun k => X k ∨ M ≤ k)
section
variable {X : Nat → Prop} {N cc M : Nat} {W W' : World} {A : Option Addr} {l : List Pd} {S : List Nat} {os : List Inn}
theorem InsR.rows (h : InsR X W N A cc l S os) (hX : ∀ k, X k → k < N) (hM : W.heap.size ≤ M) : RowsI X M W A os := by
  have hr := h.own.rd (fun r hr => by obtain ⟨x, _, rfl⟩ := List.mem_map.1 hr; rfl)
  refine ⟨hr, ?_, h.ok, fun o ho => ((h.away o ho).or (h.ok o ho).away).mono fun k hk => hk.elim (fun e => .inl (.inl e)) (fun e => .inr (Nat.le_trans hM e))⟩
  have k1 := fJ hr
  rw [List.length_map] at k1
  have k2 : OffS X A os.length := .inr fun g off e t => by have h1 := (fH h.own e).1; have h2 := hX g t; dsimp only at h1; omega
  exact (k2.or k1).mono fun k hk => hk.elim .inl (fun e => .inr (Nat.le_trans hM e))
theorem RowsI.kp (h : RowsI X M W A os) (k : Kp (fun k => X k ∨ M ≤ k) W W') : RowsI X M W' A os := ⟨k.rd h.rd (by rw [List.length_map]; exact h.off), h.off, fun o ho => (h.ok o ho).kp k (h.away o ho), h.away⟩
theorem RowsI.below (h : RowsI X M W A os) (q : Below W.heap.size W W') : RowsI X M W' A os := h.kp (Kp.of q)
theorem RowsI.set (h : RowsI X M W A os) {b : Nat} (hb : X b) (o : Nat) (vs : List Value) : RowsI X M (W.setCells b o vs) A os := h.kp (Kp.set _ _ _ _ (.inl hb))
end
end Go.Proofs.YtkmddjbialpppaaGreatDoor
