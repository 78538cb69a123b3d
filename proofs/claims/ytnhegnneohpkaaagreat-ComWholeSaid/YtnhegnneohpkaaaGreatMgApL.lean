/- An append of one row of which one knows where it lies. Nothing of the program's text. -/
import Derived.Test.YtnhegnneohpkaaaGreatOrdL
import Derived.Deep.AppendLies
import Derived.Test.YtnhegnneohpkaaaGreatCwP
import Derived.Test.YtnhegnneohpkaaaGreatMgCwA
import Derived.Test.YtnhegnneohpkaaaGreatMgCwB
import Derived.Test.YtnhegnneohpkaaaGreatRsD
import Derived.Test.YtnhegnneohpkaaaGreatMgCmG
import Derived.Test.YtnhegnneohpkaaaGreatMgSgG
namespace Go.Proofs.YtnhegnneohpkaaaGreat
open Go.ChangeShapes Go.WideShapes Go.ChangeAt Go.RowKit
section
variable {P : Program} {ops : Array Oper} {rest : List Oper} {o : Oper} {a : Act} {Q : Exit → Act → World → Prop}
theorem run_append_lies1 (w : World) {t ty e : TypeId} {sz bytes : Nat} (T : SlT P t e sz bytes) (base : Nat) (A : Option Addr) (c : Nat) (cs : List (List Value)) (hown : Own w base e sz A c cs)
    (B : Option Addr) (d : Nat) (r : List Value) (hrd : Rd w w.heap.size B sz [r]) (hr : r.length = sz) (h1 : ∀ u ∈ r, u.oneCell' = true)
    (hbytes : (cs.length + 1) * bytes ≤ 140737488355328) (h63 : cs.length + 1 ≤ maxLen) (hbase : base ≤ w.heap.size) :
    ∃ A' c' w', (Builtin.append_ #[t, t] ty #[.slice A cs.length c, .slice B 1 d]).run P w = .ok (.slice A' (cs.length + 1) c') w' ∧ Own w' base e sz A' c' (cs ++ [r]) ∧ w.grownBy w' (Value.slice A cs.length c).ownBlock ∧
      (∀ g off, A' = some ⟨g, off, none⟩ → (Value.slice A cs.length c).ownBlock = some g ∨ g = w.heap.size) := by
  obtain ⟨i, z, ht, hi, hz, hsz, hby, hzs, h0⟩ := T
  obtain ⟨b, off, rfl, hblt, hc⟩ := hrd (by simp)
  have hnews : ∀ j u, r[j]? = some u → w.cell? ((⟨b, off, none⟩ : Addr).add j) = some u := fun j u hu => by
    have h3 := hc 0 r j u rfl hu
    rw [Go.WideShapes.add_plain]
    rw [show off + 0 * sz + j = off + j by omega] at h3
    exact h3
  obtain ⟨g, cap, w', hrun, h2, h3, h4, _⟩ := run_append_lies (P := P) w t ty base e i z sz bytes ht hi hz hsz hby hzs h0 (.slice A cs.length c) cs.length cs.flatten hown ⟨b, off, none⟩ 1 d r (by rw [hr]; omega) hnews h1 (by omega) h63 hbytes hbase w.heap.size rfl
  refine ⟨_, _, w', hrun, ?_, h3, fun g' off' he => ?_⟩
  · unfold Own
    rw [List.length_append, List.flatten_append]
    simpa using h2
  · cases he
    exact h4
theorem wp_append_lies1 {K : Act → World → Prop} (w : World) (s x : Operand) (t : TypeId)
    (ho : o.op = .call { callee := .builtin .append, args := #[s, x], argTypes := #[t, t] })
    {e : TypeId} {sz bytes : Nat} (T : SlT P t e sz bytes) (base : Nat) (A : Option Addr) (N c : Nat) (cs : List (List Value)) (hs : a.eval s = .slice A N c) (hown : Own w base e sz A c cs)
    (B : Option Addr) (d : Nat) (r : List Value) (hx : a.eval x = .slice B 1 d) (hrd : Rd w w.heap.size B sz [r]) (hr : r.length = sz) (h1 : ∀ u ∈ r, u.oneCell' = true)
    (hbytes : (cs.length + 1) * bytes ≤ 140737488355328) (h63 : cs.length + 1 ≤ maxLen) (hbase : base ≤ w.heap.size) (hN : N = cs.length)
    (h : ∀ A' c' w', Own w' base e sz A' c' (cs ++ [r]) → w.grownBy w' (Value.slice A N c).ownBlock → (∀ g off, A' = some ⟨g, off, none⟩ → (Value.slice A N c).ownBlock = some g ∨ g = w.heap.size) → K (a.put o.dst (.slice A' (N + 1) c')) w') : Oper.wp P o a w K Q := by
  subst hN
  obtain ⟨A', c', w', hrun, h2, h3, h4⟩ := run_append_lies1 (P := P) (ty := o.type) w T base A c cs hown B d r hrd hr h1 hbytes h63 hbase
  unfold Oper.wp execOp
  simp only [ho, resolve, invoke, builtin, Sem.run_bind, Sem.run_pure, Result.andThen_ok, List.map_toArray, List.map_cons, List.map_nil, hs, hx, hrun]
  exact h A' c' w' h2 h3 h4
end
end Go.Proofs.YtnhegnneohpkaaaGreat

/- Parts of a function's code, found by a region's number or a test's slot. Nothing of the program's text. -/
namespace Go.Proofs.YtnhegnneohpkaaaGreat
open Go.ChangeShapes Go.WideShapes Go.ChangeAt Go.RowKit

def findC (p : Code → Bool) : Code → Option Code
  | .seq a b => if p (.seq a b) then some (.seq a b) else (findC p a).orElse fun _ => findC p b
  | .cond c a b => if p (.cond c a b) then some (.cond c a b) else (findC p a).orElse fun _ => findC p b
  | .block n b => if p (.block n b) then some (.block n b) else findC p b
  | .loop b => if p (.loop b) then some (.loop b) else findC p b
  | .scope b => if p (.scope b) then some (.scope b) else findC p b
  | .rangeFunc f ps a b => if p (.rangeFunc f ps a b) then some (.rangeFunc f ps a b) else (findC p a).orElse fun _ => findC p b
  | c => if p c then some c else none
def isRegion (n : Nat) : Code → Bool
  | .region k _ _ => k == n
  | _ => false
def isCond (t : Nat) : Code → Bool
  | .cond (.tmp k) _ _ => k == t
  | _ => false
def isBlock (n : Nat) : Code → Bool
  | .block k _ => k == n
  | _ => false
def partC (b : Option Code) (p : Code → Bool) : Code := (b.bind (findC p)).getD .skip
end Go.Proofs.YtnhegnneohpkaaaGreat

/- What the walk of ComWhole keeps: boxes, rows, deeds. -/
namespace Go.Proofs.YtnhegnneohpkaaaGreat
open Go.ChangeShapes Go.WideShapes Go.ChangeAt Go.RowKit
open CM PD SG

theorem wp_as_then {P : Program} {c : Code} {Q : Exit → Act → World → Prop} {a : Act} {w : World} (h : c.wp P (Exit.then (Q .normal) Q) a w) : c.wp P Q a w := by
  have e : Exit.then (Q .normal) Q = Q := by
    funext x a w
    cases x <;> rfl
  rwa [e] at h
/-- A deed. -/
structure Dd where
  vs : Iv
  give : Bool
  lost : Bool
  ticks : Int
def Dd.cs (a : Dd) : List Value := [.slice a.vs.a a.vs.l.length a.vs.c, .bool a.give, .bool a.lost, .int .i64 a.ticks]
theorem dd_cells {W : World} {B : Nat} {a : Dd} {t : TypeId} {fz : Nat × Nat} (h : W.heap[B]? = some (.cells a.cs.toArray t fz)) :
    W.cell? ⟨B, 0, none⟩ = some (.slice a.vs.a a.vs.l.length a.vs.c) ∧ W.cell? ⟨B, 1, none⟩ = some (.bool a.give) ∧ W.cell? ⟨B, 2, none⟩ = some (.bool a.lost) ∧ W.cell? ⟨B, 3, none⟩ = some (.int .i64 a.ticks) := by
  simp [World.cell?, h, Dd.cs]
def Zb (b c g : Nat) (k : Nat) : Prop := k = b ∨ k = c ∨ k = g
def vRow (gs : List Value) : List (List Value) := gs.map fun v => [v]
theorem vRow_rows (gs : List Value) : ∀ r ∈ vRow gs, r.length = 1 := by
  intro r hr
  obtain ⟨v, _, rfl⟩ := List.mem_map.1 hr
  rfl
theorem vRow_len (gs : List Value) : (vRow gs).length = gs.length := by unfold vRow; rw [List.length_map]
theorem slRow : SlT Tryz.prog 67 33 1 24 := SlT.mk Tryz.underlying67 (z := .slice none 0 0) (by kernel_rfl) rfl (by decide)
theorem slIntW : SlT Tryz.prog 25 3 1 8 := SlT.mk Tryz.underlying25 (z := .int .i64 0) (by kernel_rfl) rfl (by decide)
/-- Where a row of values comes from: it came in, or it is the copy of the first ones. -/
def Src (w1 : World) (CA : Option Addr) (first : List Int) (v : Value) (G : List Int) : Prop := ∃ a c, v = .slice a G.length c ∧ (InR w1 w1.heap.size a G ∨ a = CA ∧ G = first)
structure St (w1 W : World) (b c N : Nat) (first : List Int) (CA : Option Addr) (cc gg gc : Nat) (gs : List Value) (o : Ou) (i : Inn) : Prop where
  O : Hid (W.heap[b]? = some (.cells o.cs.toArray 40 (0, 0)))
  I : Hid (W.heap[c]? = some (.cells i.cs.toArray 47 (0, 0)))
  hO : Hid (o.Ok W)
  aO : Hid (o.Away (Zb b c gg))
  hI : Hid (i.Ok W)
  aI : Hid (i.Away (Zb b c gg))
  OC : Hid (Own W N 2 1 CA cc (inRow first))
  OG : Hid (Own W N 33 1 (some ⟨gg, 0, none⟩) gc (vRow gs))
  Q : Hid (Below w1.heap.size w1 W)
theorem Src.rd {w1 W : World} {N cc : Nat} {CA : Option Addr} {first G : List Int} {v : Value} (h : Src w1 CA first v G) (q : Below w1.heap.size w1 W) (o : Own W N 2 1 CA cc (inRow first)) : ∃ a c, v = .slice a G.length c ∧ InR W W.heap.size a G := by
  obtain ⟨a, c, rfl, h | ⟨rfl, rfl⟩⟩ := h
  · exact ⟨a, c, rfl, Rd.next h q q.size⟩
  · exact ⟨_, c, rfl, inOwn_rd o⟩
theorem gg_not {W : World} {N b c gg gc : Nat} {gs : List Value} (h : Own W N 33 1 (some ⟨gg, 0, none⟩) gc (vRow gs)) (hb : b < N) (hc : c < N) : gg ≠ b ∧ gg ≠ c ∧ N ≤ gg := by
  have := own_blk h gg 0 rfl
  omega
theorem og_lt {W : World} {N gg gc : Nat} {gs : List Value} (h : Own W N 33 1 (some ⟨gg, 0, none⟩) gc (vRow gs)) (hn : 0 < gs.length) : N ≤ gg ∧ gg < W.heap.size := by
  obtain ⟨g, e, h1, h2⟩ := Own.ofLen h (by rw [vRow_len]; exact hn)
  cases e
  exact ⟨h1, h2⟩
/-- A row that grows where it lies, or anew: what lies beside it stands. -/
theorem kp_append {W W' : World} {gg n m : Nat} (hg : W.grownBy W' (Value.slice (some ⟨gg, 0, none⟩) n m).ownBlock) : Kp (fun k => k = gg) W W' :=
  ⟨hg.os, hg.tape, hg.output, hg.size, fun k hk hs => hg.block k hk fun e => hs (Option.some.inj e)⟩
theorem Inn.Tn.away {S : Nat → Prop} {o V : Inn} {N : Nat} (h : o.Tn N V) (a : o.Away S) (hS : ∀ x, S x → x < N) : V.Away S := ⟨by rw [h.ly]; exact a.ly, by rw [h.fl]; exact a.fl, by
  rcases h.rest with ⟨e, _⟩ | ⟨_, _, _, f, _, _⟩
  · rw [e]; exact a.S
  · exact offS_fresh f hS, by
  rcases h.rest with ⟨_, e, _⟩ | ⟨_, _, _, _, f, _⟩
  · rw [e]; exact a.G
  · exact offS_fresh f hS, by rw [h.subs]; exact a.subs⟩
end Go.Proofs.YtnhegnneohpkaaaGreat
