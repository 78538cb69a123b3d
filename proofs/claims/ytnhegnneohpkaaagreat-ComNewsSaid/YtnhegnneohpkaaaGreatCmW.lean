/- Bytes that are sent, and such as come, beside boxes that are written. -/
import Derived.Test.YtnhegnneohpkaaaGreatCmL
import Derived.Test.YtnhegnneohpkaaaGreatCmM
namespace Go.Proofs.YtnhegnneohpkaaaGreat
open Go.ChangeShapes Go.WideShapes Go.ChangeAt Go.RowKit
open CM PD SG

theorem offS_rd {W : World} {B : Nat} {A : Option Addr} {sz : Nat} {R : List (List Value)} (h : Rd W B A sz R) : OffS (fun k => B ≤ k) A R.length := by
  by_cases hn : 0 < R.length
  · obtain ⟨g, off, e, hb, _⟩ := h hn
    refine .inr fun g2 off2 e2 h2 => ?_
    rw [e] at e2
    cases e2
    exact Nat.not_le.2 hb h2
  · exact .inl (by omega)
theorem OffS.mono {S T : Nat → Prop} {A : Option Addr} {n : Nat} (h : OffS S A n) (hT : ∀ k, T k → S k) : OffS T A n := h.elim .inl fun f => .inr fun g off e t => f g off e (hT g t)
theorem OffS.or {S T : Nat → Prop} {A : Option Addr} {n : Nat} (h : OffS S A n) (k : OffS T A n) : OffS (fun x => S x ∨ T x) A n := h.elim .inl fun f => k.elim .inl fun f2 => .inr fun g off e t => t.elim (f g off e) (f2 g off e)
theorem offS_fresh {N n : Nat} {A : Option Addr} {S : Nat → Prop} (h : Fresh N A) (hS : ∀ k, S k → k < N) : OffS S A n := .inr fun g off e t => by have := h g off e; have := hS g t; omega
theorem offS_at {x n : Nat} {S : Nat → Prop} (h : ¬ S x) : OffS S (some ⟨x, 0, none⟩) n := .inr fun g off e t => by cases e; exact h t
section
variable {S T : Nat → Prop} {W W1 : World}
theorem kp_sg {A : Option Addr} {l : List Sg} (k : Kp S W W1) (h : SgR W W.heap.size A l) (a : OffS S A l.length) : SgR W1 W1.heap.size A l := k.rd h (by rw [List.length_map]; exact a)
theorem kp_in {A : Option Addr} {l : List Int} (k : Kp S W W1) (h : InR W W.heap.size A l) (a : OffS S A l.length) : InR W1 W1.heap.size A l := k.rd h (by unfold inRow; rw [List.length_map]; exact a)
theorem kp_bo {A : Option Addr} {l : List Bool} (k : Kp S W W1) (h : BoR W W.heap.size A l) (a : OffS S A l.length) : BoR W1 W1.heap.size A l := k.rd h (by unfold boRow; rw [List.length_map]; exact a)
theorem kp_fl {A : Option Addr} {l : List Flt} (k : Kp S W W1) (h : FlR W W.heap.size A l) (a : OffS S A l.length) : FlR W1 W1.heap.size A l := k.rd h (by rw [List.length_map]; exact a)
structure Lv.Away (S : Nat → Prop) (l : Lv) : Prop where
  a : OffS S l.A l.L.sgs.length
  b : OffS S l.B l.L.nws.length
theorem Lv.Ok.kp {l : Lv} (h : l.Ok W) (k : Kp S W W1) (a : l.Away S) : l.Ok W1 := ⟨kp_sg k h.a a.a, kp_in k h.b a.b, h.s, h.n, h.c, h.d⟩
theorem Lv.Ok.away {l : Lv} (h : l.Ok W) : l.Away (fun k => W.heap.size ≤ k) := ⟨by have := offS_rd h.a; rwa [List.length_map] at this, by have := offS_rd h.b; unfold inRow at this; rwa [List.length_map] at this⟩
theorem Lv.Away.mono {l : Lv} (h : l.Away S) (hT : ∀ k, T k → S k) : l.Away T := ⟨h.a.mono hT, h.b.mono hT⟩
theorem Lv.Away.or {l : Lv} (h : l.Away S) (k : l.Away T) : l.Away (fun x => S x ∨ T x) := ⟨h.a.or k.a, h.b.or k.b⟩
theorem Iv.Ok.kp {i : Iv} (h : i.Ok W) (k : Kp S W W1) (a : OffS S i.a i.l.length) : i.Ok W1 := ⟨kp_in k h.r a, h.m, h.n⟩
theorem Iv.Ok.away {i : Iv} (h : i.Ok W) : OffS (fun k => W.heap.size ≤ k) i.a i.l.length := by have := offS_rd h.r; unfold inRow at this; rwa [List.length_map] at this
theorem Fv.Ok.kp {i : Fv} (h : i.Ok W) (k : Kp S W W1) (a : OffS S i.a i.l.length) : i.Ok W1 := ⟨kp_fl k h.r a, h.n⟩
theorem Fv.Ok.away {i : Fv} (h : i.Ok W) : OffS (fun k => W.heap.size ≤ k) i.a i.l.length := by have := offS_rd h.r; rwa [List.length_map] at this
theorem Bv.Ok.kp {i : Bv} (h : i.Ok W) (k : Kp S W W1) (a : OffS S i.a i.l.length) : i.Ok W1 := ⟨kp_bo k h.r a, h.n⟩
theorem Bv.Ok.away {i : Bv} (h : i.Ok W) : OffS (fun k => W.heap.size ≤ k) i.a i.l.length := by have := offS_rd h.r; unfold boRow at this; rwa [List.length_map] at this
/-- None of the rows lies in some blocks. -/
structure Ou.Away (Z : Nat → Prop) (o : Ou) : Prop where
  ly : o.ly.Away Z
  fl : OffS Z o.fl.a o.fl.l.length
  S : OffS Z o.S.a o.S.l.length
  G : OffS Z o.G.a o.G.l.length
  news : OffS Z o.news.a o.news.l.length
structure Inn.Away (Z : Nat → Prop) (o : Inn) : Prop where
  ly : o.ly.Away Z
  fl : OffS Z o.fl.a o.fl.l.length
  S : OffS Z o.S.a o.S.l.length
  G : OffS Z o.G.a o.G.l.length
  subs : OffS Z o.subs.a o.subs.l.length
theorem Ou.Ok.kp {o : Ou} (h : o.Ok W) (k : Kp S W W1) (a : o.Away S) : o.Ok W1 := ⟨h.ly.kp k a.ly, h.fl.kp k a.fl, h.S.kp k a.S, h.G.kp k a.G, h.news.kp k a.news⟩
theorem Inn.Ok.kp {o : Inn} (h : o.Ok W) (k : Kp S W W1) (a : o.Away S) : o.Ok W1 := ⟨h.ly.kp k a.ly, h.fl.kp k a.fl, h.S.kp k a.S, h.G.kp k a.G, h.subs.kp k a.subs⟩
theorem Ou.Ok.away {o : Ou} (h : o.Ok W) : o.Away (fun k => W.heap.size ≤ k) := ⟨h.ly.away, h.fl.away, h.S.away, h.G.away, h.news.away⟩
theorem Inn.Ok.away {o : Inn} (h : o.Ok W) : o.Away (fun k => W.heap.size ≤ k) := ⟨h.ly.away, h.fl.away, h.S.away, h.G.away, h.subs.away⟩
theorem Ou.Away.mono {o : Ou} (h : o.Away S) (hT : ∀ k, T k → S k) : o.Away T := ⟨h.ly.mono hT, h.fl.mono hT, h.S.mono hT, h.G.mono hT, h.news.mono hT⟩
theorem Inn.Away.mono {o : Inn} (h : o.Away S) (hT : ∀ k, T k → S k) : o.Away T := ⟨h.ly.mono hT, h.fl.mono hT, h.S.mono hT, h.G.mono hT, h.subs.mono hT⟩
theorem Ou.Away.or {o : Ou} (h : o.Away S) (k : o.Away T) : o.Away (fun x => S x ∨ T x) := ⟨h.ly.or k.ly, h.fl.or k.fl, h.S.or k.S, h.G.or k.G, h.news.or k.news⟩
theorem Inn.Away.or {o : Inn} (h : o.Away S) (k : o.Away T) : o.Away (fun x => S x ∨ T x) := ⟨h.ly.or k.ly, h.fl.or k.fl, h.S.or k.S, h.G.or k.G, h.subs.or k.subs⟩
/-- A box beside the rows is written. -/
theorem Ou.Ok.set {o : Ou} (h : o.Ok W) (a : o.Away S) {x : Nat} (hx : S x) (off : Nat) (vs : List Value) : o.Ok (W.setCells x off vs) := h.kp (Kp.set W x off vs hx) a
theorem Inn.Ok.set {o : Inn} (h : o.Ok W) (a : o.Away S) {x : Nat} (hx : S x) (off : Nat) (vs : List Value) : o.Ok (W.setCells x off vs) := h.kp (Kp.set W x off vs hx) a
/-- The rows that a call makes anew lie beside elder boxes; those it takes over lie where they lay. -/
theorem Ou.Wr.away {o V : Ou} {k : Nat} {v : Int} {N : Nat} (h : o.Wr k v N V) (a : o.Away S) (hS : ∀ x, S x → x < N) : V.Away S := ⟨by rw [h.ly]; exact a.ly, by rw [h.fl]; exact a.fl, offS_fresh h.fs hS, by rw [h.G]; exact a.G, offS_fresh h.fn hS⟩
theorem Ou.Gv.away {o V : Ou} {N : Nat} (h : o.Gv N V) (a : o.Away S) (hS : ∀ x, S x → x < N) : V.Away S := ⟨by rw [h.ly]; exact a.ly, offS_fresh h.ff hS, offS_fresh h.fs hS, offS_fresh h.fg hS, by rw [h.news]; exact a.news⟩
theorem Ou.Tk.away {o V : Ou} {N : Nat} (h : o.Tk N V) (a : o.Away S) (hS : ∀ x, S x → x < N) : V.Away S := ⟨by rw [h.ly]; exact a.ly, by rw [h.fl]; exact a.fl, by rw [h.S]; exact a.S, by rw [h.G]; exact a.G, by
  rcases h.news with ⟨e, _⟩ | ⟨_, f, _⟩
  · rw [e]; exact a.news
  · exact offS_fresh f hS⟩
theorem Inn.Cm.away {o V : Inn} {d : List UInt8} {N : Nat} (h : o.Cm d N V) (a : o.Away S) (hS : ∀ x, S x → x < N) : V.Away S := ⟨by rw [h.ly]; exact a.ly, offS_fresh h.ff hS, by
  rcases h.rest with ⟨e, _⟩ | ⟨_, _, _, _, f, _, _⟩
  · rw [e]; exact a.S
  · exact offS_fresh f hS, by
  rcases h.rest with ⟨_, e, _⟩ | ⟨_, _, _, _, _, f, _⟩
  · rw [e]; exact a.G
  · exact offS_fresh f hS, by rw [h.subs]; exact a.subs⟩
end
end Go.Proofs.YtnhegnneohpkaaaGreat
