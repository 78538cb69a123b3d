import Derived.Test.YtkmddjbialpppaaGreatDoorMgFrC
import Derived.Test.YtkmddjbialpppaaGreatDoorMgFin
import Derived.Lib.SliceRun
import Derived.Test.YtkmddjbialpppaaGreatDoorMgPrA
import Derived.Test.YtkmddjbialpppaaGreatDoorMgOrdL
import Derived.Test.YtkmddjbialpppaaGreatDoorMgSnB
import Derived.Deep.CutBlock
import Derived.Test.YtkmddjbialpppaaGreatDoorMgCoZ
namespace Go.Proofs.YtkmddjbialpppaaGreatDoor
open Go.ChangeShapes Go.WideShapes Go.ChangeAt Go.RowKit
open FP (Fr)
structure HQ (B : Nat) (w : World) (bq : Nat) (A : Option Addr) (c : Nat) (l : List Bx) (W : World) : Prop where
  box : W.heap[bq]? = some (.cells #[.slice A l.length c] 332 (0, 0))
  own : Own W B 222 7 A c (l.map bxc)
  q : Below B w W
  hB : B ≤ bq
end Go.Proofs.YtkmddjbialpppaaGreatDoor
namespace Go.Proofs.YtkmddjbialpppaaGreatDoor
open FP (Fr)
namespace HP
open PP (bl)
def kB (x y : Bx) : Bool := bl (dA x.f) (dA y.f) || (!bl (dA y.f) (dA x.f) && decide (x.s < y.s))
theorem ahead_kB {x y : Bx} (hx : FP.rightB x.f = true) (hy : FP.rightB y.f = true) : iZ x y = kB x y := by
  unfold iZ kB
  rw [PP.lessB_bl hx hy, PP.lessB_bl hy hx]
def at' (l : List Bx) (k : Nat) : Bx := (l[k]?).getD ⟨0, ⟨0, false, false, 0, ⟨#[]⟩⟩, 0⟩
theorem at_lt {l : List Bx} {k : Nat} (h : k < l.length) : at' l k = l[k] := by unfold at'; rw [List.getElem?_eq_getElem h]; rfl
def Hp (l : List Bx) (lo n : Nat) : Prop := ∀ k, 0 < k → k < n → lo ≤ (k - 1) / 2 → kB (at' l k) (at' l ((k - 1) / 2)) = false
end HP
end Go.Proofs.YtkmddjbialpppaaGreatDoor
namespace Go.Proofs.YtkmddjbialpppaaGreatDoor
open Go.ChangeShapes Go.WideShapes Go.ChangeAt Go.RowKit
open FP (Fr)
open HP (kB at' Hp)
set_option maxRecDepth 100000 in
theorem bxNew_any (n : Int) (w : World) : Calls Tryz.prog 72 #[.int .i64 n] w fun e w' =>
    e = .returned (if 1 ≤ n ∧ n ≤ 8 then .tuple #[.agg #[.slice none 0 0, .int .i64 0, .int .i64 n], .int .i64 0] else .tuple #[.agg #[.slice none 0 0, .int .i64 0, .int .i64 0], .int .i64 1]) ∧ Below w.heap.size w w' := by
  by_cases h : 1 ≤ n ∧ n ≤ 8
  · rw [if_pos h]
    obtain ⟨h1, h2⟩ := h
    go_enter Tryz.func72, Tryz.ntmps72
    go_wp2
    refine bodyPost_ret (v := .tuple #[.agg #[.slice none 0 0, .int .i64 0, .int .i64 n], .int .i64 0]) (by simp [results, Tryz.results72, go_sem]) rfl ⟨rfl, (Below.refl _ _).alloc (Nat.le_refl _) _⟩
  · rw [if_neg h]
    rcases (show n < 1 ∨ 8 < n by omega) with h1 | h1
    all_goals
      clear h
      go_enter Tryz.func72, Tryz.ntmps72
      go_wp2
      all_goals
        refine bodyPost_ret (v := .tuple #[.agg #[.slice none 0 0, .int .i64 0, .int .i64 0], .int .i64 1]) (by simp [results, Tryz.results72, go_sem]) rfl ⟨rfl, (Below.refl _ _).alloc (Nat.le_refl _) _⟩
def zBx : Bx := ⟨0, ⟨0, false, false, 0, ⟨#[]⟩⟩, 0⟩
end Go.Proofs.YtkmddjbialpppaaGreatDoor
namespace Go.Proofs.YtkmddjbialpppaaGreatDoor
open FP (Fr)
open HP (kB at' Hp)
def okM (seq : Int) (x : Bx) : Prop := FP.rightB x.f = true ∧ 0 ≤ x.h ∧ x.h ≤ 1000000 ∧ 0 ≤ x.s ∧ x.s < seq
theorem fE {l : List Bx} {seq cap : Int} : fI l seq cap = true ↔ 1 ≤ cap ∧ cap ≤ 8 ∧ (l.length : Int) ≤ cap ∧ 0 ≤ seq ∧ seq ≤ 1099511627776 ∧ (∀ x ∈ l, okM seq x) ∧ l.Pairwise (fun x y => x.s ≠ y.s) ∧ Hp l 0 l.length := by
  rw [gP]
  have key : okTo l seq l.length ↔ (∀ x ∈ l, okM seq x) ∧ l.Pairwise (fun x y => x.s ≠ y.s) ∧ Hp l 0 l.length := by
    constructor
    · intro h
      have hm : ∀ x ∈ l, okM seq x := fun x hx => by
        obtain ⟨k, hk, rfl⟩ := List.mem_iff_getElem.1 hx
        have := h k hk hk
        unfold jA at this
        simp only [Bool.and_eq_true, decide_eq_true_eq] at this
        exact ⟨this.1, this.2.1, this.2.2.1, this.2.2.2.1, this.2.2.2.2.1⟩
      refine ⟨hm, ?_, fun k h0 hk _ => ?_⟩
      · rw [List.pairwise_iff_getElem]
        intro i j hi hj hij
        have := h j hj hj
        unfold jA at this
        simp only [Bool.and_eq_true, Bool.not_eq_true'] at this
        have h3 := List.any_eq_false.1 this.2.2.2.2.2.1 l[i] (by rw [List.mem_take_iff_getElem]; exact ⟨i, by omega, rfl⟩)
        intro e
        apply h3
        rw [e]; simp
      · have hp : (k - 1) / 2 < l.length := by omega
        have := h k hk hk
        unfold jA at this
        rw [List.getElem?_eq_getElem hp] at this
        simp only [Bool.and_eq_true, Bool.or_eq_true, decide_eq_true_eq, Bool.not_eq_true'] at this
        rcases this.2.2.2.2.2.2 with h' | h'
        · omega
        · rw [HP.at_lt hk, HP.at_lt hp, ← HP.ahead_kB (hm _ (List.getElem_mem hk)).1 (hm _ (List.getElem_mem hp)).1]
          exact h'
    · rintro ⟨hm, hd, hh⟩ k hk _
      obtain ⟨a1, a2, a3, a4, a5⟩ := hm _ (List.getElem_mem hk)
      refine okBx_mk a1 a2 a3 a4 a5 ?_ ?_
      · rw [List.any_eq_false]
        intro y hy
        rw [List.mem_take_iff_getElem] at hy
        obtain ⟨i, hi, rfl⟩ := hy
        have := List.pairwise_iff_getElem.1 hd i k (by omega) hk (by omega)
        simpa using this
      · by_cases h0 : k = 0
        · exact .inl h0
        · have hp : (k - 1) / 2 < l.length := by omega
          refine .inr ⟨_, hp, rfl, ?_⟩
          rw [HP.ahead_kB a1 (hm _ (List.getElem_mem hp)).1, ← HP.at_lt hk, ← HP.at_lt hp]
          exact hh k (by omega) hk (Nat.zero_le _)
  rw [key]
end Go.Proofs.YtkmddjbialpppaaGreatDoor
namespace Go.Proofs.YtkmddjbialpppaaGreatDoor
open Go.ChangeShapes Go.WideShapes Go.ChangeAt Go.RowKit
open FP (Fr)
structure Fi where
  A : Option Addr
  m : List Bx
  c : Nat
  seq : Int
  cap : Int
  has : Int
  on : Bool
  sent : Int
  lost : Int
def Fi.cs (x : Fi) : List Value := [.slice x.A x.m.length x.c, .int .i64 x.seq, .int .i64 x.cap, .int .i64 x.has, .bool x.on, .int .i64 x.sent, .int .i64 x.lost]
structure Fi.Ok (x : Fi) (w : World) : Prop where
  r : BxR w w.heap.size x.A x.m
  cl : x.m.length ≤ x.c
  id : ∀ b ∈ x.m, b.f.id < 4294967296
  rt : fI x.m x.seq x.cap = true
  hs : -1 ≤ x.has ∧ x.has ≤ 1000000
  st : 0 ≤ x.sent ∧ x.sent ≤ 1099511627776
  lt : 0 ≤ x.lost ∧ x.lost ≤ 1099511627776
  off : x.on = false → x.has = -1 ∧ x.m = []
theorem Fi.Ok.next {o : Fi} {w w' : World} (h : o.Ok w) (q : Below w.heap.size w w') : o.Ok w' := ⟨Rd.next h.r q q.size, h.cl, h.id, h.rt, h.hs, h.st, h.lt, h.off⟩
theorem fi_cells {W : World} {B : Nat} {x : Fi} {t : TypeId} {fz : Nat × Nat} (h : W.heap[B]? = some (.cells x.cs.toArray t fz)) :
    W.cell? ⟨B, 0, none⟩ = some (.slice x.A x.m.length x.c) ∧ W.cell? ⟨B, 1, none⟩ = some (.int .i64 x.seq) ∧ W.cell? ⟨B, 2, none⟩ = some (.int .i64 x.cap) ∧ W.cell? ⟨B, 3, none⟩ = some (.int .i64 x.has) ∧ W.cell? ⟨B, 4, none⟩ = some (.bool x.on) ∧ W.cell? ⟨B, 5, none⟩ = some (.int .i64 x.sent) ∧ W.cell? ⟨B, 6, none⟩ = some (.int .i64 x.lost) := by
  simp [World.cell?, h, Fi.cs]
theorem fi_len {x : Fi} {w : World} (h : x.Ok w) : x.m.length ≤ 8 := by
  obtain ⟨_, r2, r3, _⟩ := gP.1 h.rt
  omega
set_option maxRecDepth 100000 in
set_option maxHeartbeats 4000000 in
theorem cnRight_ok (x : Fi) (w : World) (ho : x.Ok w) : Calls Tryz.prog 45 #[.agg x.cs.toArray] w fun e w' => e = .returned (.bool true) ∧ Below w.heap.size w w' := by
  obtain ⟨w0, hw0⟩ : ∃ w0, w0 = w.alloc (.cells x.cs.toArray 44) := ⟨_, rfl⟩
  have B0 := aA (World.alloc_heap_new w (.cells x.cs.toArray 44))
  have Q0 : Hid (Below w.heap.size w w0) := by rw [hw0]; exact aA ((Below.refl _ _).alloc (Nat.le_refl _) _)
  rw [← hw0] at B0
  have h8 := fi_len ho
  have o0 := ho.next Q0.out
  have RI := aA (show Calls Tryz.prog 88 #[.agg #[.slice x.A x.m.length x.c, .int .i64 x.seq, .int .i64 x.cap]] w0 fun e w' => e = .returned (.bool true) ∧ Below w0.heap.size w0 w' from by
    have := bxRight_any x.m x.A x.c x.seq x.cap w0 o0.r (by omega) ho.cl ho.id
    rwa [ho.rt] at this)
  have HS := aA ho.hs
  have ST := aA ho.st
  have LT := aA ho.lt
  have OF := aA ho.off
  obtain ⟨c0, c1, c2, c3, c4, c5, c6⟩ := fi_cells B0.out
  clear ho o0
  obtain ⟨A, m, c, seq, cap, has, on, sent, lost⟩ := x
  dsimp only at *
  go_enter Tryz.func45, Tryz.ntmps45
  go_upto_region 1 with fail
  change Code.wp _ _ _ _ (w.alloc (.cells (Fi.cs ⟨A, m, c, seq, cap, has, on, sent, lost⟩).toArray 44))
  rw [← hw0]
  clear hw0
  go_wp2_with fail
  (with_reducible refine (RI.out).mono ?_)
  rintro e1 w1 ⟨rfl, q1⟩
  have B1 := aA (aB B0.out q1)
  have Q1 := aA (aC Q0.out Q0.out.size q1)
  clear q1 B0 Q0 RI c0 c1 c2 c3 c4 c5 c6
  obtain ⟨c0, c1, c2, c3, c4, c5, c6⟩ := fi_cells B1.out
  dsimp only at c0 c1 c2 c3 c4 c5 c6
  obtain ⟨s1, s2⟩ := HS.out
  obtain ⟨s3, s4⟩ := ST.out
  obtain ⟨s5, s6⟩ := LT.out
  cases on with
  | true =>
    go_wp2_with fail
    go_ret
    exact ⟨rfl, Q1.out⟩
  | false =>
    obtain ⟨rfl, rfl⟩ := OF.out rfl
    go_wp2_with fail
    go_ret
    exact ⟨rfl, Q1.out⟩
end Go.Proofs.YtkmddjbialpppaaGreatDoor
namespace Go.Proofs.YtkmddjbialpppaaGreatDoor
open Go.ChangeShapes Go.WideShapes Go.ChangeAt Go.RowKit
def dZ (A : Option Addr) (n x : Nat) : Prop := n = 0 ∨ ∀ g off, A = some ⟨g, off, none⟩ → g ≠ x
theorem bJ {w : World} {A : Option Addr} {sz : Nat} {R : List (List Value)} {x : Nat} (h : Rd w w.heap.size A sz R) (ho : dZ A R.length x) (vs : List Value) (o : Nat) : Rd (w.setCells x o vs) (w.setCells x o vs).heap.size A sz R := by
  rcases ho with ho | ho
  · intro hn
    omega
  · exact jD ho _ _ _ h
theorem cG {w : World} {B : Nat} {A : Option Addr} {sz : Nat} {R : List (List Value)} {x : Nat} (h : Rd w B A sz R) (hx : B ≤ x) : dZ A R.length x := by
  by_cases hn : 0 < R.length
  · obtain ⟨g, off, e, hb, _⟩ := h hn
    refine .inr fun g2 off2 e2 => ?_
    rw [e] at e2
    cases e2
    omega
  · exact .inl (by omega)
theorem aW {N n x : Nat} {A : Option Addr} (h : ∀ g off, A = some ⟨g, off, none⟩ → N ≤ g) (hx : x < N) : dZ A n x := .inr fun g off e => by have := h g off e; omega
def Fresh (N : Nat) (A : Option Addr) : Prop := ∀ g off, A = some ⟨g, off, none⟩ → N ≤ g
theorem Fresh.mono {N M : Nat} {A : Option Addr} (h : Fresh N A) (hm : M ≤ N) : Fresh M A := fun g off e => Nat.le_trans hm (h g off e)
theorem fresh_own {W : World} {base : Nat} {e : TypeId} {sz : Nat} {A : Option Addr} {c : Nat} {R : List (List Value)} (h : Own W base e sz A c R) : Fresh base A := gQ h
theorem splat_go : ∀ (xs : List Value) (n : Nat) (pre suf : List Value), pre.length = n → suf.length = xs.length → List.foldl (fun (cs : Array Value) (x : Value × Nat) => cs.setIfInBounds x.2 x.1) (pre ++ suf).toArray (xs.zipIdx n) = (pre ++ xs).toArray
  | [], _, pre, suf, _, h => by
    cases suf with
    | nil => rfl
    | cons => simp at h
  | x :: xs, n, pre, suf, hp, h => by
    cases suf with
    | nil => simp at h
    | cons s suf =>
      rw [List.zipIdx_cons, List.foldl_cons]
      have e : (pre ++ s :: suf).toArray.setIfInBounds n x = ((pre ++ [x]) ++ suf).toArray := by
        subst hp
        simp
      show List.foldl _ ((pre ++ s :: suf).toArray.setIfInBounds n x) _ = _
      rw [e, splat_go xs (n + 1) (pre ++ [x]) suf (by simp [hp]) (by simpa using h)]
      simp
theorem splat_any (z : Array Value) (xs : List Value) (h : z.size = xs.length) : List.foldl (fun (cs : Array Value) (x : Value × Nat) => cs.setIfInBounds x.2 x.1) z xs.zipIdx = xs.toArray :=
  splat_go xs 0 [] z.toList rfl (by simpa using h)
section
variable {P : Program} {ops : Array Oper} {Q : Exit → Act → World → Prop} {md : Region.Mode} {L : List Nat} {l : List (Nat × (World → Prop))}
theorem wpAnyL_three {i k m : Nat} {fuel : Nat} {listed : Array Bool} {a : Act} {w : World} (hr : Region.ready md ops listed = [i, k, m])
    (h : wpOp P ops Q i (fun a' w' => gW md ops L l i w w' ∧ bN P md ops Q L l fuel (listed.setIfInBounds i true) a' w') a w)
    (h' : wpOp P ops Q k (fun a' w' => gW md ops L l k w w' ∧ bN P md ops Q L l fuel (listed.setIfInBounds k true) a' w') a w)
    (h'' : wpOp P ops Q m (fun a' w' => gW md ops L l m w w' ∧ bN P md ops Q L l fuel (listed.setIfInBounds m true) a' w') a w) : bN P md ops Q L l (fuel + 1) listed a w :=
  ⟨fun h0 => absurd (hr.symm.trans h0) (by simp), hr ▸ fun j hj => by
    simp only [List.mem_cons, List.not_mem_nil, or_false] at hj
    rcases hj with rfl | rfl | rfl
    · exact h
    · exact h'
    · exact h''⟩
end
structure Kp (S : Nat → Prop) (W W' : World) : Prop where
  os : W'.os = W.os
  tape : W'.tape = W.tape
  output : W'.output = W.output
  size : W.heap.size ≤ W'.heap.size
  block : ∀ k, k < W.heap.size → ¬ S k → W'.heap[k]? = W.heap[k]?
section
variable {S : Nat → Prop} {W W1 W2 : World}
theorem Kp.refl : Kp S W W := ⟨rfl, rfl, rfl, Nat.le_refl _, fun _ _ _ => rfl⟩
theorem Kp.trans (h : Kp S W W1) (k : Kp S W1 W2) : Kp S W W2 :=
  ⟨k.os.trans h.os, k.tape.trans h.tape, k.output.trans h.output, Nat.le_trans h.size k.size, fun i hi hs => (k.block i (Nat.lt_of_lt_of_le hi h.size) hs).trans (h.block i hi hs)⟩
theorem Kp.mono {S' : Nat → Prop} (h : Kp S W W1) (hS : ∀ k, k < W.heap.size → S k → S' k) : Kp S' W W1 := ⟨h.os, h.tape, h.output, h.size, fun k hk hs => h.block k hk fun h' => hs (hS k hk h')⟩
theorem Kp.below {B : Nat} (h : Kp S W W1) (hS : ∀ k, S k → B ≤ k) (hB : B ≤ W.heap.size) : Below B W W1 :=
  ⟨h.os, h.tape, h.output, h.size, fun k hk => h.block k (Nat.lt_of_lt_of_le hk hB) fun hs => by have := hS k hs; omega⟩
theorem Kp.of (q : Below W.heap.size W W1) : Kp S W W1 := ⟨q.os, q.tape, q.output, q.size, fun k hk _ => q.block k hk⟩
theorem Kp.set (W : World) (b o : Nat) (vs : List Value) (hb : S b) : Kp S W (W.setCells b o vs) := by
  have h := aE (B := b) vs o W (Nat.le_refl _)
  refine ⟨h.os, h.tape, h.output, h.size, fun k hk hs => ?_⟩
  have hne : k ≠ b := fun e => hs (e ▸ hb)
  obtain ⟨x, hx⟩ : ∃ x, W.heap[k]? = some x := ⟨W.heap[k], Array.getElem?_eq_getElem hk⟩
  rw [hx]
  exact aG hne vs o W hx
theorem Kp.setC (W : World) (b o : Nat) (v : Value) (hb : S b) : Kp S W (W.setCell ⟨b, o, none⟩ v) := Kp.set W b o [v] hb
theorem Kp.new {x : Nat} (h : Kp S W W1) (hx : W.heap.size ≤ x) (o : Nat) (vs : List Value) : Kp S W (W1.setCells x o vs) := by
  have k := aE (B := x) vs o W1 (Nat.le_refl _)
  exact ⟨k.os.trans h.os, k.tape.trans h.tape, k.output.trans h.output, Nat.le_trans h.size k.size, fun i hi hs => (k.block i (by omega)).trans (h.block i hi hs)⟩
theorem Kp.heap {x : Nat} {o : Obj} (h : Kp S W W1) (hx : W.heap[x]? = some o) (hn : ¬ S x) : W1.heap[x]? = some o := (h.block x (aH hx) hn).trans hx
def OffS (S : Nat → Prop) (A : Option Addr) (n : Nat) : Prop := n = 0 ∨ ∀ g off, A = some ⟨g, off, none⟩ → ¬ S g
theorem Kp.rd {A : Option Addr} {sz : Nat} {R : List (List Value)} (h : Kp S W W1) (hr : Rd W W.heap.size A sz R) (hn : OffS S A R.length) : Rd W1 W1.heap.size A sz R := by
  rcases hn with hn | hn
  · intro h0; omega
  · intro h0
    obtain ⟨b, off, e, hb, hc⟩ := hr h0
    refine ⟨b, off, e, by have := h.size; omega, fun k row j v a c => ?_⟩
    have := hc k row j v a c
    rw [← this]
    exact World.cell?_of_block (h.block b hb (hn b off e))
end
theorem bE {W : World} {p : Nat} {v : Value} {t : TypeId} (h : W.heap[p]? = some (.cells #[v] t (0, 0))) : W.cell? ⟨p, 0, none⟩ = some v ∧ W.frozen? ⟨p, 0, none⟩ = false := by
  refine ⟨by simp [World.cell?, h], by simp [World.frozen?, h]⟩
end Go.Proofs.YtkmddjbialpppaaGreatDoor
namespace Go.Proofs.YtkmddjbialpppaaGreatDoor
open Go.ChangeShapes Go.WideShapes Go.ChangeAt Go.RowKit
open FP (Fr)
theorem fi_free {W : World} {B : Nat} {x : Fi} {t : TypeId} (h : W.heap[B]? = some (.cells x.cs.toArray t (0, 0))) (j : Nat) : W.frozen? ⟨B, j, none⟩ = false := by simp [World.frozen?, h]
def zFi : Fi := ⟨none, [], 0, 0, 0, 0, false, 0, 0⟩
structure Fi.Okp (x : Fi) : Prop where
  cl : x.m.length ≤ x.c
  id : ∀ b ∈ x.m, b.f.id < 4294967296
  rt : fI x.m x.seq x.cap = true
  hs : -1 ≤ x.has ∧ x.has ≤ 1000000
  st : 0 ≤ x.sent ∧ x.sent ≤ 1099511627776
  lt : 0 ≤ x.lost ∧ x.lost ≤ 1099511627776
  off : x.on = false → x.has = -1 ∧ x.m = []
theorem Fi.Okp.at_ {x : Fi} {w : World} (p : x.Okp) (r : BxR w w.heap.size x.A x.m) : x.Ok w := ⟨r, p.cl, p.id, p.rt, p.hs, p.st, p.lt, p.off⟩
set_option maxRecDepth 100000 in
set_option maxHeartbeats 8000000 in
theorem cnCall1_ok (x : Fi) (w : World) (ho : x.Ok w) (fid p0 : Nat) (hp : ∀ (args : Array Value) (W : World), (callFunc fid args).run Tryz.prog W = .ok (.enter fid args) W) (S : Nat → Prop) (hS : ∀ k, S k → k < w.heap.size) (P : Fi → World → Prop)
    (hst : ∀ y W vs, P y W → P y (W.setCells (w.heap.size + 1) 0 vs))
    (hdo : Hid (∀ W, W.heap[w.heap.size]? = some (.cells x.cs.toArray 44 (0, 0)) → Below w.heap.size w W → w.heap.size + 1 < W.heap.size → Calls Tryz.prog fid #[.pointer (some ⟨w.heap.size, 0, none⟩), .pointer (some ⟨p0, 0, none⟩)] W fun e W' => ∃ y, e = .returned (.int .i64 0) ∧ W'.heap[w.heap.size]? = some (.cells y.cs.toArray 44 (0, 0)) ∧ P y W' ∧ Kp (fun k => k = w.heap.size ∨ S k) W W')) :
    Calls Tryz.prog 191 #[.agg x.cs.toArray, .func (.func fid) #[] #[.pointer (some ⟨p0, 0, none⟩)]] w fun e w' => ∃ y, e = .returned (.tuple #[.agg y.cs.toArray, .int .i64 0]) ∧ P y w' ∧ Kp S w w' := by
  obtain ⟨w0, hw0⟩ : ∃ w0, w0 = (w.alloc (.cells x.cs.toArray 44)).alloc (.cells zFi.cs.toArray 44) := ⟨_, rfl⟩
  have B := aA (aB (World.alloc_heap_new w (.cells x.cs.toArray 44)) ((Below.refl _ (w.alloc (.cells x.cs.toArray 44))).alloc (Nat.le_refl _) (.cells zFi.cs.toArray 44)))
  have R := aA (World.alloc_heap_new (w.alloc (.cells x.cs.toArray 44)) (.cells zFi.cs.toArray 44))
  have Q : Hid (Below w.heap.size w w0) := by rw [hw0]; exact aA (((Below.refl w.heap.size w).alloc (Nat.le_refl _) (.cells x.cs.toArray 44)).alloc (by simp; try omega) (.cells zFi.cs.toArray 44))
  rw [← hw0] at B R
  simp only [World.size_alloc] at R
  have RT := aA (cnRight_ok x w0 (ho.next Q.out))
  have HST := aA hst
  clear ho hst
  go_enter Tryz.func191, Tryz.ntmps191
  go_upto_region 1 with fail
  change Code.wp _ _ _ _ ((w.alloc (.cells x.cs.toArray 44)).alloc (.cells zFi.cs.toArray 44))
  rw [← hw0]
  clear hw0
  go_wp2_with (refine wpList_load_row rfl 44 (.tmp 2) (by rfl) w.heap.size (by rfl) 44 x.cs.toArray (0, 0) _ (by exact B.out) Tryz.underlying44 (by rfl) (by kernel_rfl) ?_)
  (with_reducible refine (RT.out).mono ?_)
  rintro ew1' w1' ⟨rfl, qw1'⟩
  replace B := aA (aB B.out qw1')
  replace R := aA (aB R.out qw1')
  replace Q := aA (aC Q.out Q.out.size qw1')
  clear qw1'
  clear RT
  have zR := aH R.out
  go_wp2_with fail
  (with_reducible refine (hdo.out w1' B.out Q.out zR).mono ?_)
  rintro e9 w9 ⟨y, rfl, b9, p9, k9⟩
  replace R := aA (k9.heap R.out (fun h => by rcases h with h | h; omega; have := hS _ h; omega))
  replace B := aA b9
  have K := aA (show w9.os = w.os ∧ w9.tape = w.tape ∧ w9.output = w.output ∧ w.heap.size + 1 < w9.heap.size ∧ ∀ k, k < w.heap.size → ¬ S k → w9.heap[k]? = w.heap[k]? from ⟨k9.os.trans Q.out.os, k9.tape.trans Q.out.tape, k9.output.trans Q.out.output, Nat.lt_of_lt_of_le zR k9.size, fun k hk hs => (k9.block k (by omega) (fun h => by rcases h with h | h; omega; exact hs h)).trans (Q.out.block k hk)⟩)
  have PP := aA p9
  clear k9 p9 Q zR hdo hp
  have TR := aA (show w9.there (w.heap.size + 1) 0 7 from aK (cs := zFi.cs) R.out)
  go_wp2_with (first | (refine wpList_load_row rfl 44 (.tmp 2) (by rfl) w.heap.size (by rfl) 44 y.cs.toArray (0, 0) _ (by exact B.out) Tryz.underlying44 (by rfl) (by kernel_rfl) ?_) | (refine aF (by rfl) 44 (.tmp 4) (.tmp 17) (by rfl) (w.heap.size + 1) 0 y.cs (by rfl) (by rfl) (by exact TR.out) (by kernel_rfl) (by simp [Value.oneCell', Fi.cs]) ?_))
  intro w6 e6
  have R6 := aA (show w6.heap[w.heap.size + 1]? = some (.cells y.cs.toArray 44 (0, 0)) by rw [e6.out]; exact aJ y.cs (xs := zFi.cs) R.out rfl)
  have P6 := aA (show P y w6 by rw [e6.out]; exact HST.out y w9 _ PP.out)
  have K6 := aA (show Kp S w w6 by
    rw [e6.out]
    obtain ⟨a, b, c, d, e⟩ := K.out
    have h := aE (B := w.heap.size + 1) (y.cs) 0 w9 (Nat.le_refl (w.heap.size + 1))
    exact ⟨h.os.trans a, h.tape.trans b, h.output.trans c, Nat.le_trans (by omega) h.size, fun k hk hs => (h.block k (by omega)).trans (e k hk hs)⟩)
  clear e6 TR R B PP K HST
  go_wp2_with fail
  refine bodyPost_ret (aP (by rfl) _ w6 (w.heap.size + 1) 44 y.cs.toArray (0, 0) _ (.int .i64 0) (by rfl) (by rfl) R6.out Tryz.underlying44 (by rfl) (by kernel_rfl)) rfl ⟨y, rfl, P6.out, K6.out⟩
def eT (n : Int) : Fi := ⟨none, [], 0, 0, n, -1, false, 0, 0⟩
set_option maxRecDepth 100000 in
set_option maxHeartbeats 8000000 in
theorem cnNew_ok (n : Int) (h1 : 1 ≤ n) (h8 : n ≤ 8) (w : World) : Calls Tryz.prog 28 #[.int .i64 n] w fun e w' => e = .returned (.tuple #[.agg (eT n).cs.toArray, .int .i64 0]) ∧ Below w.heap.size w w' := by
  have NB := aA (fun W => show Calls Tryz.prog 72 #[.int .i64 n] W fun e w' => e = .returned (.tuple #[.agg #[.slice none 0 0, .int .i64 0, .int .i64 n], .int .i64 0]) ∧ Below W.heap.size W w' from by
    have := bxNew_any n W
    rwa [if_pos (⟨h1, h8⟩ : 1 ≤ n ∧ n ≤ 8)] at this)
  have R := aA (World.alloc_heap_new w (.cells zFi.cs.toArray 44))
  have Q := aA ((Below.refl w.heap.size w).alloc (Nat.le_refl _) (.cells zFi.cs.toArray 44))
  go_enter Tryz.func28, Tryz.ntmps28
  go_wp2_with fail
  (with_reducible refine (NB.out _).mono ?_)
  rintro ew1' w1' ⟨rfl, qw1'⟩
  replace R := aA (aB R.out qw1')
  replace Q := aA (aC Q.out Q.out.size qw1')
  clear qw1'
  clear NB
  have B := World.alloc_heap_new w1' (.cells ([.slice none 0 0, .int .i64 0, .int .i64 0]).toArray 42)
  have zRy : w.heap.size < w1'.heap.size := aH R.out
  have zQy : w.heap.size ≤ w1'.heap.size := Q.out.size
  obtain ⟨w3', hw3'⟩ : ∃ wx, wx = w1'.alloc (.cells ([.slice none 0 0, .int .i64 0, .int .i64 0]).toArray 42) := ⟨_, rfl⟩
  have q2' := aA (show Below w1'.heap.size w1' w3' by rw [hw3']; exact (Below.refl _ _).alloc (Nat.le_refl _) _)
  rw [← hw3'] at B
  replace B := aA B
  have Tw4' := aA (show (w1'.alloc (.cells ([.slice none 0 0, .int .i64 0, .int .i64 0]).toArray 42)).there w1'.heap.size 0 3 by rw [← hw3']; exact aK (cs := [.slice none 0 0, .int .i64 0, .int .i64 0]) B.out)
  go_wp2_with (refine aF (by rfl) 42 (.tmp 4) (.tmp 9) (by rfl) w1'.heap.size 0 ([.slice none 0 0, .int .i64 0, .int .i64 n]) (by rfl) (by rfl) (by exact Tw4'.out) (by kernel_rfl) (by simp [Value.oneCell', ]) ?_)
  intro w4' ew4'
  replace ew4' : Hid (w4' = w3'.setCells w1'.heap.size 0 ([.slice none 0 0, .int .i64 0, .int .i64 n])) := by rw [hw3']; exact ew4'
  replace B := aA (show w4'.heap[w1'.heap.size]? = some (.cells ([.slice none 0 0, .int .i64 0, .int .i64 n]).toArray 42 (0, 0)) by rw [ew4'.out]; exact aJ ([.slice none 0 0, .int .i64 0, .int .i64 n]) (xs := [.slice none 0 0, .int .i64 0, .int .i64 0]) B.out rfl)
  replace q2' := aA (show Below w1'.heap.size w1' w4' by rw [ew4'.out]; exact q2'.out.trans (aE _ _ _ (by omega)))
  clear ew4' Tw4' hw3'
  replace R := aA (aB R.out q2'.out)
  replace Q := aA (aC Q.out Q.out.size q2'.out)
  clear q2'
  generalize w1'.heap.size = y at *
  have TR := aA (show World.there _ w.heap.size 0 7 from aK (cs := zFi.cs) R.out)
  go_wp2_with (first | (refine wpList_load_row rfl 42 (.tmp 4) (by rfl) y (by rfl) 42 #[.slice none 0 0, .int .i64 0, .int .i64 n] (0, 0) _ (by exact B.out) Tryz.underlying42 (by rfl) (by kernel_rfl) ?_) | (refine aF (by rfl) 44 (.tmp 2) (.tmp 16) (by rfl) w.heap.size 0 (eT n).cs (by rfl) (by rfl) (by exact TR.out) (by kernel_rfl) (by simp [Value.oneCell', Fi.cs, eT]) ?_))
  intro w6 e6
  have R6 := aA (show w6.heap[w.heap.size]? = some (.cells (eT n).cs.toArray 44 (0, 0)) by rw [e6.out]; exact aJ (eT n).cs (xs := zFi.cs) R.out rfl)
  have Q6 := aA (show Below w.heap.size w w6 by rw [e6.out]; exact Q.out.trans (aE _ _ _ (Nat.le_refl _)))
  clear e6 TR R B Q
  go_wp2_with fail
  refine bodyPost_ret (aP (by rfl) _ w6 w.heap.size 44 (eT n).cs.toArray (0, 0) _ (.int .i64 0) (by rfl) (by rfl) R6.out Tryz.underlying44 (by rfl) (by kernel_rfl)) rfl ⟨rfl, Q6.out⟩
structure Cl where
  tc : Int
  rc : Int
  off : Bool
  rs : Int
  st : Int
  n : Int
  was : Bool
  hard : Bool
  has : Bool
  f : Fr
  sends : Bool
  out : ByteArray
  at_ : Int
  last : Int
  sn : Int
  got : ByteArray
  en : Bool
  tail : Int
  good : Bool
def zFr : Fr := ⟨0, false, false, 0, ⟨#[]⟩⟩
def zCl : Cl := ⟨0, 0, false, 0, 0, 0, false, false, false, zFr, false, ⟨#[]⟩, 0, 0, 0, ⟨#[]⟩, false, 0, false⟩
def Cl.cs (c : Cl) : List Value := [.int .i64 c.tc, .int .i64 c.rc, .bool c.off, .int .i64 c.rs, .int .i64 c.st, .int .i64 c.n, .bool c.was, .bool c.hard, .bool c.has, .int .u32 c.f.id, .bool c.f.ext, .bool c.f.rem, .int .i64 c.f.dlc, .string c.f.data, .bool c.sends, .string c.out, .int .i64 c.at_, .int .u8 c.last, .int .i64 c.sn, .string c.got, .bool c.en, .int .i64 c.tail, .bool c.good]
theorem jE {W : World} {B : Nat} {c : Cl} {t : TypeId} {fz : Nat × Nat} (h : W.heap[B]? = some (.cells c.cs.toArray t fz)) :
    (W.cell? ⟨B, 0, none⟩ = some (.int .i64 c.tc) ∧ W.cell? ⟨B, 1, none⟩ = some (.int .i64 c.rc) ∧ W.cell? ⟨B, 2, none⟩ = some (.bool c.off) ∧ W.cell? ⟨B, 3, none⟩ = some (.int .i64 c.rs)) ∧
    (W.cell? ⟨B, 4, none⟩ = some (.int .i64 c.st) ∧ W.cell? ⟨B, 5, none⟩ = some (.int .i64 c.n) ∧ W.cell? ⟨B, 6, none⟩ = some (.bool c.was) ∧ W.cell? ⟨B, 7, none⟩ = some (.bool c.hard) ∧ W.cell? ⟨B, 8, none⟩ = some (.bool c.has)) ∧
    (W.cell? ⟨B, 9, none⟩ = some (.int .u32 c.f.id) ∧ W.cell? ⟨B, 10, none⟩ = some (.bool c.f.ext) ∧ W.cell? ⟨B, 11, none⟩ = some (.bool c.f.rem) ∧ W.cell? ⟨B, 12, none⟩ = some (.int .i64 c.f.dlc) ∧ W.cell? ⟨B, 13, none⟩ = some (.string c.f.data)) ∧
    (W.cell? ⟨B, 14, none⟩ = some (.bool c.sends) ∧ W.cell? ⟨B, 15, none⟩ = some (.string c.out) ∧ W.cell? ⟨B, 16, none⟩ = some (.int .i64 c.at_) ∧ W.cell? ⟨B, 17, none⟩ = some (.int .u8 c.last) ∧ W.cell? ⟨B, 18, none⟩ = some (.int .i64 c.sn) ∧ W.cell? ⟨B, 19, none⟩ = some (.string c.got) ∧ W.cell? ⟨B, 20, none⟩ = some (.bool c.en) ∧ W.cell? ⟨B, 21, none⟩ = some (.int .i64 c.tail) ∧ W.cell? ⟨B, 22, none⟩ = some (.bool c.good)) := by
  simp [World.cell?, h, Cl.cs]
def cntB (tc rc : Int) (off : Bool) (rs : Int) : Bool := if off = true then decide (tc = 0 ∧ rc = 0 ∧ 1 ≤ rs ∧ rs ≤ 128) else decide (0 ≤ tc ∧ tc ≤ 255 ∧ 0 ≤ rc ∧ rc ≤ 255 ∧ rs = 0)
def Cl.Out (c : Cl) : Prop := c.sends = false ∧ c.out = ⟨#[]⟩ ∧ c.at_ = 0 ∧ c.last = 0 ∧ c.sn = 0 ∧ c.got = ⟨#[]⟩ ∧ c.en = false ∧ c.tail = 0 ∧ c.good = false
theorem four_cells {W : World} {B : Nat} {a b c d : Value} {t : TypeId} {fz : Nat × Nat} (h : W.heap[B]? = some (.cells #[a, b, c, d] t fz)) : W.cell? ⟨B, 0, none⟩ = some a ∧ W.cell? ⟨B, 1, none⟩ = some b ∧ W.cell? ⟨B, 2, none⟩ = some c ∧ W.cell? ⟨B, 3, none⟩ = some d := by
  simp [World.cell?, h]
set_option maxRecDepth 100000 in
set_option maxHeartbeats 4000000 in
theorem cntRight_any (tc rc : Int) (off : Bool) (rs : Int) (w : World) : Calls Tryz.prog 84 #[.agg #[.int .i64 tc, .int .i64 rc, .bool off, .int .i64 rs]] w fun e w' => e = .returned (.bool (cntB tc rc off rs)) ∧ Below w.heap.size w w' := by
  obtain ⟨r, hr⟩ : ∃ r, r = cntB tc rc off rs := ⟨_, rfl⟩
  rw [← hr]
  unfold cntB at hr
  have q0 : Below w.heap.size w (w.alloc (.cells #[.int .i64 tc, .int .i64 rc, .bool off, .int .i64 rs] 33)) := (Below.refl _ _).alloc (Nat.le_refl _) _
  obtain ⟨c0, c1, c2, c3⟩ := four_cells (World.alloc_heap_new w (.cells #[.int .i64 tc, .int .i64 rc, .bool off, .int .i64 rs] 33))
  have Q0 := aA q0
  clear q0
  generalize hw0 : w.alloc (.cells #[.int .i64 tc, .int .i64 rc, .bool off, .int .i64 rs] 33) = w0 at *
  cases off with
  | true =>
    have HR := aA (show r = true ↔ (tc = 0 ∧ rc = 0 ∧ 1 ≤ rs ∧ rs ≤ 128) by rw [hr]; simp)
    clear hr
    go_enter Tryz.func84, Tryz.ntmps84
    go_upto_region 1 with fail
    clear hw0
    go_wp2_with fail
    all_goals go_ret
    all_goals refine ⟨aV ?_, Q0.out⟩
    all_goals (first | exact cA HR.out (by omega) | exact bI HR.out (by omega) | exact dV HR.out (by omega))
  | false =>
    have HR := aA (show r = true ↔ (0 ≤ tc ∧ tc ≤ 255 ∧ 0 ≤ rc ∧ rc ≤ 255 ∧ rs = 0) by rw [hr]; simp)
    clear hr
    go_enter Tryz.func84, Tryz.ntmps84
    go_upto_region 1 with fail
    clear hw0
    go_wp2_with fail
    all_goals go_ret
    all_goals refine ⟨aV ?_, Q0.out⟩
    all_goals (first | exact cA HR.out (by omega) | exact bI HR.out (by omega) | exact dV HR.out (by omega))
set_option maxRecDepth 100000 in
set_option maxHeartbeats 4000000 in
theorem ctlOut_ok (c : Cl) (w : World) (h : c.Out) : Calls Tryz.prog 87 #[.agg c.cs.toArray] w fun e w' => e = .returned (.bool true) ∧ Below w.heap.size w w' := by
  obtain ⟨w0, hw0⟩ : ∃ w0, w0 = w.alloc (.cells c.cs.toArray 39) := ⟨_, rfl⟩
  have B0 := aA (World.alloc_heap_new w (.cells c.cs.toArray 39))
  have Q0 : Hid (Below w.heap.size w w0) := by rw [hw0]; exact aA ((Below.refl _ _).alloc (Nat.le_refl _) _)
  rw [← hw0] at B0
  obtain ⟨_, _, _, d0, d1, d2, d3, d4, d5, d6, d7, d8⟩ := jE B0.out
  obtain ⟨h0, h1, h2, h3, h4, h5, h6, h7, h8⟩ := h
  rw [h0] at d0
  rw [h1] at d1
  rw [h2] at d2
  rw [h3] at d3
  rw [h4] at d4
  rw [h5] at d5
  rw [h6] at d6
  rw [h7] at d7
  rw [h8] at d8
  clear h0 h1 h2 h3 h4 h5 h6 h7 h8 B0
  go_enter Tryz.func87, Tryz.ntmps87
  go_upto_region 1 with fail
  change Code.wp _ _ _ _ (w.alloc (.cells c.cs.toArray 39))
  rw [← hw0]
  clear hw0
  go_wp2_with fail
  go_ret
  exact ⟨rfl, Q0.out⟩
theorem right_id {f : Fr} (h : FP.rightB f = true) : f.id < 4294967296 := by
  unfold FP.rightB at h
  simp only [Bool.and_eq_true, decide_eq_true_eq] at h
  have := h.1.1.1
  split at this <;> omega
end Go.Proofs.YtkmddjbialpppaaGreatDoor
