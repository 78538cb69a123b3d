/- canif.call with any closure that may write the box that it is given, and some below; canif.New. -/
import Derived.Test.YtkfedgjepiljiaaDoorMgRes
import Derived.Test.YtkfedgjepiljiaaDoorMgBcH
namespace Go.Proofs.YtkfedgjepiljiaaDoor
open Go.ChangeShapes Go.WideShapes Go.ChangeAt Go.RowKit
open FP (Fr)

/-- All blocks stand but some. -/
structure Kp (S : Nat → Prop) (W W' : World) : Prop where
  os : W'.os = W.os
  tape : W'.tape = W.tape
  output : W'.output = W.output
  size : W.heap.size ≤ W'.heap.size
  block : ∀ k, k < W.heap.size → ¬ S k → W'.heap[k]? = W.heap[k]?
section
variable {S : Nat → Prop} {W W1 W2 : World}
theorem Kp.refl : Kp S W W := ⟨rfl, rfl, rfl, Nat.le_refl _, fun _ _ _ => rfl⟩
theorem Kp.trans (h : Kp S W W1) (k : Kp S W1 W2) : Kp S W W2 :=
  ⟨k.os.trans h.os, k.tape.trans h.tape, k.output.trans h.output, Nat.le_trans h.size k.size, fun i hi hs => (k.block i (Nat.lt_of_lt_of_le hi h.size) hs).trans (h.block i hi hs)⟩
theorem Kp.mono {S' : Nat → Prop} (h : Kp S W W1) (hS : ∀ k, k < W.heap.size → S k → S' k) : Kp S' W W1 := ⟨h.os, h.tape, h.output, h.size, fun k hk hs => h.block k hk fun h' => hs (hS k hk h')⟩
theorem Kp.below {B : Nat} (h : Kp S W W1) (hS : ∀ k, S k → B ≤ k) (hB : B ≤ W.heap.size) : Below B W W1 :=
  ⟨h.os, h.tape, h.output, h.size, fun k hk => h.block k (Nat.lt_of_lt_of_le hk hB) fun hs => by have := hS k hs; omega⟩
theorem Kp.of (q : Below W.heap.size W W1) : Kp S W W1 := ⟨q.os, q.tape, q.output, q.size, fun k hk _ => q.block k hk⟩
theorem Kp.set (W : World) (b o : Nat) (vs : List Value) (hb : S b) : Kp S W (W.setCells b o vs) := by
  have h := below_setCells (B := b) vs o W (Nat.le_refl _)
  refine ⟨h.os, h.tape, h.output, h.size, fun k hk hs => ?_⟩
  have hne : k ≠ b := fun e => hs (e ▸ hb)
  obtain ⟨x, hx⟩ : ∃ x, W.heap[k]? = some x := ⟨W.heap[k], Array.getElem?_eq_getElem hk⟩
  rw [hx]
  exact other_heap hne vs o W hx
theorem Kp.heap {x : Nat} {o : Obj} (h : Kp S W W1) (hx : W.heap[x]? = some o) (hn : ¬ S x) : W1.heap[x]? = some o := (h.block x (heap_lt hx) hn).trans hx
/-- A row lies in none of some blocks. -/
def OffS (S : Nat → Prop) (A : Option Addr) (n : Nat) : Prop := n = 0 ∨ ∀ g off, A = some ⟨g, off, none⟩ → ¬ S g
theorem Kp.rd {A : Option Addr} {sz : Nat} {R : List (List Value)} (h : Kp S W W1) (hr : Rd W W.heap.size A sz R) (hn : OffS S A R.length) : Rd W1 W1.heap.size A sz R := by
  rcases hn with hn | hn
  · intro h0; omega
  · intro h0
    obtain ⟨b, off, e, hb, hc⟩ := hr h0
    refine ⟨b, off, e, by have := h.size; omega, fun k row j v a c => ?_⟩
    have := hc k row j v a c
    rw [← this]
    exact World.cell?_of_block (h.block b hb (hn b off e))
end
theorem fi_free {W : World} {B : Nat} {x : Fi} {t : TypeId} (h : W.heap[B]? = some (.cells x.cs.toArray t (0, 0))) (j : Nat) : W.frozen? ⟨B, j, none⟩ = false := by simp [World.frozen?, h]
def zFi : Fi := ⟨none, [], 0, 0, 0, 0, false, 0, 0⟩
/-- What is known but for where the rows lie. -/
structure Fi.Okp (x : Fi) : Prop where
  cl : x.m.length ≤ x.c
  id : ∀ b ∈ x.m, b.f.id < 4294967296
  rt : rightBx x.m x.seq x.cap = true
  hs : -1 ≤ x.has ∧ x.has ≤ 1000000
  st : 0 ≤ x.sent ∧ x.sent ≤ 1099511627776
  lt : 0 ≤ x.lost ∧ x.lost ≤ 1099511627776
  off : x.on = false → x.has = -1 ∧ x.m = []
theorem Fi.Okp.at_ {x : Fi} {w : World} (p : x.Okp) (r : BxR w w.heap.size x.A x.m) : x.Ok w := ⟨r, p.cl, p.id, p.rt, p.hs, p.st, p.lt, p.off⟩
theorem Fi.Ok.p {x : Fi} {w : World} (h : x.Ok w) : x.Okp := ⟨h.cl, h.id, h.rt, h.hs, h.st, h.lt, h.off⟩

set_option maxRecDepth 100000 in
set_option maxHeartbeats 8000000 in
theorem cnCall1_ok (x : Fi) (w : World) (ho : x.Ok w) (fid p0 : Nat) (hp : ∀ (args : Array Value) (W : World), (callFunc fid args).run Tryd.prog W = .ok (.enter fid args) W) (S : Nat → Prop) (hS : ∀ k, S k → k < w.heap.size) (P : Fi → World → Prop)
    (hst : ∀ y W vs, P y W → P y (W.setCells (w.heap.size + 1) 0 vs))
    (hdo : Hid (∀ W, W.heap[w.heap.size]? = some (.cells x.cs.toArray 31 (0, 0)) → Below w.heap.size w W → w.heap.size + 1 < W.heap.size → Calls Tryd.prog fid #[.pointer (some ⟨w.heap.size, 0, none⟩), .pointer (some ⟨p0, 0, none⟩)] W fun e W' => ∃ y, e = .returned (.int .i64 0) ∧ W'.heap[w.heap.size]? = some (.cells y.cs.toArray 31 (0, 0)) ∧ P y W' ∧ Kp (fun k => k = w.heap.size ∨ S k) W W')) :
    Calls Tryd.prog 16 #[.agg x.cs.toArray, .func (.func fid) #[] #[.pointer (some ⟨p0, 0, none⟩)]] w fun e w' => ∃ y, e = .returned (.tuple #[.agg y.cs.toArray, .int .i64 0]) ∧ P y w' ∧ Kp S w w' := by
  obtain ⟨w0, hw0⟩ : ∃ w0, w0 = (w.alloc (.cells x.cs.toArray 31)).alloc (.cells zFi.cs.toArray 31) := ⟨_, rfl⟩
  have B := hide (heap_below (World.alloc_heap_new w (.cells x.cs.toArray 31)) ((Below.refl _ (w.alloc (.cells x.cs.toArray 31))).alloc (Nat.le_refl _) (.cells zFi.cs.toArray 31)))
  have R := hide (World.alloc_heap_new (w.alloc (.cells x.cs.toArray 31)) (.cells zFi.cs.toArray 31))
  have Q : Hid (Below w.heap.size w w0) := by rw [hw0]; exact hide (((Below.refl w.heap.size w).alloc (Nat.le_refl _) (.cells x.cs.toArray 31)).alloc (by simp; try omega) (.cells zFi.cs.toArray 31))
  rw [← hw0] at B R
  simp only [World.size_alloc] at R
  have RT := hide (cnRight_ok x w0 (ho.next Q.out))
  have HST := hide hst
  clear ho hst
  go_enter Tryd.func16, Tryd.ntmps16
  go_upto_region 1 with fail
  change Code.wp _ _ _ _ ((w.alloc (.cells x.cs.toArray 31)).alloc (.cells zFi.cs.toArray 31))
  rw [← hw0]
  clear hw0
  go_wp2_with (refine wpList_load_row rfl 31 (.tmp 2) (by rfl) w.heap.size (by rfl) 31 x.cs.toArray (0, 0) _ (by exact B.out) Tryd.underlying31 (by rfl) (by kernel_rfl) ?_)
  (with_reducible refine (RT.out).mono ?_)
  rintro ew1' w1' ⟨rfl, qw1'⟩
  replace B := hide (heap_below B.out qw1')
  replace R := hide (heap_below R.out qw1')
  replace Q := hide (below_next Q.out Q.out.size qw1')
  clear qw1'
  clear RT
  have zR := heap_lt R.out
  go_wp2_with fail
  (with_reducible refine (hdo.out w1' B.out Q.out zR).mono ?_)
  rintro e9 w9 ⟨y, rfl, b9, p9, k9⟩
  replace R := hide (k9.heap R.out (fun h => by rcases h with h | h; omega; have := hS _ h; omega))
  replace B := hide b9
  have K := hide (show w9.os = w.os ∧ w9.tape = w.tape ∧ w9.output = w.output ∧ w.heap.size + 1 < w9.heap.size ∧ ∀ k, k < w.heap.size → ¬ S k → w9.heap[k]? = w.heap[k]? from ⟨k9.os.trans Q.out.os, k9.tape.trans Q.out.tape, k9.output.trans Q.out.output, Nat.lt_of_lt_of_le zR k9.size, fun k hk hs => (k9.block k (by omega) (fun h => by rcases h with h | h; omega; exact hs h)).trans (Q.out.block k hk)⟩)
  have PP := hide p9
  clear k9 p9 Q zR hdo hp
  have TR := hide (show w9.there (w.heap.size + 1) 0 7 from there_heap (cs := zFi.cs) R.out)
  go_wp2_with (first | (refine wpList_load_row rfl 31 (.tmp 2) (by rfl) w.heap.size (by rfl) 31 y.cs.toArray (0, 0) _ (by exact B.out) Tryd.underlying31 (by rfl) (by kernel_rfl) ?_) | (refine wpList_store_hid (by rfl) 31 (.tmp 4) (.tmp 17) (by rfl) (w.heap.size + 1) 0 y.cs (by rfl) (by rfl) (by exact TR.out) (by kernel_rfl) (by simp [Value.oneCell', Fi.cs]) ?_))
  intro w6 e6
  have R6 := hide (show w6.heap[w.heap.size + 1]? = some (.cells y.cs.toArray 31 (0, 0)) by rw [e6.out]; exact whole_heap y.cs (xs := zFi.cs) R.out rfl)
  have P6 := hide (show P y w6 by rw [e6.out]; exact HST.out y w9 _ PP.out)
  have K6 := hide (show Kp S w w6 by
    rw [e6.out]
    obtain ⟨a, b, c, d, e⟩ := K.out
    have h := below_setCells (B := w.heap.size + 1) (y.cs) 0 w9 (Nat.le_refl (w.heap.size + 1))
    exact ⟨h.os.trans a, h.tape.trans b, h.output.trans c, Nat.le_trans (by omega) h.size, fun k hk hs => (h.block k (by omega)).trans (e k hk hs)⟩)
  clear e6 TR R B PP K HST
  go_wp2_with fail
  refine bodyPost_ret (results_cell_tmp (by rfl) _ w6 (w.heap.size + 1) 31 y.cs.toArray (0, 0) _ (.int .i64 0) (by rfl) (by rfl) R6.out Tryd.underlying31 (by rfl) (by kernel_rfl)) rfl ⟨y, rfl, P6.out, K6.out⟩

set_option maxRecDepth 100000 in
set_option maxHeartbeats 8000000 in
theorem cnCall1_no (x : Fi) (w : World) (ho : x.Ok w) (fid p0 : Nat) (hp : ∀ (args : Array Value) (W : World), (callFunc fid args).run Tryd.prog W = .ok (.enter fid args) W) (S : Nat → Prop) (hS : ∀ k, S k → k < w.heap.size) (P : Fi → World → Prop) (E : Int) (hE : E ≠ 0)
    (hst : ∀ y W vs, P y W → P y (W.setCells (w.heap.size + 1) 0 vs))
    (hdo : Hid (∀ W, W.heap[w.heap.size]? = some (.cells x.cs.toArray 31 (0, 0)) → Below w.heap.size w W → w.heap.size + 1 < W.heap.size → Calls Tryd.prog fid #[.pointer (some ⟨w.heap.size, 0, none⟩), .pointer (some ⟨p0, 0, none⟩)] W fun e W' => ∃ y, e = .returned (.int .i64 E) ∧ P y W' ∧ Kp (fun k => k = w.heap.size ∨ S k) W W')) :
    Calls Tryd.prog 16 #[.agg x.cs.toArray, .func (.func fid) #[] #[.pointer (some ⟨p0, 0, none⟩)]] w fun e w' => ∃ y, e = .returned (.tuple #[.agg zFi.cs.toArray, .int .i64 E]) ∧ P y w' ∧ Kp S w w' := by
  obtain ⟨w0, hw0⟩ : ∃ w0, w0 = (w.alloc (.cells x.cs.toArray 31)).alloc (.cells zFi.cs.toArray 31) := ⟨_, rfl⟩
  have B := hide (heap_below (World.alloc_heap_new w (.cells x.cs.toArray 31)) ((Below.refl _ (w.alloc (.cells x.cs.toArray 31))).alloc (Nat.le_refl _) (.cells zFi.cs.toArray 31)))
  have R := hide (World.alloc_heap_new (w.alloc (.cells x.cs.toArray 31)) (.cells zFi.cs.toArray 31))
  have Q : Hid (Below w.heap.size w w0) := by rw [hw0]; exact hide (((Below.refl w.heap.size w).alloc (Nat.le_refl _) (.cells x.cs.toArray 31)).alloc (by simp; try omega) (.cells zFi.cs.toArray 31))
  rw [← hw0] at B R
  simp only [World.size_alloc] at R
  have RT := hide (cnRight_ok x w0 (ho.next Q.out))
  have HST := hide hst
  clear ho hst
  go_enter Tryd.func16, Tryd.ntmps16
  go_upto_region 1 with fail
  change Code.wp _ _ _ _ ((w.alloc (.cells x.cs.toArray 31)).alloc (.cells zFi.cs.toArray 31))
  rw [← hw0]
  clear hw0
  go_wp2_with (refine wpList_load_row rfl 31 (.tmp 2) (by rfl) w.heap.size (by rfl) 31 x.cs.toArray (0, 0) _ (by exact B.out) Tryd.underlying31 (by rfl) (by kernel_rfl) ?_)
  (with_reducible refine (RT.out).mono ?_)
  rintro ew1' w1' ⟨rfl, qw1'⟩
  replace B := hide (heap_below B.out qw1')
  replace R := hide (heap_below R.out qw1')
  replace Q := hide (below_next Q.out Q.out.size qw1')
  clear qw1'
  clear RT
  have zR := heap_lt R.out
  go_wp2_with fail
  (with_reducible refine (hdo.out w1' B.out Q.out zR).mono ?_)
  rintro e9 w9 ⟨y, rfl, p9, k9⟩
  replace R := hide (k9.heap R.out (fun h => by rcases h with h | h; omega; have := hS _ h; omega))
  clear B
  have K := hide (show w9.os = w.os ∧ w9.tape = w.tape ∧ w9.output = w.output ∧ w.heap.size + 1 < w9.heap.size ∧ ∀ k, k < w.heap.size → ¬ S k → w9.heap[k]? = w.heap[k]? from ⟨k9.os.trans Q.out.os, k9.tape.trans Q.out.tape, k9.output.trans Q.out.output, Nat.lt_of_lt_of_le zR k9.size, fun k hk hs => (k9.block k (by omega) (fun h => by rcases h with h | h; omega; exact hs h)).trans (Q.out.block k hk)⟩)
  have PP := hide p9
  clear k9 p9 Q zR hdo hp
  have TR := hide (show w9.there (w.heap.size + 1) 0 7 from there_heap (cs := zFi.cs) R.out)
  have hE2 : (E != 0) = true := by simpa using hE
  have HE := hide hE
  clear hE
  go_wp2_with (refine wpList_store_hid (by rfl) 31 (.tmp 4) (.tmp 15) (by rfl) (w.heap.size + 1) 0 zFi.cs (by rfl) (by rfl) (by exact TR.out) (by kernel_rfl) (by simp [Value.oneCell', Fi.cs]) ?_)
  intro w6 e6
  have R6 := hide (show w6.heap[w.heap.size + 1]? = some (.cells zFi.cs.toArray 31 (0, 0)) by rw [e6.out]; exact whole_heap zFi.cs (xs := zFi.cs) R.out rfl)
  have P6 := hide (show P y w6 by rw [e6.out]; exact HST.out y w9 _ PP.out)
  have K6 := hide (show Kp S w w6 by
    rw [e6.out]
    obtain ⟨a, b, c, d, e⟩ := K.out
    have h := below_setCells (B := w.heap.size + 1) (zFi.cs) 0 w9 (Nat.le_refl (w.heap.size + 1))
    exact ⟨h.os.trans a, h.tape.trans b, h.output.trans c, Nat.le_trans (by omega) h.size, fun k hk hs => (h.block k (by omega)).trans (e k hk hs)⟩)
  clear e6 TR R PP K HST
  go_wp2_with fail
  refine bodyPost_ret (results_cell_tmp (by rfl) _ w6 (w.heap.size + 1) 31 zFi.cs.toArray (0, 0) _ (.int .i64 E) (by rfl) (by rfl) R6.out Tryd.underlying31 (by rfl) (by kernel_rfl)) rfl ⟨y, rfl, P6.out, K6.out⟩

set_option maxRecDepth 100000 in
set_option maxHeartbeats 8000000 in
theorem cnCall2_ok (x : Fi) (w : World) (ho : x.Ok w) (fid p0 p1 : Nat) (hp : ∀ (args : Array Value) (W : World), (callFunc fid args).run Tryd.prog W = .ok (.enter fid args) W) (S : Nat → Prop) (hS : ∀ k, S k → k < w.heap.size) (P : Fi → World → Prop)
    (hst : ∀ y W vs, P y W → P y (W.setCells (w.heap.size + 1) 0 vs))
    (hdo : Hid (∀ W, W.heap[w.heap.size]? = some (.cells x.cs.toArray 31 (0, 0)) → Below w.heap.size w W → w.heap.size + 1 < W.heap.size → Calls Tryd.prog fid #[.pointer (some ⟨w.heap.size, 0, none⟩), .pointer (some ⟨p0, 0, none⟩), .pointer (some ⟨p1, 0, none⟩)] W fun e W' => ∃ y, e = .returned (.int .i64 0) ∧ W'.heap[w.heap.size]? = some (.cells y.cs.toArray 31 (0, 0)) ∧ P y W' ∧ Kp (fun k => k = w.heap.size ∨ S k) W W')) :
    Calls Tryd.prog 16 #[.agg x.cs.toArray, .func (.func fid) #[] #[.pointer (some ⟨p0, 0, none⟩), .pointer (some ⟨p1, 0, none⟩)]] w fun e w' => ∃ y, e = .returned (.tuple #[.agg y.cs.toArray, .int .i64 0]) ∧ P y w' ∧ Kp S w w' := by
  obtain ⟨w0, hw0⟩ : ∃ w0, w0 = (w.alloc (.cells x.cs.toArray 31)).alloc (.cells zFi.cs.toArray 31) := ⟨_, rfl⟩
  have B := hide (heap_below (World.alloc_heap_new w (.cells x.cs.toArray 31)) ((Below.refl _ (w.alloc (.cells x.cs.toArray 31))).alloc (Nat.le_refl _) (.cells zFi.cs.toArray 31)))
  have R := hide (World.alloc_heap_new (w.alloc (.cells x.cs.toArray 31)) (.cells zFi.cs.toArray 31))
  have Q : Hid (Below w.heap.size w w0) := by rw [hw0]; exact hide (((Below.refl w.heap.size w).alloc (Nat.le_refl _) (.cells x.cs.toArray 31)).alloc (by simp; try omega) (.cells zFi.cs.toArray 31))
  rw [← hw0] at B R
  simp only [World.size_alloc] at R
  have RT := hide (cnRight_ok x w0 (ho.next Q.out))
  have HST := hide hst
  clear ho hst
  go_enter Tryd.func16, Tryd.ntmps16
  go_upto_region 1 with fail
  change Code.wp _ _ _ _ ((w.alloc (.cells x.cs.toArray 31)).alloc (.cells zFi.cs.toArray 31))
  rw [← hw0]
  clear hw0
  go_wp2_with (refine wpList_load_row rfl 31 (.tmp 2) (by rfl) w.heap.size (by rfl) 31 x.cs.toArray (0, 0) _ (by exact B.out) Tryd.underlying31 (by rfl) (by kernel_rfl) ?_)
  (with_reducible refine (RT.out).mono ?_)
  rintro ew1' w1' ⟨rfl, qw1'⟩
  replace B := hide (heap_below B.out qw1')
  replace R := hide (heap_below R.out qw1')
  replace Q := hide (below_next Q.out Q.out.size qw1')
  clear qw1'
  clear RT
  have zR := heap_lt R.out
  go_wp2_with fail
  (with_reducible refine (hdo.out w1' B.out Q.out zR).mono ?_)
  rintro e9 w9 ⟨y, rfl, b9, p9, k9⟩
  replace R := hide (k9.heap R.out (fun h => by rcases h with h | h; omega; have := hS _ h; omega))
  replace B := hide b9
  have K := hide (show w9.os = w.os ∧ w9.tape = w.tape ∧ w9.output = w.output ∧ w.heap.size + 1 < w9.heap.size ∧ ∀ k, k < w.heap.size → ¬ S k → w9.heap[k]? = w.heap[k]? from ⟨k9.os.trans Q.out.os, k9.tape.trans Q.out.tape, k9.output.trans Q.out.output, Nat.lt_of_lt_of_le zR k9.size, fun k hk hs => (k9.block k (by omega) (fun h => by rcases h with h | h; omega; exact hs h)).trans (Q.out.block k hk)⟩)
  have PP := hide p9
  clear k9 p9 Q zR hdo hp
  have TR := hide (show w9.there (w.heap.size + 1) 0 7 from there_heap (cs := zFi.cs) R.out)
  go_wp2_with (first | (refine wpList_load_row rfl 31 (.tmp 2) (by rfl) w.heap.size (by rfl) 31 y.cs.toArray (0, 0) _ (by exact B.out) Tryd.underlying31 (by rfl) (by kernel_rfl) ?_) | (refine wpList_store_hid (by rfl) 31 (.tmp 4) (.tmp 17) (by rfl) (w.heap.size + 1) 0 y.cs (by rfl) (by rfl) (by exact TR.out) (by kernel_rfl) (by simp [Value.oneCell', Fi.cs]) ?_))
  intro w6 e6
  have R6 := hide (show w6.heap[w.heap.size + 1]? = some (.cells y.cs.toArray 31 (0, 0)) by rw [e6.out]; exact whole_heap y.cs (xs := zFi.cs) R.out rfl)
  have P6 := hide (show P y w6 by rw [e6.out]; exact HST.out y w9 _ PP.out)
  have K6 := hide (show Kp S w w6 by
    rw [e6.out]
    obtain ⟨a, b, c, d, e⟩ := K.out
    have h := below_setCells (B := w.heap.size + 1) (y.cs) 0 w9 (Nat.le_refl (w.heap.size + 1))
    exact ⟨h.os.trans a, h.tape.trans b, h.output.trans c, Nat.le_trans (by omega) h.size, fun k hk hs => (h.block k (by omega)).trans (e k hk hs)⟩)
  clear e6 TR R B PP K HST
  go_wp2_with fail
  refine bodyPost_ret (results_cell_tmp (by rfl) _ w6 (w.heap.size + 1) 31 y.cs.toArray (0, 0) _ (.int .i64 0) (by rfl) (by rfl) R6.out Tryd.underlying31 (by rfl) (by kernel_rfl)) rfl ⟨y, rfl, P6.out, K6.out⟩

set_option maxRecDepth 100000 in
set_option maxHeartbeats 8000000 in
theorem cnCall2_no (x : Fi) (w : World) (ho : x.Ok w) (fid p0 p1 : Nat) (hp : ∀ (args : Array Value) (W : World), (callFunc fid args).run Tryd.prog W = .ok (.enter fid args) W) (S : Nat → Prop) (hS : ∀ k, S k → k < w.heap.size) (P : Fi → World → Prop) (E : Int) (hE : E ≠ 0)
    (hst : ∀ y W vs, P y W → P y (W.setCells (w.heap.size + 1) 0 vs))
    (hdo : Hid (∀ W, W.heap[w.heap.size]? = some (.cells x.cs.toArray 31 (0, 0)) → Below w.heap.size w W → w.heap.size + 1 < W.heap.size → Calls Tryd.prog fid #[.pointer (some ⟨w.heap.size, 0, none⟩), .pointer (some ⟨p0, 0, none⟩), .pointer (some ⟨p1, 0, none⟩)] W fun e W' => ∃ y, e = .returned (.int .i64 E) ∧ P y W' ∧ Kp (fun k => k = w.heap.size ∨ S k) W W')) :
    Calls Tryd.prog 16 #[.agg x.cs.toArray, .func (.func fid) #[] #[.pointer (some ⟨p0, 0, none⟩), .pointer (some ⟨p1, 0, none⟩)]] w fun e w' => ∃ y, e = .returned (.tuple #[.agg zFi.cs.toArray, .int .i64 E]) ∧ P y w' ∧ Kp S w w' := by
  obtain ⟨w0, hw0⟩ : ∃ w0, w0 = (w.alloc (.cells x.cs.toArray 31)).alloc (.cells zFi.cs.toArray 31) := ⟨_, rfl⟩
  have B := hide (heap_below (World.alloc_heap_new w (.cells x.cs.toArray 31)) ((Below.refl _ (w.alloc (.cells x.cs.toArray 31))).alloc (Nat.le_refl _) (.cells zFi.cs.toArray 31)))
  have R := hide (World.alloc_heap_new (w.alloc (.cells x.cs.toArray 31)) (.cells zFi.cs.toArray 31))
  have Q : Hid (Below w.heap.size w w0) := by rw [hw0]; exact hide (((Below.refl w.heap.size w).alloc (Nat.le_refl _) (.cells x.cs.toArray 31)).alloc (by simp; try omega) (.cells zFi.cs.toArray 31))
  rw [← hw0] at B R
  simp only [World.size_alloc] at R
  have RT := hide (cnRight_ok x w0 (ho.next Q.out))
  have HST := hide hst
  clear ho hst
  go_enter Tryd.func16, Tryd.ntmps16
  go_upto_region 1 with fail
  change Code.wp _ _ _ _ ((w.alloc (.cells x.cs.toArray 31)).alloc (.cells zFi.cs.toArray 31))
  rw [← hw0]
  clear hw0
  go_wp2_with (refine wpList_load_row rfl 31 (.tmp 2) (by rfl) w.heap.size (by rfl) 31 x.cs.toArray (0, 0) _ (by exact B.out) Tryd.underlying31 (by rfl) (by kernel_rfl) ?_)
  (with_reducible refine (RT.out).mono ?_)
  rintro ew1' w1' ⟨rfl, qw1'⟩
  replace B := hide (heap_below B.out qw1')
  replace R := hide (heap_below R.out qw1')
  replace Q := hide (below_next Q.out Q.out.size qw1')
  clear qw1'
  clear RT
  have zR := heap_lt R.out
  go_wp2_with fail
  (with_reducible refine (hdo.out w1' B.out Q.out zR).mono ?_)
  rintro e9 w9 ⟨y, rfl, p9, k9⟩
  replace R := hide (k9.heap R.out (fun h => by rcases h with h | h; omega; have := hS _ h; omega))
  clear B
  have K := hide (show w9.os = w.os ∧ w9.tape = w.tape ∧ w9.output = w.output ∧ w.heap.size + 1 < w9.heap.size ∧ ∀ k, k < w.heap.size → ¬ S k → w9.heap[k]? = w.heap[k]? from ⟨k9.os.trans Q.out.os, k9.tape.trans Q.out.tape, k9.output.trans Q.out.output, Nat.lt_of_lt_of_le zR k9.size, fun k hk hs => (k9.block k (by omega) (fun h => by rcases h with h | h; omega; exact hs h)).trans (Q.out.block k hk)⟩)
  have PP := hide p9
  clear k9 p9 Q zR hdo hp
  have TR := hide (show w9.there (w.heap.size + 1) 0 7 from there_heap (cs := zFi.cs) R.out)
  have hE2 : (E != 0) = true := by simpa using hE
  have HE := hide hE
  clear hE
  go_wp2_with (refine wpList_store_hid (by rfl) 31 (.tmp 4) (.tmp 15) (by rfl) (w.heap.size + 1) 0 zFi.cs (by rfl) (by rfl) (by exact TR.out) (by kernel_rfl) (by simp [Value.oneCell', Fi.cs]) ?_)
  intro w6 e6
  have R6 := hide (show w6.heap[w.heap.size + 1]? = some (.cells zFi.cs.toArray 31 (0, 0)) by rw [e6.out]; exact whole_heap zFi.cs (xs := zFi.cs) R.out rfl)
  have P6 := hide (show P y w6 by rw [e6.out]; exact HST.out y w9 _ PP.out)
  have K6 := hide (show Kp S w w6 by
    rw [e6.out]
    obtain ⟨a, b, c, d, e⟩ := K.out
    have h := below_setCells (B := w.heap.size + 1) (zFi.cs) 0 w9 (Nat.le_refl (w.heap.size + 1))
    exact ⟨h.os.trans a, h.tape.trans b, h.output.trans c, Nat.le_trans (by omega) h.size, fun k hk hs => (h.block k (by omega)).trans (e k hk hs)⟩)
  clear e6 TR R PP K HST
  go_wp2_with fail
  refine bodyPost_ret (results_cell_tmp (by rfl) _ w6 (w.heap.size + 1) 31 zFi.cs.toArray (0, 0) _ (.int .i64 E) (by rfl) (by rfl) R6.out Tryd.underlying31 (by rfl) (by kernel_rfl)) rfl ⟨y, rfl, P6.out, K6.out⟩

def newFi (n : Int) : Fi := ⟨none, [], 0, 0, n, -1, false, 0, 0⟩
set_option maxRecDepth 100000 in
set_option maxHeartbeats 8000000 in
theorem cnNew_ok (n : Int) (h1 : 1 ≤ n) (h8 : n ≤ 8) (w : World) : Calls Tryd.prog 7 #[.int .i64 n] w fun e w' => e = .returned (.tuple #[.agg (newFi n).cs.toArray, .int .i64 0]) ∧ Below w.heap.size w w' := by
  have NB := hide (fun W => show Calls Tryd.prog 15 #[.int .i64 n] W fun e w' => e = .returned (.tuple #[.agg #[.slice none 0 0, .int .i64 0, .int .i64 n], .int .i64 0]) ∧ Below W.heap.size W w' from by
    have := bxNew_any n W
    rwa [if_pos (⟨h1, h8⟩ : 1 ≤ n ∧ n ≤ 8)] at this)
  have R := hide (World.alloc_heap_new w (.cells zFi.cs.toArray 31))
  have Q := hide ((Below.refl w.heap.size w).alloc (Nat.le_refl _) (.cells zFi.cs.toArray 31))
  go_enter Tryd.func7, Tryd.ntmps7
  go_wp2_with fail
  (with_reducible refine (NB.out _).mono ?_)
  rintro ew1' w1' ⟨rfl, qw1'⟩
  replace R := hide (heap_below R.out qw1')
  replace Q := hide (below_next Q.out Q.out.size qw1')
  clear qw1'
  clear NB
  have B := World.alloc_heap_new w1' (.cells ([.slice none 0 0, .int .i64 0, .int .i64 0]).toArray 29)
  have zRy : w.heap.size < w1'.heap.size := heap_lt R.out
  have zQy : w.heap.size ≤ w1'.heap.size := Q.out.size
  obtain ⟨w3', hw3'⟩ : ∃ wx, wx = w1'.alloc (.cells ([.slice none 0 0, .int .i64 0, .int .i64 0]).toArray 29) := ⟨_, rfl⟩
  have q2' := hide (show Below w1'.heap.size w1' w3' by rw [hw3']; exact (Below.refl _ _).alloc (Nat.le_refl _) _)
  rw [← hw3'] at B
  replace B := hide B
  have Tw4' := hide (show (w1'.alloc (.cells ([.slice none 0 0, .int .i64 0, .int .i64 0]).toArray 29)).there w1'.heap.size 0 3 by rw [← hw3']; exact there_heap (cs := [.slice none 0 0, .int .i64 0, .int .i64 0]) B.out)
  go_wp2_with (refine wpList_store_hid (by rfl) 29 (.tmp 4) (.tmp 9) (by rfl) w1'.heap.size 0 ([.slice none 0 0, .int .i64 0, .int .i64 n]) (by rfl) (by rfl) (by exact Tw4'.out) (by kernel_rfl) (by simp [Value.oneCell', ]) ?_)
  intro w4' ew4'
  replace ew4' : Hid (w4' = w3'.setCells w1'.heap.size 0 ([.slice none 0 0, .int .i64 0, .int .i64 n])) := by rw [hw3']; exact ew4'
  replace B := hide (show w4'.heap[w1'.heap.size]? = some (.cells ([.slice none 0 0, .int .i64 0, .int .i64 n]).toArray 29 (0, 0)) by rw [ew4'.out]; exact whole_heap ([.slice none 0 0, .int .i64 0, .int .i64 n]) (xs := [.slice none 0 0, .int .i64 0, .int .i64 0]) B.out rfl)
  replace q2' := hide (show Below w1'.heap.size w1' w4' by rw [ew4'.out]; exact q2'.out.trans (below_setCells _ _ _ (by omega)))
  clear ew4' Tw4' hw3'
  replace R := hide (heap_below R.out q2'.out)
  replace Q := hide (below_next Q.out Q.out.size q2'.out)
  clear q2'
  generalize w1'.heap.size = y at *
  have TR := hide (show World.there _ w.heap.size 0 7 from there_heap (cs := zFi.cs) R.out)
  go_wp2_with (first | (refine wpList_load_row rfl 29 (.tmp 4) (by rfl) y (by rfl) 29 #[.slice none 0 0, .int .i64 0, .int .i64 n] (0, 0) _ (by exact B.out) Tryd.underlying29 (by rfl) (by kernel_rfl) ?_) | (refine wpList_store_hid (by rfl) 31 (.tmp 2) (.tmp 16) (by rfl) w.heap.size 0 (newFi n).cs (by rfl) (by rfl) (by exact TR.out) (by kernel_rfl) (by simp [Value.oneCell', Fi.cs, newFi]) ?_))
  intro w6 e6
  have R6 := hide (show w6.heap[w.heap.size]? = some (.cells (newFi n).cs.toArray 31 (0, 0)) by rw [e6.out]; exact whole_heap (newFi n).cs (xs := zFi.cs) R.out rfl)
  have Q6 := hide (show Below w.heap.size w w6 by rw [e6.out]; exact Q.out.trans (below_setCells _ _ _ (Nat.le_refl _)))
  clear e6 TR R B Q
  go_wp2_with fail
  refine bodyPost_ret (results_cell_tmp (by rfl) _ w6 w.heap.size 31 (newFi n).cs.toArray (0, 0) _ (.int .i64 0) (by rfl) (by rfl) R6.out Tryd.underlying31 (by rfl) (by kernel_rfl)) rfl ⟨rfl, Q6.out⟩
end Go.Proofs.YtkfedgjepiljiaaDoor
