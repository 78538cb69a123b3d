import Derived.Test.YtkmddjbialpppaaGreatDoorCsC
import Derived.Deep.CutBlock
import Derived.Test.YtkmddjbialpppaaGreatDoorMgBxC
import Derived.Test.YtkmddjbialpppaaGreatDoorMgFbR
import Derived.Test.YtkmddjbialpppaaGreatDoorMgGd
import Derived.Test.YtkmddjbialpppaaGreatDoorMgFlB
import Derived.Test.YtkmddjbialpppaaGreatDoorMgCoG
import Derived.Test.YtkmddjbialpppaaGreatDoorMgCoZ
import Derived.Test.YtkmddjbialpppaaGreatDoorMgPdG
import Derived.Test.YtkmddjbialpppaaGreatDoorMgCmD
import Derived.Test.YtkmddjbialpppaaGreatDoorMgSgC
import Derived.Test.YtkmddjbialpppaaGreatDoorMgFin
import Derived.Laws.BitsAllLaws
import Derived.Test.YtkmddjbialpppaaGreatDoorCmF
import Derived.Test.YtkmddjbialpppaaGreatDoorMgSnD
import Derived.Test.YtkmddjbialpppaaGreatDoorMgSnB
namespace Go.Proofs.YtkmddjbialpppaaGreatDoor
open Go.ChangeShapes Go.WideShapes Go.ChangeAt Go.RowKit
open FP (Fr)
set_option maxRecDepth 100000 in
set_option maxHeartbeats 16000000 in
theorem ctlRight_ok (c : Cl) (w : World) (h : c.Ok) : Calls Tryz.prog 44 #[.agg c.cs.toArray] w fun e w' => e = .returned (.bool true) ∧ Below w.heap.size w w' := by
  have CN := aA (fun W => (show cntB c.tc c.rc (c.st == 8) c.rs = true by rw [← h.offs]; exact h.cnt) ▸ cntRight_any c.tc c.rc (c.st == 8) c.rs W)
  have OFF := aA h.offs
  have HAS := aA h.has
  have HASN := aA h.hasn
  have INN := aA (fun (e : c.st = 2) W => ctlIn_ok c W (h.inn e) h.has)
  have OUT := aA (fun (e : c.st ≠ 2) W => ctlOut_ok c W (h.out e))
  have ST := aA (show 0 ≤ c.st ∧ c.st ≤ 8 ∧ 0 ≤ c.n ∧ c.n ≤ topN c.st ∧ (c.st = 5 → 1 ≤ c.n) from ⟨h.s0, h.s8, h.n0, h.n9, h.n5⟩)
  clear h
  obtain ⟨w0, hw0⟩ : ∃ w0, w0 = w.alloc (.cells c.cs.toArray 39) := ⟨_, rfl⟩
  have B0 := aA (World.alloc_heap_new w (.cells c.cs.toArray 39))
  have Q0 : Hid (Below w.heap.size w w0) := by rw [hw0]; exact aA ((Below.refl _ _).alloc (Nat.le_refl _) _)
  rw [← hw0] at B0
  obtain ⟨-, ⟨c4, c5, -⟩, -⟩ := jE B0.out
  go_enter Tryz.func44, Tryz.ntmps44
  go_upto_region 2 with fail
  change Code.wp _ _ _ _ (w.alloc (.cells c.cs.toArray 39))
  rw [← hw0]
  clear hw0
  go_upto_block 0 with fail
  go_cut [3, 4] from 5 (fun a b W => ∃ least top : Int, a = .int .i64 least ∧ b = .int .i64 top ∧ Hid (least ≤ c.n ∧ c.n ≤ top) ∧ W = w0)
  case first =>
    obtain ⟨s0, s8, n0, n9, n5⟩ := ST.out
    clear B0 Q0 c5 ST INN OUT CN OFF HAS HASN
    obtain ⟨s, hs⟩ : ∃ s, s = c.st := ⟨_, rfl⟩
    rw [← hs] at c4 s0 s8 n9 n5 ⊢
    clear hs
    obtain rfl | rfl | rfl | rfl | rfl | rfl | rfl | rfl | rfl : s = 0 ∨ s = 1 ∨ s = 2 ∨ s = 3 ∨ s = 4 ∨ s = 5 ∨ s = 6 ∨ s = 7 ∨ s = 8 := by omega
    · have F := aA (show (0 : Int) ≤ c.n ∧ c.n ≤ 10 from ⟨n0, n9⟩)
      clear c4 n0 n9 n5
      go_wp2_with fail
      go_meet
      exact ⟨_, _, rfl, rfl, F, rfl⟩
    · have F := aA (show (0 : Int) ≤ c.n ∧ c.n ≤ 0 from ⟨n0, n9⟩)
      clear c4 n0 n9 n5
      go_wp2_with fail
      go_meet
      exact ⟨_, _, rfl, rfl, F, rfl⟩
    · have F := aA (show (0 : Int) ≤ c.n ∧ c.n ≤ 0 from ⟨n0, n9⟩)
      clear c4 n0 n9 n5
      go_wp2_with fail
      go_meet
      exact ⟨_, _, rfl, rfl, F, rfl⟩
    · have F := aA (show (0 : Int) ≤ c.n ∧ c.n ≤ 5 from ⟨n0, n9⟩)
      clear c4 n0 n9 n5
      go_wp2_with fail
      go_meet
      exact ⟨_, _, rfl, rfl, F, rfl⟩
    · have F := aA (show (0 : Int) ≤ c.n ∧ c.n ≤ 1000000000 from ⟨n0, n9⟩)
      clear c4 n0 n9 n5
      go_wp2_with fail
      go_meet
      exact ⟨_, _, rfl, rfl, F, rfl⟩
    · have F := aA (show (1 : Int) ≤ c.n ∧ c.n ≤ 7 from ⟨n5 rfl, n9⟩)
      clear c4 n0 n9 n5
      go_wp2_with fail
      go_meet
      exact ⟨_, _, rfl, rfl, F, rfl⟩
    · have F := aA (show (0 : Int) ≤ c.n ∧ c.n ≤ 2 from ⟨n0, n9⟩)
      clear c4 n0 n9 n5
      go_wp2_with fail
      go_meet
      exact ⟨_, _, rfl, rfl, F, rfl⟩
    · have F := aA (show (0 : Int) ≤ c.n ∧ c.n ≤ 7 from ⟨n0, n9⟩)
      clear c4 n0 n9 n5
      go_wp2_with fail
      go_meet
      exact ⟨_, _, rfl, rfl, F, rfl⟩
    · have F := aA (show (0 : Int) ≤ c.n ∧ c.n ≤ 10 from ⟨n0, n9⟩)
      clear c4 n0 n9 n5
      go_wp2_with fail
      go_meet
      exact ⟨_, _, rfl, rfl, F, rfl⟩
  case rest =>
  obtain ⟨least, top, rfl, rfl, hn, rfl⟩ := hcut
  have k1 : decide (c.n < least) = false := decide_eq_false (by have := hn.out; omega)
  have k2 : decide (top < c.n) = false := decide_eq_false (by have := hn.out; omega)
  obtain ⟨⟨c0, c1, c2, c3⟩, -, -⟩ := jE B0.out
  rw [OFF.out] at c2
  clear c4 c5
  go_wp2_with fail
  (with_reducible refine (CN.out _).mono ?_)
  rintro e1 w1 ⟨rfl, q1⟩
  have B1 := aA (aB B0.out q1)
  have Q1 := aA (aC Q0.out Q0.out.size q1)
  clear q1 B0 Q0 CN c0 c1 c2 c3
  obtain ⟨⟨c0, c1, c2, c3⟩, ⟨c4, c5, c6, c7, c8⟩, ⟨c9, c10, c11, c12, c13⟩, -⟩ := jE B1.out
  rw [OFF.out] at c2
  clear c0 c1 c3 c6 c7
  rcases Bool.eq_false_or_eq_true c.has with hh | hh
  · have FR := aA (fun W => (HAS.out hh) ▸ eL c.f W (right_id (HAS.out hh)))
    have HH := aA hh
    rw [hh] at c8
    clear hh HAS HASN
    go_wp2_with fail
    (with_reducible refine (FR.out _).mono ?_)
    rintro e2 w2 ⟨rfl, q2⟩
    have B2 := aA (aB B1.out q2)
    have Q2 := aA (aC Q1.out Q1.out.size q2)
    clear q2 B1 Q1 FR c2 c4 c5 c8 c9 c10 c11 c12 c13 k1 k2
    obtain ⟨-, ⟨c4, c5, c6, c7, c8⟩, -⟩ := jE B2.out
    rw [HH.out] at c8
    clear c5 c6 c7
    by_cases e2 : c.st = 2
    · have I2 := aA (INN.out e2)
      rw [e2] at c4
      go_wp2_with (refine wpList_load_row rfl 39 (.tmp 1) (by rfl) w.heap.size (by rfl) 39 c.cs.toArray (0, 0) _ (by exact B2.out) Tryz.underlying39 (by rfl) (by kernel_rfl) ?_)
      (with_reducible refine (I2.out _).mono ?_)
      rintro e3 w3 ⟨rfl, q3⟩
      have Q3 := aA (aC Q2.out Q2.out.size q3)
      go_wp2_with fail
      go_ret
      exact ⟨rfl, Q3.out⟩
    · have I2 := aA (OUT.out e2)
      have e2' : (c.st == 2) = false := by simpa using e2
      clear e2
      go_wp2_with (refine wpList_load_row rfl 39 (.tmp 1) (by rfl) w.heap.size (by rfl) 39 c.cs.toArray (0, 0) _ (by exact B2.out) Tryz.underlying39 (by rfl) (by kernel_rfl) ?_)
      (with_reducible refine (I2.out _).mono ?_)
      rintro e3 w3 ⟨rfl, q3⟩
      have Q3 := aA (aC Q2.out Q2.out.size q3)
      go_wp2_with fail
      go_ret
      exact ⟨rfl, Q3.out⟩
  · have hf := HASN.out hh
    rw [hh] at c8
    rw [hf] at c9 c10 c11 c12 c13
    have d9 : w1.cell? ⟨w.heap.size, 9, none⟩ = some (.int .u32 0) := c9
    have d10 : w1.cell? ⟨w.heap.size, 10, none⟩ = some (.bool false) := c10
    have d11 : w1.cell? ⟨w.heap.size, 11, none⟩ = some (.bool false) := c11
    have d12 : w1.cell? ⟨w.heap.size, 12, none⟩ = some (.int .i64 0) := c12
    have d13 : w1.cell? ⟨w.heap.size, 13, none⟩ = some (.string ⟨#[]⟩) := c13
    clear hh HAS HASN hf c9 c10 c11 c12 c13
    by_cases e2 : c.st = 2
    · have I2 := aA (INN.out e2)
      rw [e2] at c4 c2
      go_wp2_with (refine wpList_load_row rfl 39 (.tmp 1) (by rfl) w.heap.size (by rfl) 39 c.cs.toArray (0, 0) _ (by exact B1.out) Tryz.underlying39 (by rfl) (by kernel_rfl) ?_)
      (with_reducible refine (I2.out _).mono ?_)
      rintro e3 w3 ⟨rfl, q3⟩
      have Q3 := aA (aC Q1.out Q1.out.size q3)
      go_wp2_with fail
      go_ret
      exact ⟨rfl, Q3.out⟩
    · have I2 := aA (OUT.out e2)
      have e2' : (c.st == 2) = false := by simpa using e2
      clear e2
      go_wp2_with (refine wpList_load_row rfl 39 (.tmp 1) (by rfl) w.heap.size (by rfl) 39 c.cs.toArray (0, 0) _ (by exact B1.out) Tryz.underlying39 (by rfl) (by kernel_rfl) ?_)
      (with_reducible refine (I2.out _).mono ?_)
      rintro e3 w3 ⟨rfl, q3⟩
      have Q3 := aA (aC Q1.out Q1.out.size q3)
      go_wp2_with fail
      go_ret
      exact ⟨rfl, Q3.out⟩
end Go.Proofs.YtkmddjbialpppaaGreatDoor
namespace Go.Proofs.YtkmddjbialpppaaGreatDoor
open Go.ChangeShapes Go.WideShapes Go.ChangeAt Go.RowKit
open FP (Fr)
open HP (kB at' Hp)
theorem fi_ne {x : Fi} {W : World} {B p : Nat} {v : Value} {t t2 : TypeId} (hB : W.heap[B]? = some (.cells x.cs.toArray t (0, 0))) (hp : W.heap[p]? = some (.cells #[v] t2 (0, 0))) : B ≠ p := fun e => by
  subst e
  rw [hB] at hp
  injection hp with hp
  injection hp with hp _ _
  exact absurd (congrArg Array.size hp) (by simp [Fi.cs])
set_option maxRecDepth 100000 in
set_option maxHeartbeats 4000000 in
theorem cnGo1_on (x : Fi) (B p : Nat) (W : World) (hB : W.heap[B]? = some (.cells x.cs.toArray 44 (0, 0))) (hp : W.heap[p]? = some (.cells #[.bool true] 4 (0, 0))) :
    Calls Tryz.prog 197 #[.pointer (some ⟨B, 0, none⟩), .pointer (some ⟨p, 0, none⟩)] W fun e W' => e = .returned (.int .i64 0) ∧ W' = W.setCells B 4 [.bool true] := by
  obtain ⟨c0, c1, c2, c3, c4, c5, c6⟩ := fi_cells hB
  have f4 := fi_free hB 4
  obtain ⟨d0, d1⟩ := bE hp
  have hb := fi_ne hB hp
  clear hB hp
  go_enter Tryz.func197, Tryz.ntmps197
  go_wp2
  go_ret
  exact ⟨rfl, rfl⟩
def Fi.go1 (x : Fi) : Fi := { x with on := true }
set_option maxRecDepth 100000 in
set_option maxHeartbeats 16000000 in
theorem cnGo_on (x : Fi) (w : World) (ho : x.Ok w) :
    Calls Tryz.prog 162 #[.agg x.cs.toArray, .bool true] w fun e w' => e = .returned (.tuple #[.agg x.go1.cs.toArray, .int .i64 0]) ∧ Below w.heap.size w w' := by
  obtain ⟨w0, hw0⟩ : ∃ w0, w0 = ((w.alloc (.cells x.cs.toArray 44)).alloc (.cells ([.bool true]).toArray 4)).alloc (.cells zFi.cs.toArray 44) := ⟨_, rfl⟩
  have B := aA (aB (aB (World.alloc_heap_new w (.cells x.cs.toArray 44)) ((Below.refl _ (w.alloc (.cells x.cs.toArray 44))).alloc (Nat.le_refl _) (.cells ([.bool true]).toArray 4))) ((Below.refl _ ((w.alloc (.cells x.cs.toArray 44)).alloc (.cells ([.bool true]).toArray 4))).alloc (Nat.le_refl _) (.cells zFi.cs.toArray 44)))
  have D := aA (aB (World.alloc_heap_new (w.alloc (.cells x.cs.toArray 44)) (.cells ([.bool true]).toArray 4)) ((Below.refl _ ((w.alloc (.cells x.cs.toArray 44)).alloc (.cells ([.bool true]).toArray 4))).alloc (Nat.le_refl _) (.cells zFi.cs.toArray 44)))
  have R := aA (World.alloc_heap_new ((w.alloc (.cells x.cs.toArray 44)).alloc (.cells ([.bool true]).toArray 4)) (.cells zFi.cs.toArray 44))
  have Q : Hid (Below w.heap.size w w0) := by rw [hw0]; exact aA ((((Below.refl w.heap.size w).alloc (Nat.le_refl _) (.cells x.cs.toArray 44)).alloc (by simp; try omega) (.cells ([.bool true]).toArray 4)).alloc (by simp; try omega) (.cells zFi.cs.toArray 44))
  rw [← hw0] at B D R
  simp only [World.size_alloc] at D R
  replace R := aA (show w0.heap[w.heap.size + 2]? = some (.cells zFi.cs.toArray 44 (0, 0)) from R.out)
  have CL := aA (cnCall1_ok x w0 (ho.next Q.out) 197 (w.heap.size + 1) (fun args W => by kernel_rfl) (fun _ => False) (fun _ h => h.elim) (fun y _ => y = x.go1) (fun _ _ _ h => h) (aA fun W hB q hz => by
    refine (cnGo1_on x _ _ W hB (aB D.out q)).mono ?_
    rintro e W' ⟨rfl, rfl⟩
    exact ⟨x.go1, rfl, aU [.bool true] x.cs 4 _ hB, rfl, Kp.set _ _ _ _ (.inl rfl)⟩))
  clear ho
  go_enter Tryz.func162, Tryz.ntmps162
  go_upto_region 1 with fail
  change Code.wp _ _ _ _ (((w.alloc (.cells x.cs.toArray 44)).alloc (.cells ([.bool true]).toArray 4)).alloc (.cells zFi.cs.toArray 44))
  rw [← hw0]
  clear hw0
  go_wp2_with (refine wpList_load_row rfl 44 (.tmp 2) (by rfl) w.heap.size (by rfl) 44 x.cs.toArray (0, 0) _ (by exact B.out) Tryz.underlying44 (by rfl) (by kernel_rfl) ?_)
  (with_reducible refine (CL.out).mono ?_)
  rintro e1 w1 ⟨y, rfl, rfl, k⟩
  have q1 := k.below (B := w0.heap.size) (fun _ h => h.elim) (Nat.le_refl _)
  clear k CL
  replace B := aA (aB B.out q1)
  replace D := aA (aB D.out q1)
  replace R := aA (aB R.out q1)
  replace Q := aA (aC Q.out Q.out.size q1)
  clear q1
  have Tw1' := aA (show World.there _ (w.heap.size + 2) 0 7 from aK (cs := zFi.cs) R.out)
  go_wp2_with (refine aF (by rfl) 44 (.tmp 4) (.tmp 9) (by rfl) (w.heap.size + 2) 0 x.go1.cs (by rfl) (by rfl) (by exact Tw1'.out) (by kernel_rfl) (by simp [Value.oneCell', Fi.cs]) ?_)
  intro w1' ew1'
  replace B := aA (show w1'.heap[w.heap.size]? = some (.cells x.cs.toArray 44 (0, 0)) by rw [ew1'.out]; exact aG (by omega) _ _ _ B.out)
  replace D := aA (show w1'.heap[w.heap.size + 1]? = some (.cells ([.bool true]).toArray 4 (0, 0)) by rw [ew1'.out]; exact aG (by omega) _ _ _ D.out)
  replace Q := aA (show Below w.heap.size w w1' by rw [ew1'.out]; exact Q.out.trans (aE _ _ _ (by have := Q.out.size; omega)))
  replace R := aA (show w1'.heap[w.heap.size + 2]? = some (.cells x.go1.cs.toArray 44 (0, 0)) by rw [ew1'.out]; exact aJ x.go1.cs (xs := zFi.cs) R.out rfl)
  clear ew1' Tw1'
  go_wp2_with fail
  refine bodyPost_ret (aP (by rfl) _ w1' (w.heap.size + 2) 44 x.go1.cs.toArray (0, 0) _ (.int .i64 0) (by rfl) (by rfl) R.out Tryz.underlying44 (by rfl) (by kernel_rfl)) rfl ⟨rfl, Q.out⟩
end Go.Proofs.YtkmddjbialpppaaGreatDoor
namespace Go.Proofs.YtkmddjbialpppaaGreatDoor
open Go.ChangeShapes Go.WideShapes Go.ChangeAt Go.RowKit
namespace ND
structure Nd where
  cf : Cf
  id : Int
  os : List Ou
  oA : Option Addr
  oc : Nat
  is : List Inn
  iA : Option Addr
  ic : Nat
  ctl : Cl
  fi : Fi
  tv : Tv
  pn : Pn
  nm : Nm
  sm : Sm
  now : Int
def Nd.cs (n : Nd) : List Value := n.cf.cs ++ ([.int .i64 n.id, .slice n.oA n.os.length n.oc, .slice n.iA n.is.length n.ic] ++ (n.ctl.cs ++ (n.fi.cs ++ (bD n.tv ++ (bO n.pn ++ (bR n.nm ++ (bW n.sm ++ [.int .i64 n.now])))))))
def zCf : Cf := ⟨0, [], none, 0, 0, 0, 0, 0, 0, 0⟩
def zNd : Nd := ⟨zCf, 0, [], none, 0, [], none, 0, zCl, zFi, eX, fK, fZ, g8, 0⟩
structure Nd.Ok (n : Nd) (w : World) : Prop where
  cf : n.cf.Ok w
  outs : Rd w w.heap.size n.oA 26 (n.os.map Ou.cs)
  ins : Rd w w.heap.size n.iA 13 (n.is.map Inn.cs)
  o : ∀ o ∈ n.os, o.Ok w
  i : ∀ i ∈ n.is, i.Ok w
  no : n.os.length ≤ 1000
  ni : n.is.length ≤ 1000
  fi : n.fi.Ok w
theorem Nd.Ok.next {n : Nd} {w w' : World} (h : n.Ok w) (q : Below w.heap.size w w') : n.Ok w' :=
  ⟨h.cf.next q, Rd.next h.outs q q.size, Rd.next h.ins q q.size, fun o ho => (h.o o ho).next q, fun i hi => (h.i i hi).next q, h.no, h.ni, h.fi.next q⟩
structure Nd.Okw (n : Nd) (w : World) : Prop where
  cf : n.cf.Ok w
  no : n.os.length ≤ 1000
  ni : n.is.length ≤ 1000
theorem Nd.Okw.next {n : Nd} {w w' : World} (h : n.Okw w) (q : Below w.heap.size w w') : n.Okw w' := ⟨h.cf.next q, h.no, h.ni⟩
theorem Nd.Ok.w {n : Nd} {w : World} (h : n.Ok w) : n.Okw w := ⟨h.cf, h.no, h.ni⟩
instance {n : Nd} {w : World} : Coe (n.Ok w) (n.Okw w) := ⟨Nd.Ok.w⟩
def Nd.up (n : Nd) : Bool := n.nm.st != 0
def sendP (id : Int) (p : Pd) : Bool := p.frm == id
def iT (id : Int) (p : Pd) : Bool := p.dst / 2 ^ id.toNat % 2 == 1
def Nd.sends (n : Nd) : List Nat := cY n.cf.l (sendP n.id) n.cf.l.length
def Nd.hears (n : Nd) : List Nat := cY n.cf.l (iT n.id) n.cf.l.length
def Nd.shape (n : Nd) : Bool := cK n.cf.nodes 2 4 && (cK n.id 0 (n.cf.nodes - 1) && (decide (n.os.length = n.sends.length) && decide (n.is.length = n.hears.length)))
end ND
end Go.Proofs.YtkmddjbialpppaaGreatDoor
namespace Go.Proofs.YtkmddjbialpppaaGreatDoor
open Go.ChangeShapes Go.WideShapes Go.ChangeAt Go.RowKit
open CM PD SG ND
theorem aZ {W : World} {B : Nat} {n : Nd} {t : TypeId} {fz : Nat × Nat} (h : W.heap[B]? = some (.cells n.cs.toArray t fz)) (k : Nat) {v : Value} (hv : n.cs[k]? = some v) : W.cell? ⟨B, k, none⟩ = some v := by
  simp [World.cell?, h, hv]
theorem nd_len {n : Nd} : n.sends.length ≤ n.cf.l.length ∧ n.hears.length ≤ n.cf.l.length := ⟨eW _ _ _, eW _ _ _⟩
set_option maxRecDepth 100000 in
set_option maxHeartbeats 4000000 in
theorem eR (n : Nd) (w : World) :
    Calls Tryz.prog 43 #[.agg n.cs.toArray] w fun e w' => e = .returned (.bool n.up) ∧ Below w.heap.size w w' := by
  obtain ⟨w0, hw0⟩ : ∃ w0, w0 = w.alloc (.cells n.cs.toArray 53) := ⟨_, rfl⟩
  have B := aA (World.alloc_heap_new w (.cells n.cs.toArray 53))
  have Q : Hid (Below w.heap.size w w0) := by rw [hw0]; exact aA ((Below.refl w.heap.size w).alloc (Nat.le_refl _) (.cells n.cs.toArray 53))
  rw [← hw0] at B
  unfold Nd.up
  have c73 := aZ B.out 73 (v := .int .i64 n.nm.st) rfl
  go_enter Tryz.func43, Tryz.ntmps43
  go_upto_region 1 with fail
  change Code.wp _ _ _ _ (w.alloc (.cells n.cs.toArray 53))
  rw [← hw0]
  clear hw0
  go_wp2_with fail
  go_ret
  exact ⟨rfl, Q.out⟩
set_option maxRecDepth 100000 in
set_option maxHeartbeats 16000000 in
theorem ndWhich_any (fid cap : Nat) (pB : Pd → Bool) (hp : ∀ (args : Array Value) (w : World), (callFunc fid args).run Tryz.prog w = .ok (.enter fid args) w) (c : Nd) (w : World) (ho : c.Okw w)
    (hc : Hid (∀ p ∈ c.cf.l, ∀ W, Below w.heap.size w W → Calls Tryz.prog fid #[.agg p.cs.toArray, .pointer (some ⟨cap, 0, none⟩)] W fun e w' => e = .returned (.bool (pB p)) ∧ Below W.heap.size W w')) :
    Calls Tryz.prog 75 #[.agg c.cs.toArray, .func (.func fid) #[] #[.pointer (some ⟨cap, 0, none⟩)]] w fun e w' => (∃ A cc, e = .returned (.slice A (cY c.cf.l pB c.cf.l.length).length cc) ∧ NR w' w'.heap.size A (cY c.cf.l pB c.cf.l.length) ∧ ∀ g off, A = some ⟨g, off, none⟩ → w.heap.size ≤ g) ∧ Below w.heap.size w w' := by
  obtain ⟨w0, hw0⟩ : ∃ w0, w0 = w.alloc (.cells c.cs.toArray 53) := ⟨_, rfl⟩
  have B := aA (World.alloc_heap_new w (.cells c.cs.toArray 53))
  have Q : Hid (Below w.heap.size w w0) := by rw [hw0]; exact aA ((Below.refl w.heap.size w).alloc (Nat.le_refl _) (.cells c.cs.toArray 53))
  rw [← hw0] at B
  have HO := aA ho
  have hl := ho.cf.n
  have c1 := aZ B.out 1 (v := .slice c.cf.a c.cf.l.length c.cf.c) rfl
  clear ho B
  go_enter Tryz.func75, Tryz.ntmps75
  go_upto_region 1 with fail
  change Code.wp _ _ _ _ (w.alloc (.cells c.cs.toArray 53))
  rw [← hw0]
  clear hw0
  have Q1 := Q
  have w1h : Below w.heap.size w w0 := Q1.out
  have OW : Hid (Own w0 w.heap.size 3 1 none 0 (aX (cY c.cf.l pB 0))) := aA Own.nil
  go_wp2_with fail
  clear c1
  go_loopw [5, 12] (fun vs vi W => ∃ (k : Nat) (A : Option Addr) (cc : Nat), k ≤ c.cf.l.length ∧ vi = .int .i64 k ∧ vs = .slice A (cY c.cf.l pB k).length cc ∧ Hid (Own W w.heap.size 3 1 A cc (aX (cY c.cf.l pB k))) ∧ Hid (Below w.heap.size w W)) (fun _ vi _ => c.cf.l.length - (intOf vi).toNat)
  case atStart => exact ⟨0, none, 0, Nat.zero_le _, rfl, rfl, OW, Q1⟩
  case round =>
    obtain ⟨k, A, cc, hk, rfl, rfl, hOw, hQ⟩ := hrel
    by_cases hkl : k < c.cf.l.length
    · have hki : (k : Int) < (c.cf.l.length : Int) := by omega
      obtain ⟨pb, po, hca, hpb, hrg⟩ := PdR.at_ (HO.out.next hQ.out).cf.r hkl
      have RG := aA hrg
      have HC := aA (fun W q => hc.out c.cf.l[k] (List.getElem_mem hkl) W q)
      have HY := aA (fun h => whP_yes (pB := pB) hkl h)
      have HN := aA (fun h => whP_no (pB := pB) hkl h)
      clear hrg
      generalize c.cf.l[k] = p at *
      rw [hca]
      have q2 : Below wr.heap.size wr (wr.alloc (.cells zPd.cs.toArray 79)) := (Below.refl _ _).alloc (Nat.le_refl _) _
      have g2 := World.alloc_heap_new wr (.cells zPd.cs.toArray 79)
      have TH := aA (show (wr.alloc (.cells zPd.cs.toArray 79)).there wr.heap.size 0 22 from aK (cs := zPd.cs) g2)
      go_wp2_with (first | (refine wpList_load_mid rfl 79 (.tmp 15) (by rfl) pb (po + k * 22) (by rfl) p.cs _ (by exact RG.out) Tryz.underlying79 (by rfl) (by kernel_rfl) ?_) | (refine aF (by rfl) 79 (.tmp 7) (.tmp 16) (by rfl) wr.heap.size 0 p.cs (by rfl) (by rfl) (by exact TH.out) (by kernel_rfl) (by simp [Value.oneCell', Pd.cs, Iv.v, Fv.v]) ?_))
      intro w2 e2
      have s2 : Below wr.heap.size wr w2 := by rw [e2.out]; exact q2.trans (aE (g := wr.heap.size) _ 0 _ (Nat.le_refl _))
      have P2 := aA (show w2.heap[wr.heap.size]? = some (.cells p.cs.toArray 79 (0, 0)) by rw [e2.out]; exact aJ p.cs (xs := zPd.cs) g2 rfl)
      have O2 := aA (hOw.out.grown s2)
      have Q2 := aA (aC hQ.out hQ.out.size s2)
      have C2 := aA (HC.out w2 Q2.out)
      clear e2 TH g2 q2 s2 RG hOw hQ HC
      generalize wr.heap.size = pbx at *
      have HL := eW c.cf.l pB k
      rcases hpb : pB p with _ | _
      · have hn := HN.out hpb
        rw [hpb] at C2
        go_wp2_with (refine wpList_load_row rfl 79 (.tmp 7) (by rfl) pbx (by rfl) 79 p.cs.toArray (0, 0) _ (by exact P2.out) Tryz.underlying79 (by rfl) (by kernel_rfl) ?_)
        (with_reducible refine (C2.out).mono ?_)
        rintro e3 w3 ⟨rfl, q3⟩
        have O3 := aA (O2.out.grown q3)
        have Q3 := aA (aC Q2.out Q2.out.size q3)
        clear q3 O2 Q2 C2 P2 HN HY hpb
        rw [← hn] at O3
        have HN2 := aA hn
        clear hn
        go_wp2_with fail
        go_roundw
        case rel => exact ⟨k + 1, _, _, by omega, by go_num, by rw [HN2.out], O3, Q3⟩
        case measure => simp [intOf]; omega
      · have hy := HY.out hpb
        rw [hpb] at C2
        have hy2 : aX (cY c.cf.l pB (k + 1)) = aX (cY c.cf.l pB k) ++ [[.int .i64 (k : Int)]] := by rw [hy]; simp [aX]
        have HY2 := aA hy2
        have HY3 := aA (show (cY c.cf.l pB (k + 1)).length = (cY c.cf.l pB k).length + 1 by rw [hy]; simp)
        clear hy hy2
        go_wp2_with (refine wpList_load_row rfl 79 (.tmp 7) (by rfl) pbx (by rfl) 79 p.cs.toArray (0, 0) _ (by exact P2.out) Tryz.underlying79 (by rfl) (by kernel_rfl) ?_)
        (with_reducible refine (C2.out).mono ?_)
        rintro e3 w3 ⟨rfl, q3⟩
        have O3 := aA (O2.out.grown q3)
        have Q3 := aA (aC Q2.out Q2.out.size q3)
        have z3 : w.heap.size ≤ w3.heap.size := Q3.out.size
        clear q3 O2 Q2 C2 P2 HN HY hpb
        go_wp2_with (at_builtin; refine cX _ _ [.int .i64 (k : Int)] (by rfl) rfl _ _ 61 rfl kO (by decide) rfl (by simp [Value.oneCell']) w.heap.size _ _ _ (aX (cY c.cf.l pB k)) (by rfl) (by exact O3.out) _ (by rfl) (by rw [bY]; omega) z3 (by rw [bY]) ?_)
        intro A2 c2 w4 P4
        have O4 := aA (HY2.out ▸ P4.own)
        have Q4 := aA (P4.q Q3.out (Nat.le_refl _))
        clear P4 O3 Q3 z3
        go_wp2_with fail
        go_roundw
        case rel => exact ⟨k + 1, A2, c2, by omega, by go_num, by rw [HY3.out], O4, Q4⟩
        case measure => simp [intOf]; omega
    · obtain rfl : k = c.cf.l.length := by omega
      have RR := aA (hOw.out.rd (cR _))
      have RB := aA (gQ hOw.out)
      clear hOw
      go_wp2_with fail
      go_ret
      exact ⟨⟨_, _, rfl, RR.out, RB.out⟩, hQ.out⟩
set_option maxRecDepth 100000 in
theorem ndSend1_any (p : Pd) (nb : Nat) (id : Int) (w : World) (hz : nb < w.heap.size) (hn : Hid (w.cell? ⟨nb, 8, none⟩ = some (.int .i64 id))) : Calls Tryz.prog 76 #[.agg p.cs.toArray, .pointer (some ⟨nb, 0, none⟩)] w fun e w' => e = .returned (.bool (sendP id p)) ∧ Below w.heap.size w w' := by
  obtain ⟨r, hr⟩ : ∃ r, r = (p.frm == id) := ⟨_, rfl⟩
  unfold sendP
  rw [← hr]
  have HR := aA hr
  clear hr
  have q0 : Below w.heap.size w (w.alloc (.cells p.cs.toArray 79)) := (Below.refl _ _).alloc (Nat.le_refl _) _
  have B0 := World.alloc_heap_new w (.cells p.cs.toArray 79)
  have n0 := aT q0 hz hn.out
  obtain ⟨w0, hw0⟩ : ∃ w0, w0 = w.alloc (.cells p.cs.toArray 79) := ⟨_, rfl⟩
  rw [← hw0] at B0 n0 q0
  obtain ⟨⟨_, p1, _⟩, _⟩ := dQ B0
  have Q0 := aA q0
  clear B0 q0 hz
  go_enter Tryz.func76, Tryz.ntmps76
  go_upto_region 1 with fail
  change Code.wp _ _ _ _ (w.alloc (.cells p.cs.toArray 79))
  rw [← hw0]
  clear hw0
  go_wp2_with fail
  go_ret
  refine ⟨aV ?_, Q0.out⟩
  rw [HR.out]
set_option maxRecDepth 100000 in
set_option maxHeartbeats 4000000 in
theorem ndHear1_any (p : Pd) (nb : Nat) (id : Int) (w : World) (hid : 0 ≤ id ∧ id ≤ 3) (hz : nb < w.heap.size) (hn : Hid (w.cell? ⟨nb, 8, none⟩ = some (.int .i64 id))) : Calls Tryz.prog 77 #[.agg p.cs.toArray, .pointer (some ⟨nb, 0, none⟩)] w fun e w' => e = .returned (.bool (iT id p)) ∧ Below w.heap.size w w' := by
  obtain ⟨r, hr⟩ : ∃ r, r = iT id p := ⟨_, rfl⟩
  rw [← hr]
  unfold iT at hr
  have q0 : Below w.heap.size w (w.alloc (.cells p.cs.toArray 79)) := (Below.refl _ _).alloc (Nat.le_refl _) _
  have B0 := World.alloc_heap_new w (.cells p.cs.toArray 79)
  have n0 := aT q0 hz hn.out
  obtain ⟨w0, hw0⟩ : ∃ w0, w0 = w.alloc (.cells p.cs.toArray 79) := ⟨_, rfl⟩
  rw [← hw0] at B0 n0 q0
  obtain ⟨⟨_, _, p2, _⟩, _⟩ := dQ B0
  have Q0 := aA q0
  obtain ⟨k1, k2⟩ := hid
  have E := aA (show r = (bits .and .i64 (p.dst / 2 ^ id.toNat) 1 == 1) by rw [hr, b4])
  clear B0 q0 hz hr
  go_enter Tryz.func77, Tryz.ntmps77
  go_upto_region 1 with fail
  change Code.wp _ _ _ _ (w.alloc (.cells p.cs.toArray 79))
  rw [← hw0]
  clear hw0
  go_wp2_with fail
  go_ret
  refine ⟨aV ?_, Q0.out⟩
  rw [E.out]
set_option maxRecDepth 100000 in
set_option maxHeartbeats 4000000 in
theorem ndSends_any (c : Nd) (w : World) (ho : c.Okw w) :
    Calls Tryz.prog 35 #[.agg c.cs.toArray] w fun e w' => (∃ A cc, e = .returned (.slice A c.sends.length cc) ∧ NR w' w'.heap.size A c.sends ∧ ∀ g off, A = some ⟨g, off, none⟩ → w.heap.size ≤ g) ∧ Below w.heap.size w w' := by
  obtain ⟨w0, hw0⟩ : ∃ w0, w0 = w.alloc (.cells c.cs.toArray 53) := ⟨_, rfl⟩
  have B := aA (World.alloc_heap_new w (.cells c.cs.toArray 53))
  have Q : Hid (Below w.heap.size w w0) := by rw [hw0]; exact aA ((Below.refl w.heap.size w).alloc (Nat.le_refl _) (.cells c.cs.toArray 53))
  rw [← hw0] at B
  have c8 := aZ B.out 8 (v := .int .i64 c.id) rfl
  have zb := aH B.out
  have WH := aA (ndWhich_any 76 w.heap.size (sendP c.id) (fun _ _ => rfl) c w0 (ho.next Q.out) (aA fun p hp W q => ndSend1_any p w.heap.size c.id W (Nat.lt_of_lt_of_le zb q.size) (aA (aT q zb c8))))
  change Hid (Calls _ _ _ _ (fun e w' => (∃ A cc, e = .returned (.slice A c.sends.length cc) ∧ NR w' w'.heap.size A c.sends ∧ ∀ g off, A = some ⟨g, off, none⟩ → w0.heap.size ≤ g) ∧ Below w0.heap.size w0 w')) at WH
  generalize c.sends = R at *
  clear ho c8 zb
  go_enter Tryz.func35, Tryz.ntmps35
  go_upto_region 1 with fail
  change Code.wp _ _ _ _ (w.alloc (.cells c.cs.toArray 53))
  rw [← hw0]
  clear hw0
  go_wp2_with (refine wpList_load_row rfl 53 (.tmp 1) (by rfl) w.heap.size (by rfl) 53 c.cs.toArray (0, 0) _ (by exact B.out) Tryz.underlying53 (by rfl) (by kernel_rfl) ?_)
  (with_reducible refine (WH.out).mono ?_)
  rintro e1 w1 ⟨⟨A, cc, rfl, hR, hB⟩, q1⟩
  have HB := aA (show ∀ g off, A = some ⟨g, off, none⟩ → w.heap.size ≤ g from fun g off h => Nat.le_trans Q.out.size (hB g off h))
  have HR := aA hR
  have Q1 := aA (aC Q.out Q.out.size q1)
  clear q1 Q WH hR B hB
  go_wp2_with fail
  go_ret
  exact ⟨⟨A, cc, rfl, HR.out, HB.out⟩, Q1.out⟩
set_option maxRecDepth 100000 in
set_option maxHeartbeats 4000000 in
theorem ndHears_any (c : Nd) (w : World) (ho : c.Okw w) (hid : 0 ≤ c.id ∧ c.id ≤ 3) :
    Calls Tryz.prog 36 #[.agg c.cs.toArray] w fun e w' => (∃ A cc, e = .returned (.slice A c.hears.length cc) ∧ NR w' w'.heap.size A c.hears ∧ ∀ g off, A = some ⟨g, off, none⟩ → w.heap.size ≤ g) ∧ Below w.heap.size w w' := by
  obtain ⟨w0, hw0⟩ : ∃ w0, w0 = w.alloc (.cells c.cs.toArray 53) := ⟨_, rfl⟩
  have B := aA (World.alloc_heap_new w (.cells c.cs.toArray 53))
  have Q : Hid (Below w.heap.size w w0) := by rw [hw0]; exact aA ((Below.refl w.heap.size w).alloc (Nat.le_refl _) (.cells c.cs.toArray 53))
  rw [← hw0] at B
  have c8 := aZ B.out 8 (v := .int .i64 c.id) rfl
  have zb := aH B.out
  have WH := aA (ndWhich_any 77 w.heap.size (iT c.id) (fun _ _ => rfl) c w0 (ho.next Q.out) (aA fun p hp W q => ndHear1_any p w.heap.size c.id W hid (Nat.lt_of_lt_of_le zb q.size) (aA (aT q zb c8))))
  change Hid (Calls _ _ _ _ (fun e w' => (∃ A cc, e = .returned (.slice A c.hears.length cc) ∧ NR w' w'.heap.size A c.hears ∧ ∀ g off, A = some ⟨g, off, none⟩ → w0.heap.size ≤ g) ∧ Below w0.heap.size w0 w')) at WH
  generalize c.hears = R at *
  clear ho c8 zb hid
  go_enter Tryz.func36, Tryz.ntmps36
  go_upto_region 1 with fail
  change Code.wp _ _ _ _ (w.alloc (.cells c.cs.toArray 53))
  rw [← hw0]
  clear hw0
  go_wp2_with (refine wpList_load_row rfl 53 (.tmp 1) (by rfl) w.heap.size (by rfl) 53 c.cs.toArray (0, 0) _ (by exact B.out) Tryz.underlying53 (by rfl) (by kernel_rfl) ?_)
  (with_reducible refine (WH.out).mono ?_)
  rintro e1 w1 ⟨⟨A, cc, rfl, hR, hB⟩, q1⟩
  have HB := aA (show ∀ g off, A = some ⟨g, off, none⟩ → w.heap.size ≤ g from fun g off h => Nat.le_trans Q.out.size (hB g off h))
  have HR := aA hR
  have Q1 := aA (aC Q.out Q.out.size q1)
  clear q1 Q WH hR B hB
  go_wp2_with fail
  go_ret
  exact ⟨⟨A, cc, rfl, HR.out, HB.out⟩, Q1.out⟩
end Go.Proofs.YtkmddjbialpppaaGreatDoor
namespace Go.Proofs.YtkmddjbialpppaaGreatDoor
open Go.ChangeShapes Go.WideShapes Go.ChangeAt Go.RowKit
open CM PD SG
theorem aL {W : World} {b : Nat} {cs vs : List Value} {t : TypeId} {fz : Nat × Nat} (h : W.heap[b]? = some (.cells cs.toArray t fz)) (o : Nat) (e : (cs.drop o).take vs.length = vs) : W.rangeAt b o vs := fun j v hv => by
  have h1 : cs[o + j]? = some v := by
    rw [← e, List.getElem?_take] at hv
    split at hv
    · rw [List.getElem?_drop] at hv; exact hv
    · cases hv
  simpa [World.cell?, h] using h1
theorem dF {W : World} {b : Nat} {cs : List Value} {t : TypeId} (h : W.heap[b]? = some (.cells cs.toArray t (0, 0))) (o n : Nat) (hl : o + n ≤ cs.length) : W.there b o n := by
  have := there_of (aL (vs := (cs.drop o).take n) h o (by rw [List.length_take, List.length_drop]; congr 1; omega)) (fun j => by simp [World.frozen?, h])
  rwa [List.length_take, List.length_drop, Nat.min_eq_left (by omega)] at this
theorem rightOut_l (o : Ou) (w : World) (ho : o.Ok w) (h : o.right = true) : Calls Tryz.prog 14 #[.agg o.cs.toArray] w fun e w' => e = .returned (.bool true) ∧ Below w.heap.size w w' := by
  have := rightOut_any o w ho
  rwa [h] at this
theorem rightIn_l (o : Inn) (w : World) (ho : o.Ok w) (h : o.right = true) : Calls Tryz.prog 42 #[.agg o.cs.toArray] w fun e w' => e = .returned (.bool true) ∧ Below w.heap.size w w' := by
  have := rightIn_any o w ho
  rwa [h] at this
end Go.Proofs.YtkmddjbialpppaaGreatDoor
