import Derived.Test.YtkmddjbialpppaaGreatDoorMgCoA
import Derived.Test.YtkmddjbialpppaaGreatDoorMgCsD
import Derived.Test.YtkmddjbialpppaaGreatDoorMgSmA
import Derived.Test.YtkmddjbialpppaaGreatDoorMgFlB
import Derived.Test.YtkmddjbialpppaaGreatDoorMgCoZ
import Derived.Test.YtkmddjbialpppaaGreatDoorMgGd
import Derived.Test.YtkmddjbialpppaaGreatDoorMgCoJ
namespace Go.Proofs.YtkmddjbialpppaaGreatDoor
open Go.ChangeShapes Go.WideShapes Go.ChangeAt Go.RowKit
open CM PD SG
structure Pd.Raw (p : Pd) (w : World) : Prop where
  a : SgR w w.heap.size p.ly.A p.ly.L.sgs
  b : InR w w.heap.size p.ly.B p.ly.L.nws
  ca : p.ly.L.sgs.length ≤ p.ly.c
  cb : p.ly.L.nws.length ≤ p.ly.d
  s : InR w w.heap.size p.S.a p.S.l
  sm : ∀ v ∈ p.S.l, lim v
  sc : p.S.l.length ≤ p.S.c
  u : InR w w.heap.size p.subs.a p.subs.l
  um : ∀ v ∈ p.subs.l, lim v
  uc : p.subs.l.length ≤ p.subs.c
  f : FlR w w.heap.size p.fl.a p.fl.l
  fc : p.fl.l.length ≤ p.fl.c
  id : 0 ≤ p.id ∧ p.id < 4294967296
  frm : lim p.frm
  dst : lim p.dst
  limit : lim p.limit
  ma : p.ly.c ≤ maxLen ∧ p.ly.d ≤ maxLen
  ms : p.S.c ≤ maxLen ∧ p.subs.c ≤ maxLen ∧ p.fl.c ≤ maxLen
theorem Pd.Raw.ok {p : Pd} {w : World} (h : p.Raw w) : p.Ok w := by
  have hm : maxLen = 9223372036854775807 := by decide
  have h1 := h.ca
  have h2 := h.cb
  have h3 := h.sc
  have h4 := h.uc
  have h5 := h.fc
  have h6 := h.ma
  have h7 := h.ms
  exact {
    ly := ⟨h.a, h.b, by omega, by omega, h.ca, h.cb⟩
    S := ⟨h.s, h.sm, by omega⟩
    subs := ⟨h.u, h.um, by omega⟩
    fl := ⟨h.f, by omega⟩
    id := h.id, frm := h.frm, dst := h.dst, limit := h.limit }
structure Cf.Raw (c : Cf) (w : World) : Prop where
  r : Rd w w.heap.size c.a 22 (pdRow c.l)
  p : ∀ p ∈ c.l, p.Raw w
  n : c.l.length ≤ c.c
  base : 0 ≤ c.base ∧ c.base < 4294967296
end Go.Proofs.YtkmddjbialpppaaGreatDoor
namespace Go.Proofs.YtkmddjbialpppaaGreatDoor
open Go.ChangeShapes Go.WideShapes Go.ChangeAt Go.RowKit
open CM PD SG ND
set_option maxRecDepth 100000 in
set_option maxHeartbeats 16000000 in
theorem few28_any (c : Cf) (l6 : List Pd) (w : World) (hl6 : l6 = c.l.take 6) (hl : c.l.length ≤ c.c) :
    Calls Tryz.prog 5 #[.agg c.cs.toArray] w fun e w' => e = .returned (.agg ({ c with l := l6 } : Cf).cs.toArray) ∧ Below w.heap.size w w' := by
  obtain ⟨w0, hw0⟩ : ∃ w0, w0 = (w.alloc (.cells c.cs.toArray 25)).alloc (.cells zCf.cs.toArray 25) := ⟨_, rfl⟩
  have B := aA (aB (World.alloc_heap_new w (.cells c.cs.toArray 25)) ((Below.refl _ (w.alloc (.cells c.cs.toArray 25))).alloc (Nat.le_refl _) (.cells zCf.cs.toArray 25)))
  have R := aA (World.alloc_heap_new (w.alloc (.cells c.cs.toArray 25)) (.cells zCf.cs.toArray 25))
  have Q : Hid (Below w.heap.size w w0) := by rw [hw0]; exact aA (((Below.refl w.heap.size w).alloc (Nat.le_refl _) (.cells c.cs.toArray 25)).alloc (by simp; try omega) (.cells zCf.cs.toArray 25))
  rw [← hw0] at B R
  simp only [World.size_alloc] at R
  have hlen : l6.length = min c.l.length 6 := by rw [hl6, List.length_take]; omega
  obtain ⟨m, em, hm⟩ := jL (P := Tryz.prog) (c.l.length : Int) 6
  have em' : m = (l6.length : Int) := by rw [em, hlen]; omega
  have hrun := run_to (P := Tryz.prog) 22 79 Tryz.underlying22 22 (fun W => by kernel_rfl) c.a c.l.length c.c m l6.length em' (by omega)
  subst em'
  clear hl6 hlen hl em
  obtain ⟨_, c1, _⟩ := bL B.out
  have f1 : w0.frozen? ⟨w.heap.size, 1, none⟩ = false := by have := B.out; simp [World.frozen?, this]
  go_enter Tryz.func5, Tryz.ntmps5
  go_upto_region 1 with fail
  change Code.wp _ _ _ _ ((w.alloc (.cells c.cs.toArray 25)).alloc (.cells zCf.cs.toArray 25))
  rw [← hw0]
  clear hw0
  go_upto_region 2 with fail
  clear hm hrun c1 f1
  obtain ⟨w1', ew1'⟩ : ∃ wq, wq = (w0).setCell ⟨w.heap.size, 1, none⟩ (.slice c.a l6.length c.c) := ⟨_, rfl⟩
  rw [← ew1']
  replace R := aA (show w1'.heap[w.heap.size + 1]? = some (.cells zCf.cs.toArray 25 (0, 0)) by rw [ew1']; exact aG (by omega) [.slice c.a l6.length c.c] 1 _ (R.out))
  replace Q := aA (show Below w.heap.size w w1' by rw [ew1']; exact Below.trans (Q.out) (aE [.slice c.a l6.length c.c] 1 _ (by have := Q.out.size; omega)))
  replace B := aA (show w1'.heap[w.heap.size]? = some (.cells (({ c with l := l6 } : Cf).cs).toArray 25 (0, 0)) by rw [ew1']; exact aU [.slice c.a l6.length c.c] (c.cs) 1 _ B.out)
  clear ew1'
  have Tw2' := aA (show World.there _ (w.heap.size + 1) 0 8 from aK (cs := zCf.cs) R.out)
  go_wp2_with (first | (refine wpList_load_row rfl 25 (.tmp 1) (by rfl) w.heap.size (by rfl) 25 (({ c with l := l6 } : Cf).cs).toArray (0, 0) _ (by exact B.out) Tryz.underlying25 (by rfl) (by kernel_rfl) ?_) | (refine aF (by rfl) 25 (.tmp 2) (.tmp 11) (by rfl) (w.heap.size + 1) 0 (({ c with l := l6 } : Cf).cs) (by rfl) (by rfl) (by exact Tw2'.out) (by kernel_rfl) (by simp [Value.oneCell', Cf.cs]) ?_))
  intro w2' ew2'
  replace B := aA (show w2'.heap[w.heap.size]? = some (.cells (({ c with l := l6 } : Cf).cs).toArray 25 (0, 0)) by rw [ew2'.out]; exact aG (by omega) _ _ _ B.out)
  replace Q := aA (show Below w.heap.size w w2' by rw [ew2'.out]; exact Q.out.trans (aE _ _ _ (by have := Q.out.size; omega)))
  replace R := aA (show w2'.heap[w.heap.size + 1]? = some (.cells (({ c with l := l6 } : Cf).cs).toArray 25 (0, 0)) by rw [ew2'.out]; exact aJ (({ c with l := l6 } : Cf).cs) (xs := zCf.cs) R.out rfl)
  clear ew2' Tw2'
  go_wp2_with fail
  refine bodyPost_ret (results_cell_row (p := 2) (ty := 25) (by rfl) _ w2' (w.heap.size + 1) 25 ({ c with l := l6 } : Cf).cs.toArray (0, 0) _ (by rfl) R.out Tryz.underlying25 (by rfl) (by kernel_rfl)) rfl ⟨rfl, Q.out⟩
set_option maxRecDepth 100000 in
set_option maxHeartbeats 16000000 in
theorem refGo_any (t : Tv) (m : Int) (w : World) :
    Calls Tryz.prog 13 #[.agg (bD t).toArray, .int .i64 m] w fun e w' => e = .returned (.agg (bD (t.go m)).toArray) ∧ Below w.heap.size w w' := by
  obtain ⟨w0, hw0⟩ : ∃ w0, w0 = (w.alloc (.cells (bD t).toArray 27)).alloc (.cells (bD eX).toArray 27) := ⟨_, rfl⟩
  have B := aA (aB (World.alloc_heap_new w (.cells (bD t).toArray 27)) ((Below.refl _ (w.alloc (.cells (bD t).toArray 27))).alloc (Nat.le_refl _) (.cells (bD eX).toArray 27)))
  have R := aA (World.alloc_heap_new (w.alloc (.cells (bD t).toArray 27)) (.cells (bD eX).toArray 27))
  have Q : Hid (Below w.heap.size w w0) := by rw [hw0]; exact aA (((Below.refl w.heap.size w).alloc (Nat.le_refl _) (.cells (bD t).toArray 27)).alloc (by simp; try omega) (.cells (bD eX).toArray 27))
  rw [← hw0] at B R
  simp only [World.size_alloc] at R
  obtain ⟨t2, ht2⟩ : ∃ t2, t2 = t.go m := ⟨_, rfl⟩
  rw [← ht2]
  unfold Tv.go at ht2
  obtain ⟨c0, c1, c2, c3, c4, c5, c6, c7, _⟩ := dI B.out
  have HT := aA ht2
  clear ht2
  rcases hb : (t.mode == m) with _ | _
  ·
    replace HT := aA (show t2 = ({ t with mode := m, errs := 0, bus := false, frm := false, loc := false, ovr := false } : Tv) by rw [HT.out, hb, if_neg Bool.false_ne_true])
    go_enter Tryz.func13, Tryz.ntmps13
    go_upto_region 1 with fail
    change Code.wp _ _ _ _ ((w.alloc (.cells (bD t).toArray 27)).alloc (.cells (bD eX).toArray 27))
    rw [← hw0]
    clear hw0
    have Tw1' := aA (show World.there _ (w.heap.size + 1) 0 13 from aK (cs := bD eX) R.out)
    go_wp2_with (refine aF (by rfl) 27 (.tmp 4) (.tmp 25) (by rfl) (w.heap.size + 1) 0 (bD ({ t with mode := m, errs := 0, bus := false, frm := false, loc := false, ovr := false } : Tv)) (by rfl) (by rfl) (by exact Tw1'.out) (by kernel_rfl) (by simp [Value.oneCell', bD]) ?_)
    intro w1' ew1'
    replace B := aA (show w1'.heap[w.heap.size]? = some (.cells (bD t).toArray 27 (0, 0)) by rw [ew1'.out]; exact aG (by omega) _ _ _ B.out)
    replace Q := aA (show Below w.heap.size w w1' by rw [ew1'.out]; exact Q.out.trans (aE _ _ _ (by have := Q.out.size; omega)))
    replace R := aA (show w1'.heap[w.heap.size + 1]? = some (.cells (bD ({ t with mode := m, errs := 0, bus := false, frm := false, loc := false, ovr := false } : Tv)).toArray 27 (0, 0)) by rw [ew1'.out]; exact aJ (bD ({ t with mode := m, errs := 0, bus := false, frm := false, loc := false, ovr := false } : Tv)) (xs := bD eX) R.out rfl)
    clear ew1' Tw1'
    go_wp2_with fail
    refine bodyPost_ret (results_cell_row (p := 4) (ty := 27) (by rfl) _ w1' (w.heap.size + 1) 27 (bD ({ t with mode := m, errs := 0, bus := false, frm := false, loc := false, ovr := false } : Tv)).toArray (0, 0) _ (by rfl) R.out Tryz.underlying27 (by rfl) (by kernel_rfl)) rfl ⟨by rw [HT.out], Q.out⟩
  ·
    replace HT := aA (show t2 = t by rw [HT.out, hb, if_pos rfl])
    go_enter Tryz.func13, Tryz.ntmps13
    go_upto_region 1 with fail
    change Code.wp _ _ _ _ ((w.alloc (.cells (bD t).toArray 27)).alloc (.cells (bD eX).toArray 27))
    rw [← hw0]
    clear hw0
    have Tw2' := aA (show World.there _ (w.heap.size + 1) 0 13 from aK (cs := bD eX) R.out)
    go_wp2_with (first | (refine wpList_load_row rfl 27 (.tmp 2) (by rfl) w.heap.size (by rfl) 27 (bD t).toArray (0, 0) _ (by exact B.out) Tryz.underlying27 (by rfl) (by kernel_rfl) ?_) | (refine aF (by rfl) 27 (.tmp 4) (.tmp 9) (by rfl) (w.heap.size + 1) 0 (bD t) (by rfl) (by rfl) (by exact Tw2'.out) (by kernel_rfl) (by simp [Value.oneCell', bD]) ?_))
    intro w2' ew2'
    replace B := aA (show w2'.heap[w.heap.size]? = some (.cells (bD t).toArray 27 (0, 0)) by rw [ew2'.out]; exact aG (by omega) _ _ _ B.out)
    replace Q := aA (show Below w.heap.size w w2' by rw [ew2'.out]; exact Q.out.trans (aE _ _ _ (by have := Q.out.size; omega)))
    replace R := aA (show w2'.heap[w.heap.size + 1]? = some (.cells (bD t).toArray 27 (0, 0)) by rw [ew2'.out]; exact aJ (bD t) (xs := bD eX) R.out rfl)
    clear ew2' Tw2'
    go_wp2_with fail
    refine bodyPost_ret (results_cell_row (p := 4) (ty := 27) (by rfl) _ w2' (w.heap.size + 1) 27 (bD t).toArray (0, 0) _ (by rfl) R.out Tryz.underlying27 (by rfl) (by kernel_rfl)) rfl ⟨by rw [HT.out], Q.out⟩
end Go.Proofs.YtkmddjbialpppaaGreatDoor
namespace Go.Proofs.YtkmddjbialpppaaGreatDoor
open Go.ChangeShapes Go.WideShapes Go.ChangeAt Go.RowKit
open ND
open FP (Fr)
def frN2 (v : Int) : List Value := [.int .u32 v, .bool false, .bool false, .int .i64 2, .string ⟨#[0, 0]⟩]
theorem gO {P : Program} {ops : Array Oper} {rest : List Oper} {op : Oper} {a : Act} {Q : Exit → Act → World → Prop} {w : World} (hw : Region.wanted op (yielded ops a.tmps) = true) (o : Op) (ho : op.op = o) (v : Value) (h : ∀ W, (execOp a.eval op).run P W = .ok (.value v) W)
    (k : wpList P ops Q rest (a.put op.dst v) w) : wpList P ops Q (op :: rest) a w :=
  wpList_step fun K hK => by
    rw [if_pos hw]
    unfold Oper.wp
    rw [h]
    exact hK _ _ k
set_option maxRecDepth 100000 in
theorem exec_neq_tv (t : Tv) (ev : Operand → Value) (op : Oper) (p q : Operand) (y : TypeId) (ho : op.op = .binOp .neq 27 p q y) (hp : ev p = .agg (bD t).toArray) (hq : ev q = .agg (bD t).toArray) (W : World) : (execOp ev op).run Tryz.prog W = .ok (.value (.bool false)) W := by
  unfold execOp
  simp only [ho, hp, hq]
  unfold bD
  go_simp
set_option maxRecDepth 100000 in
theorem exec_eql_nm (t : Nm) (ev : Operand → Value) (op : Oper) (p q : Operand) (y : TypeId) (ho : op.op = .binOp .eql 49 p q y) (hp : ev p = .agg (bR t).toArray) (hq : ev q = .agg (bR t).toArray) (W : World) : (execOp ev op).run Tryz.prog W = .ok (.value (.bool true)) W := by
  unfold execOp
  simp only [ho, hp, hq]
  unfold bR
  go_simp
set_option maxRecDepth 100000 in
theorem exec_eql_fr (t : Int) (ev : Operand → Value) (op : Oper) (p q : Operand) (y : TypeId) (ho : op.op = .binOp .eql 35 p q y) (hp : ev p = .agg (frN2 t).toArray) (hq : ev q = .agg (frN2 t).toArray) (W : World) : (execOp ev op).run Tryz.prog W = .ok (.value (.bool true)) W := by
  unfold execOp
  simp only [ho, hp, hq]
  unfold frN2
  go_simp
set_option maxRecDepth 100000 in
theorem exec_neq_pn (m l : Int) (ev : Operand → Value) (op : Oper) (p q : Operand) (y : TypeId) (ho : op.op = .binOp .neq 47 p q y) (hp : ev p = .agg (bO ⟨m, 0, fun _ => 0, l⟩).toArray) (hq : ev q = .agg (bO ⟨m, 0, fun _ => 0, l⟩).toArray) (W : World) : (execOp ev op).run Tryz.prog W = .ok (.value (.bool false)) W := by
  have h : ∀ W, (Op.equalIn 9999 45 (.agg #[.int .i64 0, .int .i64 0, .int .i64 0, .int .i64 0, .int .i64 0, .int .i64 0, .int .i64 0, .int .i64 0, .int .i64 0, .int .i64 0, .int .i64 0, .int .i64 0, .int .i64 0, .int .i64 0, .int .i64 0, .int .i64 0]) (.agg #[.int .i64 0, .int .i64 0, .int .i64 0, .int .i64 0, .int .i64 0, .int .i64 0, .int .i64 0, .int .i64 0, .int .i64 0, .int .i64 0, .int .i64 0, .int .i64 0, .int .i64 0, .int .i64 0, .int .i64 0, .int .i64 0])).run Tryz.prog W = .ok true W := fun W => by kernel_rfl
  unfold execOp
  simp only [ho, hp, hq]
  unfold bO
  go_simp
end Go.Proofs.YtkmddjbialpppaaGreatDoor
namespace Go.Proofs.YtkmddjbialpppaaGreatDoor
open Go.ChangeShapes Go.WideShapes Go.ChangeAt Go.RowKit
open CM PD SG
set_option maxRecDepth 100000 in
set_option maxHeartbeats 16000000 in
theorem refSent_any (c : Cf) (node : Int) (w : World) (ho : c.Ok w) : Calls Tryz.prog 11 #[.agg c.cs.toArray, .int .i64 node] w fun e w' => (∃ A cc, e = .returned (.slice A (cY c.l (kL node) c.l.length).length cc) ∧ NR w' w'.heap.size A (cY c.l (kL node) c.l.length)) ∧ Below w.heap.size w w' := by
  obtain ⟨w0, hw0⟩ : ∃ w0, w0 = w.alloc (.cells c.cs.toArray 25) := ⟨_, rfl⟩
  have B0 := aA (World.alloc_heap_new w (.cells c.cs.toArray 25))
  have Q0 : Hid (Below w.heap.size w w0) := by rw [hw0]; exact aA ((Below.refl _ _).alloc (Nat.le_refl _) _)
  rw [← hw0] at B0
  have HO := aA ho
  have hl := ho.n
  obtain ⟨pB, hpB⟩ : ∃ pB, pB = kL node := ⟨_, rfl⟩
  rw [← hpB]
  have HPB := aA hpB
  obtain ⟨R, hR⟩ : ∃ R, R = cY c.l pB c.l.length := ⟨_, rfl⟩
  rw [← hR]
  have HE := aA hR
  clear ho hpB hR
  have q1 : Below w0.heap.size w0 (w0.alloc (.cells #[] 3)) := (Below.refl _ _).alloc (Nat.le_refl _) _
  have O1 : Hid (Own (w0.alloc (.cells #[] 3)) w.heap.size 3 1 (some ⟨w0.heap.size, 0, none⟩) 0 (aX (cY c.l pB 0))) := aA (Own.lit w0 w.heap.size 3 1 [] Q0.out.size (by simp) (by simp))
  have B1 := aA (aB B0.out q1)
  have Q1 := aA (aC Q0.out Q0.out.size q1)
  obtain ⟨c0, c1, c2, c3, c4, c5, c6, c7⟩ := bL B1.out
  clear c0 c2 c3 c4 c5 c6 c7 q1 Q0
  go_enter Tryz.func11, Tryz.ntmps11
  go_upto_region 1 with fail
  change Code.wp _ _ _ _ (w.alloc (.cells c.cs.toArray 25))
  rw [← hw0]
  clear hw0
  go_wp2_with fail
  clear c1
  go_loopw [5, 12] (fun vs vi W => ∃ (k : Nat) (A : Option Addr) (cc : Nat), k ≤ c.l.length ∧ vi = .int .i64 k ∧ vs = .slice A (cY c.l pB k).length cc ∧ Hid (Own W w.heap.size 3 1 A cc (aX (cY c.l pB k))) ∧ Hid (Below w.heap.size w W) ∧ Hid (W.heap[w.heap.size]? = some (.cells c.cs.toArray 25 (0, 0)))) (fun _ vi _ => c.l.length - (intOf vi).toNat)
  case atStart => exact ⟨0, _, 0, Nat.zero_le _, rfl, rfl, O1, Q1, B1⟩
  case round =>
    obtain ⟨k, A, cc, hk, rfl, rfl, hOw, hQ, hB⟩ := hrel
    clear O1 Q1 B1 B0
    by_cases hkl : k < c.l.length
    · have hki : (k : Int) < (c.l.length : Int) := by omega
      obtain ⟨pb, po, hca, hpb, hrg⟩ := PdR.at_ (HO.out.next hQ.out).r hkl
      have RG := aA hrg
      have HY := aA (fun h => whP_yes (pB := pB) hkl h)
      have HN := aA (fun h => whP_no (pB := pB) hkl h)
      have HM := aA (List.getElem_mem hkl)
      clear hrg
      generalize c.l[k] = p at *
      rw [hca]
      have q2 : Below wr.heap.size wr (wr.alloc (.cells zPd.cs.toArray 79)) := (Below.refl _ _).alloc (Nat.le_refl _) _
      have g2 := World.alloc_heap_new wr (.cells zPd.cs.toArray 79)
      have TH := aA (show (wr.alloc (.cells zPd.cs.toArray 79)).there wr.heap.size 0 22 from aK (cs := zPd.cs) g2)
      go_wp2_with (first | (refine wpList_load_mid rfl 79 (.tmp 15) (by rfl) pb (po + k * 22) (by rfl) p.cs _ (by exact RG.out) Tryz.underlying79 (by rfl) (by kernel_rfl) ?_) | (refine aF (by rfl) 79 (.tmp 7) (.tmp 16) (by rfl) wr.heap.size 0 p.cs (by rfl) (by rfl) (by exact TH.out) (by kernel_rfl) (by simp [Value.oneCell', Pd.cs, Iv.v, Fv.v]) ?_))
      intro w2 e2
      have s2 : Below wr.heap.size wr w2 := by rw [e2.out]; exact q2.trans (aE (g := wr.heap.size) _ 0 _ (Nat.le_refl _))
      have P2 := aA (show w2.heap[wr.heap.size]? = some (.cells p.cs.toArray 79 (0, 0)) by rw [e2.out]; exact aJ p.cs (xs := zPd.cs) g2 rfl)
      have O2 := aA (hOw.out.grown s2)
      have B2 := aA (aB hB.out s2)
      have Q2 := aA (aC hQ.out hQ.out.size s2)
      clear e2 TH g2 q2 s2 RG hOw hQ hB
      generalize wr.heap.size = pbx at *
      have HL := eW c.l pB k
      obtain ⟨⟨p0, p1, p2, p3, p4, p5, p6, p7, p8, p9⟩, _⟩ := dQ P2.out
      clear p0 p3 p4 p5 p6 p7 p8 p9 P2
      have HB := aA (show pB p = (p.frm == node) by rw [HPB.out]; rfl)
      rcases hb : (p.frm == node) with _ | _
      · have HN2 := aA (HN.out (HB.out.trans hb))
        have O3 := aA (show Own w2 w.heap.size 3 1 A cc (aX (cY c.l pB (k + 1))) by rw [HN2.out]; exact O2.out)
        clear HY HN HB
        go_wp2_with fail
        go_roundw
        case rel => exact ⟨k + 1, _, _, by omega, by go_num, by rw [HN2.out], O3, Q2, B2⟩
        case measure => simp [intOf]; omega
      · have hy := HY.out (HB.out.trans hb)
        clear HN HY HB
        have hy2 : aX (cY c.l pB (k + 1)) = aX (cY c.l pB k) ++ [[.int .i64 (k : Int)]] := by rw [hy]; simp [aX]
        have HY2 := aA hy2
        have HY3 := aA (show (cY c.l pB (k + 1)).length = (cY c.l pB k).length + 1 by rw [hy]; simp)
        clear hy hy2
        have z3 : w.heap.size ≤ w2.heap.size := Q2.out.size
        go_wp2_with (at_builtin; refine cX _ _ [.int .i64 (k : Int)] (by rfl) rfl _ _ 61 rfl kO (by decide) rfl (by simp [Value.oneCell']) w.heap.size _ _ _ (aX (cY c.l pB k)) (by rfl) (by exact O2.out) _ (by rfl) (by rw [bY]; omega) z3 (by rw [bY]) ?_)
        intro A2 c2 w4 P4
        have O4 := aA (HY2.out ▸ P4.own)
        have Q4 := aA (P4.q Q2.out (Nat.le_refl _))
        have B4 := aA (P4.heap B2.out (by decide))
        clear P4 O2 Q2 z3 B2
        go_wp2_with fail
        go_roundw
        case rel => exact ⟨k + 1, A2, c2, by omega, by go_num, by rw [HY3.out], O4, Q4, B4⟩
        case measure => simp [intOf]; omega
    · obtain rfl : k = c.l.length := by omega
      rw [← HE.out] at hOw ⊢
      have RR := aA (hOw.out.rd (cR R))
      clear hOw
      go_wp2_with fail
      go_ret
      exact ⟨⟨_, _, rfl, RR.out⟩, hQ.out⟩
set_option maxRecDepth 100000 in
set_option maxHeartbeats 16000000 in
theorem refHeard_any (c : Cf) (node : Int) (w : World) (ho : c.Ok w) (hn : 2 ≤ c.nodes ∧ c.nodes ≤ 4) (hD : ∀ p ∈ c.l, 1 ≤ p.dst ∧ p.dst ≤ 15) : Calls Tryz.prog 12 #[.agg c.cs.toArray, .int .i64 node] w fun e w' => (∃ A cc, e = .returned (.slice A (cY c.l (fT c node) c.l.length).length cc) ∧ NR w' w'.heap.size A (cY c.l (fT c node) c.l.length)) ∧ Below w.heap.size w w' := by
  obtain ⟨w0, hw0⟩ : ∃ w0, w0 = w.alloc (.cells c.cs.toArray 25) := ⟨_, rfl⟩
  have B0 := aA (World.alloc_heap_new w (.cells c.cs.toArray 25))
  have Q0 : Hid (Below w.heap.size w w0) := by rw [hw0]; exact aA ((Below.refl _ _).alloc (Nat.le_refl _) _)
  rw [← hw0] at B0
  have HO := aA ho
  have hl := ho.n
  obtain ⟨pB, hpB⟩ : ∃ pB, pB = fT c node := ⟨_, rfl⟩
  rw [← hpB]
  have HPB := aA hpB
  obtain ⟨R, hR⟩ : ∃ R, R = cY c.l pB c.l.length := ⟨_, rfl⟩
  rw [← hR]
  have HE := aA hR
  clear ho hpB hR
  have q1 : Below w0.heap.size w0 (w0.alloc (.cells #[] 3)) := (Below.refl _ _).alloc (Nat.le_refl _) _
  have O1 : Hid (Own (w0.alloc (.cells #[] 3)) w.heap.size 3 1 (some ⟨w0.heap.size, 0, none⟩) 0 (aX (cY c.l pB 0))) := aA (Own.lit w0 w.heap.size 3 1 [] Q0.out.size (by simp) (by simp))
  have B1 := aA (aB B0.out q1)
  have Q1 := aA (aC Q0.out Q0.out.size q1)
  obtain ⟨c0, c1, c2, c3, c4, c5, c6, c7⟩ := bL B1.out
  clear c0 c2 c3 c4 c5 c6 c7 q1 Q0
  go_enter Tryz.func12, Tryz.ntmps12
  go_upto_region 1 with fail
  change Code.wp _ _ _ _ (w.alloc (.cells c.cs.toArray 25))
  rw [← hw0]
  clear hw0
  go_wp2_with fail
  clear c1
  go_loopw [5, 12] (fun vs vi W => ∃ (k : Nat) (A : Option Addr) (cc : Nat), k ≤ c.l.length ∧ vi = .int .i64 k ∧ vs = .slice A (cY c.l pB k).length cc ∧ Hid (Own W w.heap.size 3 1 A cc (aX (cY c.l pB k))) ∧ Hid (Below w.heap.size w W) ∧ Hid (W.heap[w.heap.size]? = some (.cells c.cs.toArray 25 (0, 0)))) (fun _ vi _ => c.l.length - (intOf vi).toNat)
  case atStart => exact ⟨0, _, 0, Nat.zero_le _, rfl, rfl, O1, Q1, B1⟩
  case round =>
    obtain ⟨k, A, cc, hk, rfl, rfl, hOw, hQ, hB⟩ := hrel
    clear O1 Q1 B1 B0
    by_cases hkl : k < c.l.length
    · have hki : (k : Int) < (c.l.length : Int) := by omega
      obtain ⟨pb, po, hca, hpb, hrg⟩ := PdR.at_ (HO.out.next hQ.out).r hkl
      have RG := aA hrg
      have HY := aA (fun h => whP_yes (pB := pB) hkl h)
      have HN := aA (fun h => whP_no (pB := pB) hkl h)
      have HM := aA (List.getElem_mem hkl)
      clear hrg
      generalize c.l[k] = p at *
      rw [hca]
      have q2 : Below wr.heap.size wr (wr.alloc (.cells zPd.cs.toArray 79)) := (Below.refl _ _).alloc (Nat.le_refl _) _
      have g2 := World.alloc_heap_new wr (.cells zPd.cs.toArray 79)
      have TH := aA (show (wr.alloc (.cells zPd.cs.toArray 79)).there wr.heap.size 0 22 from aK (cs := zPd.cs) g2)
      go_wp2_with (first | (refine wpList_load_mid rfl 79 (.tmp 15) (by rfl) pb (po + k * 22) (by rfl) p.cs _ (by exact RG.out) Tryz.underlying79 (by rfl) (by kernel_rfl) ?_) | (refine aF (by rfl) 79 (.tmp 7) (.tmp 16) (by rfl) wr.heap.size 0 p.cs (by rfl) (by rfl) (by exact TH.out) (by kernel_rfl) (by simp [Value.oneCell', Pd.cs, Iv.v, Fv.v]) ?_))
      intro w2 e2
      have s2 : Below wr.heap.size wr w2 := by rw [e2.out]; exact q2.trans (aE (g := wr.heap.size) _ 0 _ (Nat.le_refl _))
      have P2 := aA (show w2.heap[wr.heap.size]? = some (.cells p.cs.toArray 79 (0, 0)) by rw [e2.out]; exact aJ p.cs (xs := zPd.cs) g2 rfl)
      have O2 := aA (hOw.out.grown s2)
      have B2 := aA (aB hB.out s2)
      have Q2 := aA (aC hQ.out hQ.out.size s2)
      clear e2 TH g2 q2 s2 RG hOw hQ hB
      generalize wr.heap.size = pbx at *
      have HL := eW c.l pB k
      obtain ⟨⟨p0, p1, p2, p3, p4, p5, p6, p7, p8, p9⟩, _⟩ := dQ P2.out
      clear p0 p3 p4 p5 p6 p7 p8 p9 P2
      have hd := (hD p HM.out)
      by_cases hn : 0 ≤ node ∧ node < c.nodes
      · obtain ⟨hn1, hn2⟩ := hn
        obtain ⟨i, rfl⟩ := Int.eq_ofNat_of_zero_le hn1
        have hi4 : i ≤ 1000 := by omega
        have HB := aA (show pB p = (p.dst / 2 ^ i % 2 == 1) by rw [HPB.out]; unfold fT; rw [show cK (i : Int) 0 (c.nodes - 1) = true by unfold cK; simp; omega, Bool.true_and, Int.toNat_natCast])
        have BL := aA (refBit21_any p.dst i w2 (by omega) (by omega) hi4)
        obtain ⟨c0, c1, c2, c3, c4, c5, c6, c7⟩ := bL B2.out
        clear c1 c2 c3 c4 c5 c6 c7
        go_wp2_with fail
        (with_reducible refine (BL.out).mono ?_)
        rintro e3 w3 ⟨rfl, rfl⟩
        rcases hb : (p.dst / 2 ^ i % 2 == 1) with _ | _
        · have HN2 := aA (HN.out (HB.out.trans hb))
          have O3 := aA (show Own w3 w.heap.size 3 1 A cc (aX (cY c.l pB (k + 1))) by rw [HN2.out]; exact O2.out)
          clear HY HN HB BL
          go_wp2_with fail
          go_roundw
          case rel => exact ⟨k + 1, _, _, by omega, by go_num, by rw [HN2.out], O3, Q2, B2⟩
          case measure => simp [intOf]; omega
        · have hy := HY.out (HB.out.trans hb)
          clear HN HY HB BL
          have hy2 : aX (cY c.l pB (k + 1)) = aX (cY c.l pB k) ++ [[.int .i64 (k : Int)]] := by rw [hy]; simp [aX]
          have HY2 := aA hy2
          have HY3 := aA (show (cY c.l pB (k + 1)).length = (cY c.l pB k).length + 1 by rw [hy]; simp)
          clear hy hy2
          have z3 : w.heap.size ≤ w3.heap.size := Q2.out.size
          go_wp2_with (at_builtin; refine cX _ _ [.int .i64 (k : Int)] (by rfl) rfl _ _ 61 rfl kO (by decide) rfl (by simp [Value.oneCell']) w.heap.size _ _ _ (aX (cY c.l pB k)) (by rfl) (by exact O2.out) _ (by rfl) (by rw [bY]; omega) z3 (by rw [bY]) ?_)
          intro A2 c2 w4 P4
          have O4 := aA (HY2.out ▸ P4.own)
          have Q4 := aA (P4.q Q2.out (Nat.le_refl _))
          have B4 := aA (P4.heap B2.out (by decide))
          clear P4 O2 Q2 z3 B2
          go_wp2_with fail
          go_roundw
          case rel => exact ⟨k + 1, A2, c2, by omega, by go_num, by rw [HY3.out], O4, Q4, B4⟩
          case measure => simp [intOf]; omega
      · have HB : pB p = false := by
          rw [HPB.out]; unfold fT
          rw [show cK node 0 (c.nodes - 1) = false by unfold cK; simp; omega]; rfl
        have HN2 := aA (HN.out HB)
        have O3 := aA (show Own w2 w.heap.size 3 1 A cc (aX (cY c.l pB (k + 1))) by rw [HN2.out]; exact O2.out)
        clear HY HN HB
        obtain ⟨c0, c1, c2, c3, c4, c5, c6, c7⟩ := bL B2.out
        clear c1 c2 c3 c4 c5 c6 c7
        by_cases hn0 : 0 ≤ node
        · have hn1 : ¬ node < c.nodes := fun h => hn ⟨hn0, h⟩
          clear hn
          go_wp2_with fail
          go_roundw
          case rel => exact ⟨k + 1, _, _, by omega, by go_num, by rw [HN2.out], O3, Q2, B2⟩
          case measure => simp [intOf]; omega
        · clear hn
          go_wp2_with fail
          go_roundw
          case rel => exact ⟨k + 1, _, _, by omega, by go_num, by rw [HN2.out], O3, Q2, B2⟩
          case measure => simp [intOf]; omega
    · obtain rfl : k = c.l.length := by omega
      rw [← HE.out] at hOw ⊢
      have RR := aA (hOw.out.rd (cR R))
      clear hOw
      go_wp2_with fail
      go_ret
      exact ⟨⟨_, _, rfl, RR.out⟩, hQ.out⟩
end Go.Proofs.YtkmddjbialpppaaGreatDoor
