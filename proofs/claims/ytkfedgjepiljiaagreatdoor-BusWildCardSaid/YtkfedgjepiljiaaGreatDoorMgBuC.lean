/- What BusCuts, BusAlone, BusOrder share: comparing rows; Submit said in one way. -/
import Derived.Test.YtkfedgjepiljiaaGreatDoorBuQ
import Derived.Test.YtkfedgjepiljiaaGreatDoorMgCsD
namespace Go.Proofs.YtkfedgjepiljiaaGreatDoor
open Go.ChangeShapes Go.WideShapes Go.ChangeAt Go.RowKit
open FP (Fr)

set_option maxRecDepth 100000 in
theorem neq_sn (y : Sn) (W : World) : (binOp .neq 62 (.agg (sncs y).toArray) (.agg (sncs y).toArray)).run Tryz.prog W = .ok (.bool false) W := by
  unfold sncs evL
  go_simp
set_option maxRecDepth 100000 in
theorem neq_cl (c : Cl) (W : World) : (binOp .neq 33 (.agg c.cs.toArray) (.agg c.cs.toArray)).run Tryz.prog W = .ok (.bool false) W := by
  unfold Cl.cs
  go_simp
set_option maxRecDepth 100000 in
theorem exec_neq_sn (y : Sn) (ev : Operand → Value) (op : Oper) (p q : Operand) (t : TypeId) (ho : op.op = .binOp .neq 62 p q t) (hp : ev p = .agg (sncs y).toArray) (hq : ev q = .agg (sncs y).toArray) (W : World) : (execOp ev op).run Tryz.prog W = .ok (.value (.bool false)) W := by
  unfold execOp
  simp only [ho, hp, hq]
  unfold sncs evL
  go_simp
set_option maxRecDepth 100000 in
theorem exec_neq_cl (c : Cl) (ev : Operand → Value) (op : Oper) (p q : Operand) (t : TypeId) (ho : op.op = .binOp .neq 33 p q t) (hp : ev p = .agg c.cs.toArray) (hq : ev q = .agg c.cs.toArray) (W : World) : (execOp ev op).run Tryz.prog W = .ok (.value (.bool false)) W := by
  unfold execOp
  simp only [ho, hp, hq]
  unfold Cl.cs
  go_simp
/-- A row of n does not lie in the block that grows. -/
def OffB (A : Option Addr) (n : Nat) (row : Option Nat) : Prop := n = 0 ∨ ∀ g off, A = some ⟨g, off, none⟩ → row ≠ some g
theorem offB_old {W w : World} {B : Nat} {A : Option Addr} {sz : Nat} {R : List (List Value)} {base : Nat} {e : TypeId} {sz2 : Nat} {E : Option Addr} {n c : Nat} {rows : List (List Value)} (h : Rd w B A sz R) (ho : Own W base e sz2 E c rows) (hb : B ≤ base) : OffB A R.length (Value.slice E n c).ownBlock := by
  by_cases hn : 0 < R.length
  · obtain ⟨g, off, e, hlt, _⟩ := h hn
    refine .inr fun g2 off2 e2 => ?_
    rw [e] at e2
    cases e2
    exact own_not ho (by omega)
  · exact .inl (by omega)
theorem offB_new {W : World} {N m : Nat} {A : Option Addr} {base : Nat} {e : TypeId} {sz2 : Nat} {E : Option Addr} {n c : Nat} {rows : List (List Value)} (h : Fresh N A) (ho : Own W base e sz2 E c rows) (hN : W.heap.size ≤ N) : OffB A m (Value.slice E n c).ownBlock :=
  .inr fun g off e => own_ne ho (by have := h g off e; omega)
theorem offB_ty {W : World} {b1 b2 e1 e2 s1 s2 m n c1 c2 : Nat} {A E : Option Addr} {R1 R2 : List (List Value)} (h : Own W b1 e1 s1 A c1 R1) (ho : Own W b2 e2 s2 E c2 R2) (hte : e1 ≠ e2) : OffB A m (Value.slice E n c2).ownBlock := by
  refine .inr fun g off hA hx => ?_
  subst hA
  rcases h.2 with ⟨hv, _⟩ | ⟨g1, cap, cur, hv, _, hgh, _⟩
  · simp only [Value.slice.injEq] at hv
    exact absurd hv.1 (by simp)
  · simp only [Value.slice.injEq, Option.some.injEq] at hv
    obtain ⟨hv, _, _⟩ := hv
    cases hv
    rcases ho.2 with ⟨hv', _⟩ | ⟨g2, cap', cur', hv', _, hgh', _⟩
    · simp only [Value.slice.injEq] at hv'
      obtain ⟨rfl, _, _⟩ := hv'
      simp [Value.ownBlock] at hx
    · simp only [Value.slice.injEq] at hv'
      obtain ⟨rfl, _, _⟩ := hv'
      simp only [Value.ownBlock, Option.some.injEq] at hx
      subst hx
      rw [hgh] at hgh'
      injection hgh' with hgh'
      injection hgh' with _ h2 _
      exact hte h2
theorem off_lenB {A : Option Addr} {n m : Nat} {row : Option Nat} (h : OffB A n row) (hm : n = 0 → m = 0) : OffB A m row := h.elim (fun e => .inl (hm e)) .inr
theorem snRows_ones (s : List Sn) : ∀ r ∈ snRows s, ∀ u ∈ r, u.oneCell' = true := fun r hr => by
  unfold snRows at hr
  obtain ⟨c, _, rfl⟩ := List.mem_map.1 hr
  simp [sncs, evL, Value.oneCell']
theorem rd_grown2 {w w' : World} {A : Option Addr} {sz : Nat} {R : List (List Value)} {row : Option Nat} (h : Rd w w.heap.size A sz R) (hg : w.grownBy w' row) (ho : OffB A R.length row) : Rd w' w'.heap.size A sz R := by
  rcases ho with ho | ho
  · intro hn; omega
  · exact Rd.grown h hg (Nat.le_refl _) fun b off e he => ho b off e he.symm
/-- The bus behind a Submit; nothing if it is refused. -/
def subR (l : List Cl) (k : Nat) (f : Fr) : List Cl := if (l.getD k zCl).subE f = 0 then subL l k f else []
theorem busSubmit_all (l : List Cl) (A : Option Addr) (c : Nat) (now : Int) (k : Nat) (f : Fr) (w : World) (hr : ClR w w.heap.size A l) (hk : k < l.length) (h4 : l.length ≤ 4) (hn0 : 0 ≤ now) (hn1 : now ≤ 1099511627776) (hok : AllOk l) (hid : f.id < 4294967296) :
    Calls Tryz.prog 6 #[.agg (busL A l.length c now).toArray, .int .i64 k, .agg (frc f).toArray] w fun e w' => ∃ A' c' now', e = .returned (.tuple #[.agg (busL A' (subR l k f).length c' now').toArray, .int .i64 ((l.getD k zCl).subE f)]) ∧ ClR w' w'.heap.size A' (subR l k f) ∧ Fresh w.heap.size A' ∧ ((l.getD k zCl).subE f = 0 → now' = now) ∧ Below w.heap.size w w' := by
  refine (busSubmit_in l A c now k f w hr hk h4 hn0 hn1 hok hid).mono ?_
  rintro e w' ⟨⟨h1, A', c', rfl, h2, h3⟩ | ⟨h1, rfl⟩, q⟩
  · have e : subR l k f = subL l k f := if_pos h1
    have el : (subL l k f).length = l.length := by unfold subL; rw [List.length_set]
    rw [e]
    exact ⟨A', c', now, by rw [h1, el], h2, h3, fun _ => rfl, q⟩
  · have e : subR l k f = [] := if_neg h1
    rw [e]
    exact ⟨none, 0, 0, rfl, fun h => absurd h (by simp), fun _ _ h => (by cases h), fun h => absurd h h1, q⟩
theorem subL_ok {l : List Cl} (h : AllOk l) {k : Nat} (hk : k < l.length) {f : Fr} (he : (l.getD k zCl).subE f = 0) : AllOk (subL l k f) := by
  intro d hd
  unfold subL at hd
  have e : l.getD k zCl = l[k] := by rw [List.getD_eq_getElem?_getD, List.getElem?_eq_getElem hk]; rfl
  rcases List.mem_or_eq_of_mem_set hd with hd | rfl
  · exact h d hd
  · rw [e] at he ⊢
    unfold Cl.subE at he
    unfold Cl.subC
    split at he
    · cases he
    · rename_i h1
      split at he
      · cases he
      · rename_i h2
        rw [if_neg h1, if_neg h2]
        exact (h _ (List.getElem_mem hk)).give (by simpa using h2) (by simpa using h1)
end Go.Proofs.YtkfedgjepiljiaaGreatDoor

/- Walks of ctl.out of any controller. -/
namespace Go.Proofs.YtkfedgjepiljiaaGreatDoor
open Go.ChangeShapes Go.WideShapes Go.ChangeAt Go.RowKit
open FP (Fr)

/-- Nothing of a frame is kept, as it is asked. -/
def outB (c : Cl) : Bool := !c.sends && ((c.out.toList == []) && ((c.at_ == 0) && ((c.last == 0 && c.sn == 0) && ((c.got.toList == []) && (!c.en && ((c.tail == 0) && !c.good))))))

set_option maxRecDepth 100000 in
set_option maxHeartbeats 8000000 in
theorem ctlOut_any (c : Cl) (w : World) : Calls Tryz.prog 15 #[.agg c.cs.toArray] w fun e w' => e = .returned (.bool (outB c)) ∧ Below w.heap.size w w' := by
  obtain ⟨w0, hw0⟩ : ∃ w0, w0 = w.alloc (.cells c.cs.toArray 33) := ⟨_, rfl⟩
  have B0 := hide (World.alloc_heap_new w (.cells c.cs.toArray 33))
  have Q0 : Hid (Below w.heap.size w w0) := by rw [hw0]; exact hide ((Below.refl _ _).alloc (Nat.le_refl _) _)
  rw [← hw0] at B0
  obtain ⟨_, _, _, d0, d1, d2, d3, d4, d5, d6, d7, d8⟩ := cl_cells B0.out
  obtain ⟨r, hr⟩ : ∃ r, r = outB c := ⟨_, rfl⟩
  rw [← hr]
  unfold outB at hr
  have HR := hide hr
  clear hr B0
  go_enter Tryz.func15, Tryz.ntmps15
  go_upto_region 1 with fail
  change Code.wp _ _ _ _ (w.alloc (.cells c.cs.toArray 33))
  rw [← hw0]
  clear hw0
  go_wp2_with fail
  all_goals go_ret
  all_goals (refine ⟨?_, Q0.out⟩; rw [HR.out]; simp [*])

/-- What stuffing knows may be. -/
def stB (last : UInt8) (n : Int) : Bool := if last = 0 then n == 0 else (last == 48 || last == 49) && (decide (1 ≤ n) && decide (n ≤ 5))
theorem stB_iff {last : UInt8} {n : Int} : stB last n = true ↔ (n = 0 ∧ last = 0) ∨ ((last = 48 ∨ last = 49) ∧ 1 ≤ n ∧ n ≤ 5) := by
  unfold stB
  by_cases h : last = 0
  · subst h; simp
  · rw [if_neg h]; simp [h]
set_option maxRecDepth 100000 in
set_option maxHeartbeats 1000000 in
theorem stBit_all (c : UInt8) (w : World) : Calls Tryz.prog 37 #[.int .u8 c.toNat] w fun e w' => e = .returned (.bool (c == 48 || c == 49)) ∧ w' = w := by
  by_cases h : c = 48 ∨ c = 49
  · have e : (c == 48 || c == 49) = true := by rcases h with rfl | rfl <;> rfl
    rw [e]
    exact (stBit_any c w h).mono fun e w' hh => ⟨hh.1, hh.2.symm⟩
  · have h1 : ((c.toNat : Int) == 48) = false := by
      rw [beq_eq_false_iff_ne]
      intro e
      exact h (.inl (UInt8.toNat_inj.1 (by show c.toNat = 48; omega)))
    have h2 : ((c.toNat : Int) == 49) = false := by
      rw [beq_eq_false_iff_ne]
      intro e
      exact h (.inr (UInt8.toNat_inj.1 (by show c.toNat = 49; omega)))
    have e : (c == 48 || c == 49) = false := by
      simp only [Bool.or_eq_false_iff, beq_eq_false_iff_ne]
      exact ⟨fun e => h (.inl e), fun e => h (.inr e)⟩
    rw [e]
    clear h e
    go_enter Tryz.func37, Tryz.ntmps37
    go_wp2
    go_ret
    exact ⟨rfl, rfl⟩
set_option maxRecDepth 100000 in
set_option maxHeartbeats 1000000 in
theorem stRight_all (last : UInt8) (n : Int) (w : World) : Calls Tryz.prog 24 #[.agg #[.int .u8 last.toNat, .int .i64 n]] w fun e w' => e = .returned (.bool (stB last n)) ∧ Below w.heap.size w w' := by
  have q0 : Below w.heap.size w (w.alloc (.cells #[.int .u8 last.toNat, .int .i64 n] 31)) := (Below.refl _ _).alloc (Nat.le_refl _) _
  have BB := hide (fun W => stBit_all last W)
  by_cases h0 : last = 0
  · have e : stB last n = (n == 0) := by unfold stB; rw [if_pos h0]
    rw [e]
    subst h0
    clear BB e
    go_enter Tryz.func24, Tryz.ntmps24
    go_wp2_with fail
    go_ret
    exact ⟨rfl, q0⟩
  · have e0 : ((last.toNat : Int) == 0) = false := by
      rw [beq_eq_false_iff_ne]
      intro e
      exact h0 (UInt8.toNat_inj.1 (by show last.toNat = 0; omega))
    have e : stB last n = ((last == 48 || last == 49) && (decide (1 ≤ n) && decide (n ≤ 5))) := by unfold stB; rw [if_neg h0]
    rw [e]
    generalize (last == 48 || last == 49) = lb at *
    clear h0 e
    go_enter Tryz.func24, Tryz.ntmps24
    go_wp2_with fail
    refine (BB.out _).mono ?_
    rintro e1 w1 ⟨rfl, rfl⟩
    cases lb
    all_goals go_wp2_with fail
    all_goals go_ret
    all_goals exact ⟨by simp [*] <;> omega, q0⟩
end Go.Proofs.YtkfedgjepiljiaaGreatDoor

/- The walk of ctl.in of any controller: where the first chain says no. -/
namespace Go.Proofs.YtkfedgjepiljiaaGreatDoor
open Go.ChangeShapes Go.WideShapes Go.ChangeAt Go.RowKit
open FP (Fr uN uK doneB sizeE sizeV goodB bitsF bodyF RS rsOf)

/-- The first chain. -/
def inA (c : Cl) : Bool := decide (1 ≤ c.got.size) && (decide (c.got.size ≤ 200) && (bitRow c.g && (decide (c.g[0]? = some 48) && (!decide (sizeE c.g = 12) && (stB c.L c.sn && decide (1 ≤ c.sn))))))
theorem size_all (s : ByteArray) (hs : s.size ≤ 4000) : ∃ v e : Int, (∀ W, Calls Tryz.prog 22 #[.string s] W fun x w' => x = .returned (.tuple #[.int .i64 v, .int .i64 e]) ∧ Below W.heap.size W w') ∧ (bitRow s.data.toList = true → e = (sizeE s.data.toList : Nat)) := by
  cases hb : bitRow s.data.toList
  · exact ⟨0, 1, fun W => frSize_no s W (by unfold maxLen; omega) hb, fun h => by cases h⟩
  · exact ⟨_, _, fun W => frSize_any s W (bitRow_iff.1 hb).2 hs, fun _ => rfl⟩

set_option maxRecDepth 100000 in
set_option maxHeartbeats 32000000 in
theorem ctlIn_noA (c : Cl) (w : World) (hL : c.last = (c.L.toNat : Int)) (hs : c.got.size ≤ 300) (h : inA c = false) : Calls Tryz.prog 14 #[.agg c.cs.toArray] w fun e w' => e = .returned (.bool false) ∧ Below w.heap.size w w' := by
  have hsz : c.g.length = c.got.size := Array.length_toList
  obtain ⟨sv, se, SZ0, hse⟩ := size_all c.got (by omega)
  have SZ := hide SZ0
  have BR := hide (fun W => show Calls Tryz.prog 23 #[.string c.got] W fun e w' => e = .returned (.bool (bitRow c.g)) ∧ Below W.heap.size W w' from bitsRight_any c.got W (by unfold maxLen; omega))
  have SR := hide (fun W => stRight_all c.L c.sn W)
  have HSE := hide (show bitRow c.g = true → se = (sizeE c.g : Nat) from hse)
  have HA := hide h
  have HL := hide hL
  obtain ⟨w0, hw0⟩ : ∃ w0, w0 = w.alloc (.cells c.cs.toArray 33) := ⟨_, rfl⟩
  have B := hide (World.alloc_heap_new w (.cells c.cs.toArray 33))
  have Q : Hid (Below w.heap.size w w0) := by rw [hw0]; exact hide ((Below.refl _ _).alloc (Nat.le_refl _) _)
  rw [← hw0] at B
  have HZ := hide hsz
  clear h hL SZ0 hse hsz
  obtain ⟨-, -, -, d14, d15, d16, d17, d18, d19, d20, d21, d22⟩ := cl_cells B.out
  go_enter Tryz.func14, Tryz.ntmps14
  go_upto_region 1 with fail
  change Code.wp _ _ _ _ (w.alloc (.cells c.cs.toArray 33))
  rw [← hw0]
  clear hw0
  go_wp2_with fail
  (with_reducible refine (SZ.out _).mono ?_)
  rintro e1 w1 ⟨rfl, q⟩
  replace B := hide (heap_below B.out q)
  replace Q := hide (below_next Q.out Q.out.size q)
  clear q SZ d14 d15 d16 d17 d18 d19 d20 d21 d22
  obtain ⟨-, -, -, d14, d15, d16, d17, d18, d19, d20, d21, d22⟩ := cl_cells B.out
  rw [HL.out] at d17
  by_cases h1 : c.got.size < 1
  · have i1 : (c.got.size : Int) < 1 := by omega
    clear h1
    go_wp2_with fail
    go_ret
    exact ⟨rfl, Q.out⟩
  have i1 : (1 : Int) ≤ c.got.size := by omega
  by_cases h2 : 200 < c.got.size
  · have i2 : (200 : Int) < c.got.size := by omega
    clear h2
    go_wp2_with fail
    go_ret
    exact ⟨rfl, Q.out⟩
  have i2 : (c.got.size : Int) ≤ 200 := by omega
  have hs0 : 0 < c.got.size := by omega
  have hg0 := hide (get_some c.got 0 hs0)
  rcases hb : bitRow c.g with _ | _
  · rw [hb] at BR
    clear hb
    go_wp2_with fail
    (with_reducible refine (BR.out _).mono ?_)
    rintro _ wx2 ⟨rfl, q⟩
    replace B := hide (heap_below B.out q)
    replace Q := hide (below_next Q.out Q.out.size q)
    clear q BR d14 d15 d16 d17 d18 d19 d20 d21 d22
    obtain ⟨-, -, -, d14, d15, d16, d17, d18, d19, d20, d21, d22⟩ := cl_cells B.out
    rw [HL.out] at d17
    go_wp2_with fail
    go_ret
    exact ⟨rfl, Q.out⟩
  rw [hb] at BR
  have hse := HSE.out hb
  have HB := hide hb
  clear hb HSE
  subst hse
  go_wp2_with fail
  (with_reducible refine (BR.out _).mono ?_)
  rintro _ wx1 ⟨rfl, q⟩
  replace B := hide (heap_below B.out q)
  replace Q := hide (below_next Q.out Q.out.size q)
  clear q BR d14 d15 d16 d17 d18 d19 d20 d21 d22
  obtain ⟨-, -, -, d14, d15, d16, d17, d18, d19, d20, d21, d22⟩ := cl_cells B.out
  rw [HL.out] at d17
  by_cases h4 : c.got[0]'hs0 = 48
  case neg =>
    have f0 : (((c.got[0]'hs0).toNat : Int) != 48) = true := by
      rw [bne_iff_ne]
      intro q
      exact h4 (UInt8.toNat_inj.1 (by show (c.got[0]'hs0).toNat = 48; omega))
    clear h4
    go_wp2_with fail
    go_ret
    exact ⟨rfl, Q.out⟩
  have f0 : (((c.got[0]'hs0).toNat : Int) != 48) = false := by rw [h4]; rfl
  by_cases h5 : sizeE c.g = 12
  · have e12 : ((sizeE c.g : Nat) : Int) = 12 := by rw [h5]; rfl
    clear h4 h5 HA
    generalize ((sizeE c.g : Nat) : Int) = z at *
    subst e12
    go_wp2_with fail
    go_ret
    exact ⟨rfl, Q.out⟩
  have hne : ¬ ((sizeE c.g : Nat) : Int) = 12 := by omega
  have e12 : (((sizeE c.g : Nat) : Int) == 12) = false := by rw [beq_eq_false_iff_ne]; exact hne
  have H4 := hide h4
  have H5 := hide h5
  clear h4 h5
  rcases hst : stB c.L c.sn with _ | _
  · rw [hst] at SR
    clear hst
    go_wp2_with fail
    (with_reducible refine (SR.out _).mono ?_)
    rintro _ wx2 ⟨rfl, q⟩
    replace B := hide (heap_below B.out q)
    replace Q := hide (below_next Q.out Q.out.size q)
    clear q SR d14 d15 d16 d17 d18 d19 d20 d21 d22
    obtain ⟨-, -, -, d14, d15, d16, d17, d18, d19, d20, d21, d22⟩ := cl_cells B.out
    rw [HL.out] at d17
    go_wp2_with fail
    go_ret
    exact ⟨rfl, Q.out⟩
  rw [hst] at SR
  have HST := hide hst
  clear hst
  go_wp2_with fail
  (with_reducible refine (SR.out _).mono ?_)
  rintro _ wx1 ⟨rfl, q⟩
  replace B := hide (heap_below B.out q)
  replace Q := hide (below_next Q.out Q.out.size q)
  clear q SR d14 d15 d16 d17 d18 d19 d20 d21 d22
  obtain ⟨-, -, -, d14, d15, d16, d17, d18, d19, d20, d21, d22⟩ := cl_cells B.out
  rw [HL.out] at d17
  by_cases h7 : c.sn < 1
  · skip
    go_wp2_with fail
    go_ret
    exact ⟨rfl, Q.out⟩
  · exfalso
    have hA := HA.out
    unfold inA at hA
    have hg : c.g[0]? = some 48 := by rw [show c.g[0]? = some (c.got[0]'hs0) from hg0.out, H4.out]
    rw [decide_eq_true (by omega : 1 ≤ c.got.size), decide_eq_true (by omega : c.got.size ≤ 200), HB.out, decide_eq_true hg, decide_eq_false H5.out, HST.out, decide_eq_true (by omega : 1 ≤ c.sn)] at hA
    cases hA
end Go.Proofs.YtkfedgjepiljiaaGreatDoor
