import Derived.Test.YtkmddjbialpppaaGreatDoorMgPdB
import Derived.Test.YtkmddjbialpppaaGreatDoorMem
import Derived.Ground.NamesProg
import Derived.Shelf.Strings.Repeat
import Derived.Test.YtkmddjbialpppaaGreatDoorChecked
import Derived.Test.YtkmddjbialpppaaGreatDoorMgSgA
import Derived.Test.YtkmddjbialpppaaGreatDoorMgFin
import Derived.Maps.OwnOps
import Derived.Maps.OwnSet
import Derived.Test.YtkmddjbialpppaaGreatDoorMgSgC
import Derived.Laws.BitsAllLaws
import Derived.Test.YtkmddjbialpppaaGreatDoorMgSnB
namespace Go.Proofs.YtkmddjbialpppaaGreatDoor
open Go.ChangeShapes Go.WideShapes Go.ChangeAt Go.RowKit
open SG PD
def boRow (l : List Bool) : List (List Value) := l.map fun x => [Value.bool x]
def BoR (w : World) (B : Nat) (A : Option Addr) (l : List Bool) : Prop := Rd w B A 1 (boRow l)
end Go.Proofs.YtkmddjbialpppaaGreatDoor
namespace Go.Proofs.YtkmddjbialpppaaGreatDoor
open Go.ChangeShapes Go.WideShapes Go.ChangeAt Go.RowKit
structure Ap1 (w w' : World) (base : Nat) (e : TypeId) (sz : Nat) (A : Option Addr) (c : Nat) (rows : List (List Value)) (row : List Value) (A' : Option Addr) (c' : Nat) : Prop where
  own : Own w' base e sz A' c' (rows ++ [row])
  old : Own w base e sz A c rows
  below : Below base w w'
  base : base ≤ w.heap.size
  grown : (w.alloc (.cells row.toArray e)).grownBy w' (Value.slice A rows.length c).ownBlock
theorem Ap1.q {w w' : World} {base : Nat} {e : TypeId} {sz : Nat} {A : Option Addr} {c : Nat} {rows : List (List Value)} {row : List Value} {A' : Option Addr} {c' : Nat} (h : Ap1 w w' base e sz A c rows row A' c') {B : Nat} {W : World} (hb : Below B W w) (hB : B ≤ base) : Below B W w' := hb.trans (h.below.mono hB)
theorem Ap1.heap {w w' : World} {base : Nat} {e : TypeId} {sz : Nat} {A : Option Addr} {c : Nat} {rows : List (List Value)} {row : List Value} {A' : Option Addr} {c' : Nat} (h : Ap1 w w' base e sz A c rows row A' c')
    {x : Nat} {cs : Array Value} {t : TypeId} {fz : Nat × Nat} (hx : w.heap[x]? = some (.cells cs t fz)) (hte : t ≠ e) : w'.heap[x]? = some (.cells cs t fz) :=
  heap_grown (aB hx ((Below.refl _ _).alloc (Nat.le_refl _) (.cells row.toArray e))) hte (h.old.alloc _) h.grown
section
variable {P : Program} {ops : Array Oper} {rest : List Oper} {o : Oper} {a : Act} {Q : Exit → Act → World → Prop}
theorem ap1_side (w : World) {e sz : Nat} (row : List Value) (hr : row.length = sz) :
    Rd (w.alloc (.cells row.toArray e)) (w.alloc (.cells row.toArray e)).heap.size (some ⟨w.heap.size, 0, none⟩) sz [row] := by
  have := Rd.new w [row] sz e (0, 0) (by simpa using hr)
  simpa using this
theorem cX (w : World) (cs : Array Value) (row : List Value) (hcs : cs = row.toArray) (hgd : o.guard = none) (s x : Operand) (t : TypeId)
    (ho : o.op = .call { callee := .builtin .append, args := #[s, x], argTypes := #[t, t] })
    {e : TypeId} {sz bytes : Nat} (T : SlT P t e sz bytes) (hby : bytes ≤ 4096) (hr : row.length = sz) (h1 : ∀ u ∈ row, u.oneCell' = true) (base : Nat) (A : Option Addr) (N c : Nat) (rows : List (List Value)) (hs : a.eval s = .slice A N c) (hown : Own w base e sz A c rows)
    (d : Nat) (hx : a.eval x = .slice (some ⟨w.heap.size, 0, none⟩) 1 d)
    (hl : rows.length ≤ 1000000000) (hbase : base ≤ w.heap.size) (hN : N = rows.length)
    (h : ∀ A' c' w', Ap1 w w' base e sz A c rows row A' c' → wpList P ops Q rest (a.put o.dst (.slice A' (N + 1) c')) w') : wpList P ops Q (o :: rest) a (w.alloc (.cells cs e)) := by
  subst hcs
  have hN2 := hN
  subst hN
  have q : Below w.heap.size w (w.alloc (.cells row.toArray e)) := (Below.refl _ _).alloc (Nat.le_refl _) _
  refine cU _ hgd s x t ho T base A rows.length c rows hs (hown.alloc _) _ 1 d [row] hx (ap1_side w row hr) (by simpa using hr) (by simpa using h1)
    (Nat.le_trans (Nat.mul_le_mul (show rows.length + [row].length ≤ 1000000001 by simp; omega) hby) (by decide)) (by simp [maxLen]; omega) (by simp; omega) rfl rfl ?_
  intro A' c' w' o1 g1
  exact h A' c' w' ⟨o1, hown, (q.mono hbase).trans (jK g1 (hown.alloc _) (by simp; omega)), hbase, g1⟩
end
end Go.Proofs.YtkmddjbialpppaaGreatDoor
namespace Go.Proofs.YtkmddjbialpppaaGreatDoor
open Go.ChangeShapes Go.WideShapes Go.ChangeAt Go.RowKit Go.Maps
theorem i64_wf {x : Int} (h0 : 0 ≤ x) (h1 : x ≤ 1000000) : (Lit.int .i64 x).wf = true := by
  simp [Lit.wf, IntKind.min, IntKind.max, IntKind.bits, IntKind.signed]
  omega
end Go.Proofs.YtkmddjbialpppaaGreatDoor
namespace Go.Proofs.YtkmddjbialpppaaGreatDoor
open Go.ChangeShapes Go.WideShapes Go.ChangeAt Go.RowKit
open SG PD
theorem slInt64 : SlT Tryz.prog 68 2 1 8 := SlT.mk Tryz.underlying68 (z := .int .i64 0) (by kernel_rfl) rfl (by decide)
theorem inRow_len (l : List Int) : (eS l).length = l.length := by simp [eS]
theorem inRow_rows (l : List Int) : ∀ r ∈ eS l, r.length = 1 := by
  intro r hr
  obtain ⟨p, _, rfl⟩ := List.mem_map.1 hr
  rfl
theorem made_bools (w : World) (n : Nat) : BoR (w.alloc (.cells (madeCells #[.bool false] n) 4)) (w.alloc (.cells (madeCells #[.bool false] n) 4)).heap.size (some ⟨w.heap.size, 0, none⟩) (List.replicate n false) := fun hn => by
  have hm := World.rowIs_made w (.bool false) n 4
  refine ⟨w.heap.size, 0, rfl, by simp, fun k row j v hk hj => ?_⟩
  have hkn : k < n := by
    have := (List.getElem?_eq_some_iff.1 hk).1
    simpa [boRow] using this
  have hr : row = [.bool false] := by
    have h2 : (boRow (List.replicate n false))[k]? = some [.bool false] := by simp [boRow, hkn]
    rw [hk] at h2
    exact Option.some.inj h2
  subst hr
  match j, hj with
  | 0, hj =>
    simp only [List.getElem?_cons_zero, Option.some.injEq] at hj
    subst hj
    have := hm.cell hkn
    simpa using this
theorem inOwn_rd {W : World} {base : Nat} {A : Option Addr} {c : Nat} {l : List Int} {e : TypeId} (h : Own W base e 1 A c (eS l)) : InR W W.heap.size A l := h.rd (inRow_rows _)
end Go.Proofs.YtkmddjbialpppaaGreatDoor
namespace Go.Proofs.YtkmddjbialpppaaGreatDoor
open Go.ChangeShapes Go.WideShapes Go.ChangeAt Go.RowKit
open CM PD SG
set_option maxRecDepth 100000 in
set_option maxHeartbeats 8000000 in
theorem jU (f : Wt) (w : World) : Calls Tryz.prog 83 #[.agg #[.int .i64 f.first, .int .i64 f.each, .int .i64 f.left, .bool f.on, .bool f.late]] w fun e w' => e = .returned (.bool (wtB f)) ∧ Below w.heap.size w w' := by
  obtain ⟨r, hr⟩ : ∃ r, r = wtB f := ⟨_, rfl⟩
  have HR := aA (show r = true ↔ 0 ≤ f.first ∧ f.first ≤ 1000000 ∧ 0 ≤ f.each ∧ f.each ≤ 1000000 ∧ 0 ≤ f.left ∧ f.left ≤ max f.first f.each ∧ (f.on = true ∨ f.left = 0 ∧ f.late = false) ∧ (f.late = false ∨ f.left = 0) from by rw [hr]; unfold wtB; rw [decide_eq_true_eq])
  rw [← hr]
  clear hr
  obtain ⟨first, each, left, on, late⟩ := f
  dsimp only at *
  obtain ⟨m, em, hm⟩ := run_max (P := Tryz.prog) first each
  have EM := aA em
  have HMX := aA (show (if first ≤ each then each else first) = max first each by split <;> omega)
  rw [← em] at HR
  clear em
  have q0 : Below w.heap.size w (w.alloc (.cells #[.int .i64 first, .int .i64 each, .int .i64 left, .bool on, .bool late] 100)) := (Below.refl _ _).alloc (Nat.le_refl _) _
  by_cases h0 : left = 0
  · have e1 : (left == 0) = true := by rw [beq_iff_eq]; exact h0
    have H := aA h0
    clear h0
    cases on <;> cases late
    all_goals go_enter Tryz.func83, Tryz.ntmps83
    all_goals go_wp2_with fail
    all_goals have h8 := H.out
    all_goals have h9 : m = max first each := EM.out
    all_goals have h10 := HMX.out
    all_goals generalize (if first ≤ each then each else first) = mm at *
    all_goals go_ret
    all_goals refine ⟨aV ?_, q0⟩
    all_goals have HX := HR.out
    all_goals simp only [Bool.false_eq_true, reduceCtorEq, false_or, and_true, true_and, and_false, false_and, or_false, true_or] at HX
    all_goals (first | exact cA HX (by omega) | exact bI HX (by omega) | exact bI HX (by simp) | exact dV HX (by omega))
  · have e1 : (left == 0) = false := by rw [beq_eq_false_iff_ne]; exact h0
    have H := aA h0
    clear h0
    cases on <;> cases late
    all_goals go_enter Tryz.func83, Tryz.ntmps83
    all_goals go_wp2_with fail
    all_goals have h8 := H.out
    all_goals have h9 : m = max first each := EM.out
    all_goals have h10 := HMX.out
    all_goals generalize (if first ≤ each then each else first) = mm at *
    all_goals go_ret
    all_goals refine ⟨aV ?_, q0⟩
    all_goals have HX := HR.out
    all_goals simp only [Bool.false_eq_true, reduceCtorEq, false_or, and_true, true_and, and_false, false_and, or_false, true_or] at HX
    all_goals (first | exact cA HX (by omega) | exact bI HX (by omega) | exact bI HX (by simp) | exact dV HX (by omega))
end Go.Proofs.YtkmddjbialpppaaGreatDoor
namespace Go.Proofs.YtkmddjbialpppaaGreatDoor
open Go.ChangeShapes Go.WideShapes Go.ChangeAt Go.RowKit
open CM PD SG
attribute [local go_sem] run_eql_nil
def cQ (f : Wt) : List Value := [.int .i64 f.first, .int .i64 f.each, .int .i64 f.left, .bool f.on, .bool f.late]
def zWt : Wt := ⟨0, 0, 0, false, false⟩
def newWt (a b : Int) : Wt := if wtB ⟨a, b, 0, false, false⟩ = true then ⟨a, b, 0, false, false⟩ else zWt
def newWtE (a b : Int) : Int := if wtB ⟨a, b, 0, false, false⟩ = true then 0 else 1
set_option maxRecDepth 100000 in
set_option maxHeartbeats 8000000 in
theorem recvNew_any (a b : Int) (w : World) : Calls Tryz.prog 128 #[.int .i64 a, .int .i64 b] w fun e w' => e = .returned (.tuple #[.agg (cQ (newWt a b)).toArray, .int .i64 (newWtE a b)]) ∧ Below w.heap.size w w' := by
  have RT := aA (fun W => show Calls Tryz.prog 83 #[.agg (cQ ⟨a, b, 0, false, false⟩).toArray] W fun e w' => e = .returned (.bool (wtB ⟨a, b, 0, false, false⟩)) ∧ Below W.heap.size W w' from jU ⟨a, b, 0, false, false⟩ W)
  obtain ⟨R, hR⟩ : ∃ R, R = wtB ⟨a, b, 0, false, false⟩ := ⟨_, rfl⟩
  obtain ⟨V, hV⟩ : ∃ V, V = newWt a b := ⟨_, rfl⟩
  obtain ⟨E, hE⟩ : ∃ E, E = newWtE a b := ⟨_, rfl⟩
  rw [← hV, ← hE]
  unfold newWt at hV
  unfold newWtE at hE
  rw [← hR] at hV hE RT
  have HV := aA hV
  have HE := aA hE
  clear hV hE hR
  have a1 := (Below.refl _ _).alloc (Nat.le_refl w.heap.size) (.cells (cQ zWt).toArray 100)
  have b1 := World.alloc_heap_new w (.cells (cQ zWt).toArray 100)
  have z1 : (w.alloc (.cells (cQ zWt).toArray 100)).heap.size = w.heap.size + 1 := by simp
  have a2 := (Below.refl _ (w.alloc (.cells (cQ zWt).toArray 100))).alloc (Nat.le_refl _) (.cells (cQ zWt).toArray 100)
  have b2 := World.alloc_heap_new (w.alloc (.cells (cQ zWt).toArray 100)) (.cells (cQ zWt).toArray 100)
  have A0 := aA (aB b1 a2)
  have B0 := aA b2
  have Q0 := aA (aC a1 a1.size a2)
  rw [z1] at B0
  clear a1 a2 b1 b2 z1
  have TH := aA (show ((w.alloc (.cells (cQ zWt).toArray 100)).alloc (.cells (cQ zWt).toArray 100)).there (w.heap.size + 1) 0 5 from aK (cs := cQ zWt) B0.out)
  go_enter Tryz.func128, Tryz.ntmps128
  go_wp2_with (refine aF (by rfl) 100 (.tmp 6) (.tmp 9) (by rfl) (w.heap.size + 1) 0 (cQ ⟨a, b, 0, false, false⟩) (by rfl) (by rfl) (by exact TH.out) (by kernel_rfl) (by simp [Value.oneCell', cQ]) ?_)
  intro w1 e1
  have B1 := aA (show w1.heap[w.heap.size + 1]? = some (.cells (cQ ⟨a, b, 0, false, false⟩).toArray 100 (0, 0)) by rw [e1.out]; exact aJ (cQ ⟨a, b, 0, false, false⟩) (xs := cQ zWt) B0.out rfl)
  have A1 := aA (show w1.heap[w.heap.size]? = some (.cells (cQ zWt).toArray 100 (0, 0)) by rw [e1.out]; exact aG (x := w.heap.size) (b := w.heap.size + 1) (by omega) _ 0 _ A0.out)
  have Q1 := aA (show Below w.heap.size w w1 by rw [e1.out]; exact Q0.out.trans (aE (g := w.heap.size + 1) _ 0 _ (by omega)))
  clear e1 TH A0 B0 Q0
  go_wp2_with (refine wpList_load_row rfl 100 (.tmp 6) (by rfl) (w.heap.size + 1) (by rfl) 100 (cQ ⟨a, b, 0, false, false⟩).toArray (0, 0) _ (by exact B1.out) Tryz.underlying100 (by rfl) (by kernel_rfl) ?_)
  (with_reducible refine (RT.out _).mono ?_)
  rintro e2 w2 ⟨rfl, q2⟩
  have A2 := aA (aB A1.out q2)
  have B2 := aA (aB B1.out q2)
  have Q2 := aA (aC Q1.out Q1.out.size q2)
  clear A1 B1 Q1 q2 RT
  have TH := aA (show w2.there w.heap.size 0 5 from aK (cs := cQ zWt) A2.out)
  cases R with
  | false =>
    go_wp2_with (refine aF (by rfl) 100 (.tmp 4) (.tmp 13) (by rfl) w.heap.size 0 (cQ zWt) (by rfl) (by rfl) (by exact TH.out) (by kernel_rfl) (by simp [Value.oneCell', cQ]) ?_)
    intro w3 e3
    have A3 := aA (show w3.heap[w.heap.size]? = some (.cells (cQ zWt).toArray 100 (0, 0)) by rw [e3.out]; exact aJ (cQ zWt) (xs := cQ zWt) A2.out rfl)
    have Q3 := aA (show Below w.heap.size w w3 by rw [e3.out]; exact Q2.out.trans (aE (g := w.heap.size) _ 0 _ (Nat.le_refl _)))
    have E1 := aA (show V = zWt by rw [HV.out]; simp)
    have E2 := aA (show E = 1 by rw [HE.out]; simp)
    clear e3 TH A2 B2 Q2 HV HE
    go_wp2_with fail
    refine bodyPost_ret (aP (by rfl) _ w3 w.heap.size 100 (cQ zWt).toArray (0, 0) _ (.int .i64 1) (by rfl) (by rfl) A3.out Tryz.underlying100 (by rfl) (by kernel_rfl)) rfl ⟨by rw [E1.out, E2.out], Q3.out⟩
  | true =>
    go_wp2_with (first | (refine wpList_load_row rfl 100 (.tmp 6) (by rfl) (w.heap.size + 1) (by rfl) 100 (cQ ⟨a, b, 0, false, false⟩).toArray (0, 0) _ (by exact B2.out) Tryz.underlying100 (by rfl) (by kernel_rfl) ?_) | (refine aF (by rfl) 100 (.tmp 4) (.tmp 14) (by rfl) w.heap.size 0 (cQ ⟨a, b, 0, false, false⟩) (by rfl) (by rfl) (by exact TH.out) (by kernel_rfl) (by simp [Value.oneCell', cQ]) ?_))
    intro w3 e3
    have A3 := aA (show w3.heap[w.heap.size]? = some (.cells (cQ ⟨a, b, 0, false, false⟩).toArray 100 (0, 0)) by rw [e3.out]; exact aJ (cQ ⟨a, b, 0, false, false⟩) (xs := cQ zWt) A2.out rfl)
    have Q3 := aA (show Below w.heap.size w w3 by rw [e3.out]; exact Q2.out.trans (aE (g := w.heap.size) _ 0 _ (Nat.le_refl _)))
    have E1 := aA (show V = ⟨a, b, 0, false, false⟩ by rw [HV.out]; simp)
    have E2 := aA (show E = 0 by rw [HE.out]; simp)
    clear e3 TH A2 B2 Q2 HV HE
    go_wp2_with fail
    refine bodyPost_ret (aP (by rfl) _ w3 w.heap.size 100 (cQ ⟨a, b, 0, false, false⟩).toArray (0, 0) _ (.int .i64 0) (by rfl) (by rfl) A3.out Tryz.underlying100 (by rfl) (by kernel_rfl)) rfl ⟨by rw [E1.out, E2.out], Q3.out⟩
def iL (n : Nat) : Bool := decide (1 ≤ n ∧ n ≤ 16)
set_option maxRecDepth 100000 in
theorem rowMay_any (A : Option Addr) (n c : Nat) (w : World) : Calls Tryz.prog 150 #[.slice A n c] w fun e w' => e = .returned (.bool (iL n)) ∧ w = w' := by
  obtain ⟨r, hr⟩ : ∃ r, r = iL n := ⟨_, rfl⟩
  have HR := aA (show r = true ↔ 1 ≤ n ∧ n ≤ 16 from by rw [hr]; unfold iL; simp)
  rw [← hr]
  clear hr
  go_enter Tryz.func150, Tryz.ntmps150
  go_wp2_with fail
  all_goals go_ret
  all_goals refine ⟨aV ?_, rfl⟩
  all_goals (first | exact cA HR.out (by omega) | exact bI HR.out (by omega) | exact dV HR.out (by omega))
def grB (n m : Nat) (times : Int) : Bool := iL n && (decide (m = n) && decide (0 ≤ times ∧ times ≤ 1099511627776))
set_option maxRecDepth 100000 in
set_option maxHeartbeats 4000000 in
theorem grRight_any (S G : Option Addr) (n c m d : Nat) (times : Int) (w : World) : Calls Tryz.prog 96 #[.agg #[.slice S n c, .slice G m d, .int .i64 times]] w fun e w' => e = .returned (.bool (grB n m times)) ∧ Below w.heap.size w w' := by
  obtain ⟨r, hr⟩ : ∃ r, r = grB n m times := ⟨_, rfl⟩
  have HR := aA (show r = true ↔ iL n = true ∧ m = n ∧ 0 ≤ times ∧ times ≤ 1099511627776 from by rw [hr]; unfold grB; simp)
  rw [← hr]
  clear hr
  have RM := aA (fun W => rowMay_any S n c W)
  generalize iL n = y at *
  have q0 : Below w.heap.size w (w.alloc (.cells #[.slice S n c, .slice G m d, .int .i64 times] 70)) := (Below.refl _ _).alloc (Nat.le_refl _) _
  have B0 := World.alloc_heap_new w (.cells #[.slice S n c, .slice G m d, .int .i64 times] 70)
  obtain ⟨c0, c1, c2⟩ := bK B0
  have Q0 := aA q0
  clear q0 B0
  generalize hw0 : w.alloc (.cells #[.slice S n c, .slice G m d, .int .i64 times] 70) = w0 at *
  cases y with
  | false =>
    go_enter Tryz.func96, Tryz.ntmps96
    go_wp2_with fail
    (with_reducible refine (RM.out _).mono ?_)
    rintro e1 w1 ⟨rfl, rfl⟩
    go_wp2_with fail
    go_ret
    exact ⟨aV (bI HR.out (by simp)), Q0.out⟩
  | true =>
    by_cases hm : m = n
    · have e1 : ((m : Int) == (n : Int)) = true := by rw [beq_iff_eq]; omega
      have HM := aA hm
      clear hm
      go_enter Tryz.func96, Tryz.ntmps96
      go_wp2_with fail
      (with_reducible refine (RM.out _).mono ?_)
      rintro e1 w1 ⟨rfl, rfl⟩
      have HX : Hid (r = true ↔ 0 ≤ times ∧ times ≤ 1099511627776) := aA (by have := HR.out; simp only [true_and, HM.out] at this; exact this)
      go_wp2_with fail
      all_goals go_ret
      all_goals refine ⟨aV ?_, Q0.out⟩
      all_goals (first | exact cA HX.out (by omega) | exact bI HX.out (by omega) | exact dV HX.out (by omega))
    · have e1 : ((m : Int) == (n : Int)) = false := by rw [beq_eq_false_iff_ne]; omega
      have HM := aA hm
      clear hm
      go_enter Tryz.func96, Tryz.ntmps96
      go_wp2_with fail
      (with_reducible refine (RM.out _).mono ?_)
      rintro e1 w1 ⟨rfl, rfl⟩
      go_wp2_with fail
      go_ret
      exact ⟨aV (bI HR.out (fun h => HM.out h.2.1)), Q0.out⟩
set_option maxRecDepth 100000 in
set_option maxHeartbeats 4000000 in
theorem cloneI_any (l : List Int) (A : Option Addr) (c : Nat) (w : World) (hr : InR w w.heap.size A l) (hl : l.length ≤ 1000000) :
    Calls Tryz.prog 202 #[.slice A l.length c] w fun e w' => (∃ A' c', e = .returned (.slice A' l.length c') ∧ Own w' w.heap.size 2 1 A' c' (eS l)) ∧ Below w.heap.size w w' := by
  cases A with
  | none =>
    have h0 : l = [] := by
      cases l with
      | nil => rfl
      | cons x t =>
        obtain ⟨b, off, he, _⟩ := hr (by simp [eS])
        cases he
    subst h0
    clear hr
    go_enter Tryz.func202, Tryz.ntmps202
    go_wp2_with fail
    go_ret
    exact ⟨⟨none, 0, rfl, Own.nil⟩, Below.refl _ _⟩
  | some a =>
    have q5 : Below w.heap.size w (w.alloc (.cells #[] 2)) := (Below.refl _ _).alloc (Nat.le_refl _) _
    have O5 := aA (Own.lit w w.heap.size 2 1 [] (Nat.le_refl _) (by simp) (by simp))
    have RD5 := aA (Rd.more (Rd.below hr q5) q5.size)
    have E1 := aA (show (([] : List (List Value)).length + (eS l).length) * 8 ≤ 140737488355328 by rw [inRow_len]; simp; omega)
    have E2 := aA (show ([] : List (List Value)).length + (eS l).length ≤ maxLen by rw [inRow_len]; simp [maxLen]; omega)
    have E3 := aA (show l.length = (eS l).length by rw [inRow_len])
    have E4 := aA (show w.heap.size ≤ (w.alloc (.cells #[] 2)).heap.size by simp)
    have E6 := aA (show ∀ r ∈ eS l, ∀ u ∈ r, u.oneCell' = true from fun r hr u hu => by
      obtain ⟨x, _, rfl⟩ := List.mem_map.1 hr
      rw [List.mem_singleton.1 hu]
      rfl)
    clear hr hl
    go_enter Tryz.func202, Tryz.ntmps202
    go_wp2_with (at_builtin; refine cU _ rfl _ _ 68 rfl slInt64 w.heap.size _ _ _ [] (by rfl) (by exact O5.out) _ _ _ (eS l) (by rfl) (by exact RD5.out) (by exact inRow_rows l) (by exact E6.out) (by exact E1.out) (by exact E2.out) (by exact E4.out) (by rfl) (by exact E3.out) ?_)
    intro A6 c6 w6 o6 g6
    have hb6 := aA (q5.trans (jK g6 O5.out E4.out))
    have O6 := aA (show Own w6 w.heap.size 2 1 A6 c6 (eS l) from o6)
    clear o6 g6 q5 O5 RD5 E1 E2 E4 E6
    go_wp2_with fail
    refine bodyPost_ret (v := .slice A6 l.length c6) (by simp [results, Tryz.results202, go_sem]) rfl ⟨⟨A6, c6, rfl, O6.out⟩, hb6.out⟩
end Go.Proofs.YtkmddjbialpppaaGreatDoor
namespace Go.Proofs.YtkmddjbialpppaaGreatDoor
open Go.ChangeShapes Go.WideShapes Go.ChangeAt Go.RowKit
open CM PD SG
theorem getDx {α : Type} {l : List α} {i : Nat} (d : α) (hi : i < l.length) : l.getD i d = l[i] := by rw [List.getD_eq_getElem?_getD, List.getElem?_eq_getElem hi]; rfl
def iJ {α : Type} (p : Nat → α → Bool) (l : List α) (d : α) : Bool := (List.range l.length).all fun i => p i (l.getD i d)
theorem jJ {α : Type} {p : Nat → α → Bool} {l : List α} {d : α} (h : ∀ i (hi : i < l.length), p i l[i] = true) : iJ p l d = true := by
  unfold iJ
  rw [List.all_eq_true]
  intro i hi
  rw [List.mem_range] at hi
  rw [List.getD_eq_getElem?_getD, List.getElem?_eq_getElem hi]
  exact h i hi
theorem allW_iff {α : Type} {p : Nat → α → Bool} {l : List α} {d : α} : iJ p l d = true ↔ ∀ i (hi : i < l.length), p i l[i] = true := by
  refine ⟨fun h i hi => ?_, jJ⟩
  unfold iJ at h
  have := List.all_eq_true.1 h i (List.mem_range.2 hi)
  rw [List.getD_eq_getElem?_getD, List.getElem?_eq_getElem hi] at this
  exact this
theorem kH {α : Type} {p : Nat → α → Bool} {l : List α} {d : α} {i : Nat} (hi : i < l.length) (h : p i l[i] = false) : iJ p l d = false := by
  cases hx : iJ p l d with
  | false => rfl
  | true => have := allW_iff.1 hx i hi; rw [h] at this; cases this
def fC (f : Flt) : List Value := [.int .i64 f.kind, .int .i64 f.mask, .int .i64 f.x, .int .i64 f.mn, .int .i64 f.mx, .int .i64 f.every, .int .i64 f.frm, .int .i64 f.old, .int .i64 f.count]
def FlR (w : World) (B : Nat) (A : Option Addr) (l : List Flt) : Prop := Rd w B A 9 (l.map fC)
theorem FlR.at_ {w : World} {B : Nat} {A : Option Addr} {l : List Flt} (h : FlR w B A l) {k : Nat} (hk : k < l.length) :
    ∃ b off, A = some ⟨b, off, none⟩ ∧ b < B ∧ w.cell? ⟨b, off + k * 9, none⟩ = some (.int .i64 l[k].kind) ∧ w.cell? ⟨b, off + k * 9 + 1, none⟩ = some (.int .i64 l[k].mask) ∧ w.cell? ⟨b, off + k * 9 + 2, none⟩ = some (.int .i64 l[k].x) ∧ w.cell? ⟨b, off + k * 9 + 3, none⟩ = some (.int .i64 l[k].mn) ∧ w.cell? ⟨b, off + k * 9 + 4, none⟩ = some (.int .i64 l[k].mx) ∧ w.cell? ⟨b, off + k * 9 + 5, none⟩ = some (.int .i64 l[k].every) ∧ w.cell? ⟨b, off + k * 9 + 6, none⟩ = some (.int .i64 l[k].frm) ∧ w.cell? ⟨b, off + k * 9 + 7, none⟩ = some (.int .i64 l[k].old) ∧ w.cell? ⟨b, off + k * 9 + 8, none⟩ = some (.int .i64 l[k].count) := by
  obtain ⟨b, off, e, hb, hc⟩ := h (by simpa using Nat.lt_of_le_of_lt (Nat.zero_le _) hk)
  have hx : (l.map fC)[k]? = some (fC l[k]) := by simp [hk]
  exact ⟨b, off, e, hb, hc k _ 0 _ hx rfl, hc k _ 1 _ hx rfl, hc k _ 2 _ hx rfl, hc k _ 3 _ hx rfl, hc k _ 4 _ hx rfl, hc k _ 5 _ hx rfl, hc k _ 6 _ hx rfl, hc k _ 7 _ hx rfl, hc k _ 8 _ hx rfl⟩
set_option maxRecDepth 100000 in
set_option maxHeartbeats 4000000 in
theorem allInt_any (fid lb : Nat) (p : Nat → Int → Bool) (hp : ∀ (args : Array Value) (w : World), (callFunc fid args).run Tryz.prog w = .ok (.enter fid args) w) (l : List Int) (A : Option Addr) (c : Nat) (w : World) (hr : InR w w.heap.size A l) (hl : l.length ≤ 9223372036854775807)
    (hc : Hid (∀ i (hi : i < l.length) w', Below w.heap.size w w' → Calls Tryz.prog fid #[.int .i64 i, .int .i64 l[i], .pointer (some ⟨lb, 0, none⟩)] w' fun e w'' => e = .returned (.bool (p i l[i])) ∧ Below w'.heap.size w' w'')) :
    Calls Tryz.prog 131 #[.slice A l.length c, .func (.func fid) #[] #[.pointer (some ⟨lb, 0, none⟩)]] w fun e w' => e = .returned (.bool (iJ p l 0)) ∧ Below w.heap.size w w' := by
  obtain ⟨r, hr2⟩ : ∃ r, r = iJ p l 0 := ⟨_, rfl⟩
  rw [← hr2]
  have HY := aA (fun h => hr2.trans (jJ h))
  have HN := aA (fun i hi h => hr2.trans (kH (i := i) hi h))
  clear hr2
  go_enter Tryz.func131, Tryz.ntmps131
  go_wp2_with fail
  go_loopw [9] (fun vi W => ∃ k : Nat, k ≤ l.length ∧ vi = .int .i64 k ∧ Hid (∀ i (hi : i < k) (hi2 : i < l.length), p i l[i] = true) ∧ Hid (Below w.heap.size w W)) (fun vi _ => l.length - (intOf vi).toNat)
  case atStart => exact ⟨0, Nat.zero_le _, rfl, aA (fun i hi => absurd hi (Nat.not_lt_zero _)), aA (Below.refl _ _)⟩
  case round =>
    obtain ⟨k, hk, rfl, hA, hq⟩ := hrel
    by_cases hlt : k < l.length
    · obtain ⟨b, off, rfl, hbs, c0⟩ := InR.at_ (Rd.below hr hq.out) hlt
      have C := aA (hc.out k hlt wr hq.out)
      have hki : (k : Int) < (l.length : Int) := by omega
      have HNK := aA (HN.out k hlt)
      have HS := aA (fun (h : p k l[k] = true) => show ∀ i (hi : i < k + 1) (hi2 : i < l.length), p i l[i] = true from fun i hi hi2 => by
        by_cases e : i = k
        · subst e; exact h
        · exact hA.out i (by omega) hi2)
      rcases hpk : p k l[k] with _ | _
      · rw [hpk] at C
        have E := aA (HNK.out hpk)
        clear hpk HNK HS HN HY
        generalize l[k] = v at *
        go_wp2_with fail
        (with_reducible refine (C.out).mono ?_)
        rintro e1 w1 ⟨rfl, q1⟩
        have Q := aA (aC hq.out hq.out.size q1)
        clear q1 C c0
        go_wp2_with fail
        go_ret
        exact ⟨by rw [E.out]; rfl, Q.out⟩
      · rw [hpk] at C
        have S2 := aA (HS.out hpk)
        clear hpk HNK HS HN HY
        generalize l[k] = v at *
        go_wp2_with fail
        (with_reducible refine (C.out).mono ?_)
        rintro e1 w1 ⟨rfl, q1⟩
        have Q := aA (aC hq.out hq.out.size q1)
        clear q1 C c0
        go_wp2_with fail
        go_roundw
        case rel => exact ⟨k + 1, by omega, by go_num, S2, Q⟩
        case measure => simp [intOf]; omega
    · obtain rfl : k = l.length := by omega
      have hnl : ¬ (l.length : Int) < (l.length : Int) := by omega
      have E := aA (HY.out (fun i hi => hA.out i hi hi))
      clear hlt hk HN HY
      go_wp2_with fail
      go_ret
      exact ⟨by rw [E.out]; rfl, hq.out⟩
set_option maxRecDepth 100000 in
set_option maxHeartbeats 4000000 in
theorem allFlt0_any (fid : Nat) (p : Nat → Flt → Bool) (hp : ∀ (args : Array Value) (w : World), (callFunc fid args).run Tryz.prog w = .ok (.enter fid args) w) (l : List Flt) (A : Option Addr) (c : Nat) (d : Flt) (w : World) (hr : FlR w w.heap.size A l) (hl : l.length ≤ 9223372036854775807)
    (hc : Hid (∀ i (hi : i < l.length) w', Below w.heap.size w w' → Calls Tryz.prog fid #[.int .i64 i, .agg #[.int .i64 l[i].kind, .int .i64 l[i].mask, .int .i64 l[i].x, .int .i64 l[i].mn, .int .i64 l[i].mx, .int .i64 l[i].every, .int .i64 l[i].frm, .int .i64 l[i].old, .int .i64 l[i].count]] w' fun e w'' => e = .returned (.bool (p i l[i])) ∧ Below w'.heap.size w' w'')) :
    Calls Tryz.prog 99 #[.slice A l.length c, .func (.func fid) #[] #[]] w fun e w' => e = .returned (.bool (iJ p l d)) ∧ Below w.heap.size w w' := by
  obtain ⟨r, hr2⟩ : ∃ r, r = iJ p l d := ⟨_, rfl⟩
  rw [← hr2]
  have HY := aA (fun h => hr2.trans (jJ h))
  have HN := aA (fun i hi h => hr2.trans (kH (i := i) hi h))
  clear hr2
  go_enter Tryz.func99, Tryz.ntmps99
  go_wp2_with fail
  go_loopw [9] (fun vi W => ∃ k : Nat, k ≤ l.length ∧ vi = .int .i64 k ∧ Hid (∀ i (hi : i < k) (hi2 : i < l.length), p i l[i] = true) ∧ Hid (Below w.heap.size w W)) (fun vi _ => l.length - (intOf vi).toNat)
  case atStart => exact ⟨0, Nat.zero_le _, rfl, aA (fun i hi => absurd hi (Nat.not_lt_zero _)), aA (Below.refl _ _)⟩
  case round =>
    obtain ⟨k, hk, rfl, hA, hq⟩ := hrel
    by_cases hlt : k < l.length
    · obtain ⟨b, off, rfl, hbs, c0, c1, c2, c3, c4, c5, c6, c7, c8⟩ := FlR.at_ (Rd.below hr hq.out) hlt
      have HC := aA (hc.out k hlt)
      have hki : (k : Int) < (l.length : Int) := by omega
      have HNK := aA (HN.out k hlt)
      have HS := aA (fun (h : p k l[k] = true) => show ∀ i (hi : i < k + 1) (hi2 : i < l.length), p i l[i] = true from fun i hi hi2 => by
        by_cases e : i = k
        · subst e; exact h
        · exact hA.out i (by omega) hi2)
      generalize l[k] = f at *
      have th := aA (show (wr.alloc (.cells #[.int .i64 0, .int .i64 0, .int .i64 0, .int .i64 0, .int .i64 0, .int .i64 0, .int .i64 0, .int .i64 0, .int .i64 0] 138)).there wr.heap.size 0 9 from aK (cs := [_, _, _, _, _, _, _, _, _]) (World.alloc_heap_new wr _))
      go_wp2_with (refine aF (by rfl) 138 (.tmp 6) (.tmp 13) (by rfl) wr.heap.size 0 (fC f) (by rfl) (by rfl) (by exact th.out) (by kernel_rfl) (by simp [Value.oneCell', fC]) ?_)
      intro w2 e2
      have bs := aA (show w2.heap[wr.heap.size]? = some (.cells (fC f).toArray 138 (0, 0)) by rw [e2.out]; exact aJ (fC f) (xs := [_, _, _, _, _, _, _, _, _]) (World.alloc_heap_new wr _) rfl)
      have qb : Below wr.heap.size wr w2 := by
        rw [e2.out]
        exact ((Below.refl _ _).alloc (Nat.le_refl _) _).trans (aE (g := wr.heap.size) _ 0 _ (Nat.le_refl _))
      have Q2 := aA (aC hq.out hq.out.size qb)
      have C := HC.out w2 Q2.out
      clear th e2 qb hq c0 c1 c2 c3 c4 c5 c6 c7 c8 HC
      rcases hpk : p k f with _ | _
      · rw [hpk] at C
        replace C := aA C
        have E := aA (HNK.out hpk)
        clear hpk HNK HS HN HY
        go_wp2_with (refine wpList_load_row rfl 138 (.tmp 6) (by rfl) wr.heap.size (by rfl) 138 (fC f).toArray (0, 0) _ (by exact bs.out) Tryz.underlying138 (by rfl) (by kernel_rfl) ?_)
        refine (C.out).mono ?_
        rintro e1 w3 ⟨rfl, q1⟩
        have Q := aA (aC Q2.out Q2.out.size q1)
        clear q1 C
        go_wp2_with fail
        go_ret
        exact ⟨by rw [E.out]; rfl, Q.out⟩
      · rw [hpk] at C
        replace C := aA C
        have S2 := aA (HS.out hpk)
        clear hpk HNK HS HN HY
        go_wp2_with (refine wpList_load_row rfl 138 (.tmp 6) (by rfl) wr.heap.size (by rfl) 138 (fC f).toArray (0, 0) _ (by exact bs.out) Tryz.underlying138 (by rfl) (by kernel_rfl) ?_)
        refine (C.out).mono ?_
        rintro e1 w3 ⟨rfl, q1⟩
        have Q := aA (aC Q2.out Q2.out.size q1)
        clear q1 C
        go_wp2_with fail
        go_roundw
        case rel => exact ⟨k + 1, by omega, by go_num, S2, Q⟩
        case measure => simp [intOf]; omega
    · obtain rfl : k = l.length := by omega
      have hnl : ¬ (l.length : Int) < (l.length : Int) := by omega
      have E := aA (HY.out (fun i hi => hA.out i hi hi))
      clear hlt hk HN HY
      go_wp2_with fail
      go_ret
      exact ⟨by rw [E.out]; rfl, hq.out⟩
set_option maxRecDepth 100000 in
set_option maxHeartbeats 4000000 in
theorem allFlt1_any (fid lb : Nat) (p : Nat → Flt → Bool) (hp : ∀ (args : Array Value) (w : World), (callFunc fid args).run Tryz.prog w = .ok (.enter fid args) w) (l : List Flt) (A : Option Addr) (c : Nat) (d : Flt) (w : World) (hr : FlR w w.heap.size A l) (hl : l.length ≤ 9223372036854775807)
    (hc : Hid (∀ i (hi : i < l.length) w', Below w.heap.size w w' → Calls Tryz.prog fid #[.int .i64 i, .agg #[.int .i64 l[i].kind, .int .i64 l[i].mask, .int .i64 l[i].x, .int .i64 l[i].mn, .int .i64 l[i].mx, .int .i64 l[i].every, .int .i64 l[i].frm, .int .i64 l[i].old, .int .i64 l[i].count], .pointer (some ⟨lb, 0, none⟩)] w' fun e w'' => e = .returned (.bool (p i l[i])) ∧ Below w'.heap.size w' w'')) :
    Calls Tryz.prog 99 #[.slice A l.length c, .func (.func fid) #[] #[.pointer (some ⟨lb, 0, none⟩)]] w fun e w' => e = .returned (.bool (iJ p l d)) ∧ Below w.heap.size w w' := by
  obtain ⟨r, hr2⟩ : ∃ r, r = iJ p l d := ⟨_, rfl⟩
  rw [← hr2]
  have HY := aA (fun h => hr2.trans (jJ h))
  have HN := aA (fun i hi h => hr2.trans (kH (i := i) hi h))
  clear hr2
  go_enter Tryz.func99, Tryz.ntmps99
  go_wp2_with fail
  go_loopw [9] (fun vi W => ∃ k : Nat, k ≤ l.length ∧ vi = .int .i64 k ∧ Hid (∀ i (hi : i < k) (hi2 : i < l.length), p i l[i] = true) ∧ Hid (Below w.heap.size w W)) (fun vi _ => l.length - (intOf vi).toNat)
  case atStart => exact ⟨0, Nat.zero_le _, rfl, aA (fun i hi => absurd hi (Nat.not_lt_zero _)), aA (Below.refl _ _)⟩
  case round =>
    obtain ⟨k, hk, rfl, hA, hq⟩ := hrel
    by_cases hlt : k < l.length
    · obtain ⟨b, off, rfl, hbs, c0, c1, c2, c3, c4, c5, c6, c7, c8⟩ := FlR.at_ (Rd.below hr hq.out) hlt
      have HC := aA (hc.out k hlt)
      have hki : (k : Int) < (l.length : Int) := by omega
      have HNK := aA (HN.out k hlt)
      have HS := aA (fun (h : p k l[k] = true) => show ∀ i (hi : i < k + 1) (hi2 : i < l.length), p i l[i] = true from fun i hi hi2 => by
        by_cases e : i = k
        · subst e; exact h
        · exact hA.out i (by omega) hi2)
      generalize l[k] = f at *
      have th := aA (show (wr.alloc (.cells #[.int .i64 0, .int .i64 0, .int .i64 0, .int .i64 0, .int .i64 0, .int .i64 0, .int .i64 0, .int .i64 0, .int .i64 0] 138)).there wr.heap.size 0 9 from aK (cs := [_, _, _, _, _, _, _, _, _]) (World.alloc_heap_new wr _))
      go_wp2_with (refine aF (by rfl) 138 (.tmp 6) (.tmp 13) (by rfl) wr.heap.size 0 (fC f) (by rfl) (by rfl) (by exact th.out) (by kernel_rfl) (by simp [Value.oneCell', fC]) ?_)
      intro w2 e2
      have bs := aA (show w2.heap[wr.heap.size]? = some (.cells (fC f).toArray 138 (0, 0)) by rw [e2.out]; exact aJ (fC f) (xs := [_, _, _, _, _, _, _, _, _]) (World.alloc_heap_new wr _) rfl)
      have qb : Below wr.heap.size wr w2 := by
        rw [e2.out]
        exact ((Below.refl _ _).alloc (Nat.le_refl _) _).trans (aE (g := wr.heap.size) _ 0 _ (Nat.le_refl _))
      have Q2 := aA (aC hq.out hq.out.size qb)
      have C := HC.out w2 Q2.out
      clear th e2 qb hq c0 c1 c2 c3 c4 c5 c6 c7 c8 HC
      rcases hpk : p k f with _ | _
      · rw [hpk] at C
        replace C := aA C
        have E := aA (HNK.out hpk)
        clear hpk HNK HS HN HY
        go_wp2_with (refine wpList_load_row rfl 138 (.tmp 6) (by rfl) wr.heap.size (by rfl) 138 (fC f).toArray (0, 0) _ (by exact bs.out) Tryz.underlying138 (by rfl) (by kernel_rfl) ?_)
        refine (C.out).mono ?_
        rintro e1 w3 ⟨rfl, q1⟩
        have Q := aA (aC Q2.out Q2.out.size q1)
        clear q1 C
        go_wp2_with fail
        go_ret
        exact ⟨by rw [E.out]; rfl, Q.out⟩
      · rw [hpk] at C
        replace C := aA C
        have S2 := aA (HS.out hpk)
        clear hpk HNK HS HN HY
        go_wp2_with (refine wpList_load_row rfl 138 (.tmp 6) (by rfl) wr.heap.size (by rfl) 138 (fC f).toArray (0, 0) _ (by exact bs.out) Tryz.underlying138 (by rfl) (by kernel_rfl) ?_)
        refine (C.out).mono ?_
        rintro e1 w3 ⟨rfl, q1⟩
        have Q := aA (aC Q2.out Q2.out.size q1)
        clear q1 C
        go_wp2_with fail
        go_roundw
        case rel => exact ⟨k + 1, by omega, by go_num, S2, Q⟩
        case measure => simp [intOf]; omega
    · obtain rfl : k = l.length := by omega
      have hnl : ¬ (l.length : Int) < (l.length : Int) := by omega
      have E := aA (HY.out (fun i hi => hA.out i hi hi))
      clear hlt hk HN HY
      go_wp2_with fail
      go_ret
      exact ⟨by rw [E.out]; rfl, hq.out⟩
end Go.Proofs.YtkmddjbialpppaaGreatDoor
