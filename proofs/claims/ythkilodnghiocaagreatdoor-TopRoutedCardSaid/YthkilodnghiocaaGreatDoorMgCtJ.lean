/- Walks of count.State; of a machine's flag, delim, hold (a recessive bit), begins (not one's own frame). -/
import Derived.Test.YthkilodnghiocaaGreatDoorMgCtC
import Derived.Test.YthkilodnghiocaaGreatDoorMgMem
import Derived.Maps.OwnOps
import Derived.Maps.OwnSet
namespace Go.Proofs.YthkilodnghiocaaGreatDoor
open Go.ChangeShapes Go.WideShapes Go.ChangeAt Go.RowKit
open FP (Fr)

/-- How one stands that is counted so: 1: active, 2: passive, 3: off. -/
def stOf (tc rc : Int) (off : Bool) : Int := if off = true then 3 else if 127 < tc ∨ 127 < rc then 2 else 1

set_option maxRecDepth 100000 in
set_option maxHeartbeats 4000000 in
theorem cntState_ok (tc rc : Int) (off : Bool) (rs : Int) (w : World) (h : cntB tc rc off rs = true) : Calls Tryz.prog 101 #[.agg #[.int .i64 tc, .int .i64 rc, .bool off, .int .i64 rs]] w fun e w' => e = .returned (.tuple #[.int .i64 (stOf tc rc off), .int .i64 0]) ∧ Below w.heap.size w w' := by
  have CR := hide (fun W => h ▸ cntRight_any tc rc off rs W)
  have q0 : Below w.heap.size w (w.alloc (.cells #[.int .i64 tc, .int .i64 rc, .bool off, .int .i64 rs] 69)) := (Below.refl _ _).alloc (Nat.le_refl _) _
  have B0 := hide (World.alloc_heap_new w (.cells #[.int .i64 tc, .int .i64 rc, .bool off, .int .i64 rs] 69))
  obtain ⟨c0, c1, c2, c3⟩ := four_cells B0.out
  have Q0 := hide q0
  obtain ⟨s, hs⟩ : ∃ s, s = stOf tc rc off := ⟨_, rfl⟩
  rw [← hs]
  unfold stOf at hs
  have HS := hide hs
  clear q0 h hs
  generalize hw0 : w.alloc (.cells #[.int .i64 tc, .int .i64 rc, .bool off, .int .i64 rs] 69) = w0 at *
  go_enter Tryz.func101, Tryz.ntmps101
  go_upto_region 1 with fail
  clear hw0
  go_wp2_with fail
  (with_reducible refine (CR.out _).mono ?_)
  rintro e1 w1 ⟨rfl, q1⟩
  have B1 := hide (heap_below B0.out q1)
  have Q1 := hide (below_next Q0.out Q0.out.size q1)
  clear q1 B0 Q0 CR c0 c1 c2 c3
  obtain ⟨c0, c1, c2, c3⟩ := four_cells B1.out
  cases off with
  | true =>
    have E := hide (show s = 3 by rw [HS.out]; rfl)
    go_wp2_with fail
    go_ret2
    exact ⟨by rw [E.out]; rfl, Q1.out⟩
  | false =>
    by_cases hp : 127 < tc ∨ 127 < rc
    · have E := hide (show s = 2 by rw [HS.out, if_neg (by simp), if_pos hp])
      rcases Int.lt_or_le 127 tc with h1 | h1
      · clear hp
        go_wp2_with fail
        go_ret2
        exact ⟨by rw [E.out]; rfl, Q1.out⟩
      · have h2 : 127 < rc := by omega
        clear hp
        go_wp2_with fail
        go_ret2
        exact ⟨by rw [E.out]; rfl, Q1.out⟩
    · have E := hide (show s = 1 by rw [HS.out, if_neg (by simp), if_neg hp])
      have h1 : tc ≤ 127 := by omega
      have h2 : rc ≤ 127 := by omega
      clear hp
      go_wp2_with fail
      go_ret2
      exact ⟨by rw [E.out]; rfl, Q1.out⟩

/-- A bit of the flag of an error. -/
def Cl.flag1 (c : Cl) : Cl := if c.n = 5 then c.to 4 else { c with n := c.n + 1 }
set_option maxRecDepth 100000 in
set_option maxHeartbeats 4000000 in
theorem mcFlag_any (c : Cl) (ev : List Value) (b : Nat) (t : TypeId) (bus : Int) (w : World) (h : Hid (w.heap[b]? = some (.cells (mcL c ev).toArray t (0, 0)))) (h0 : 0 ≤ c.n) (h5 : c.n ≤ 5) :
    Calls Tryz.prog 81 #[.pointer (some ⟨b, 0, none⟩), .int .u8 bus] w fun e w' => (∃ v, e = .returned v) ∧ w'.heap[b]? = some (.cells (mcL c.flag1 ev).toArray t (0, 0)) ∧ Below b w w' := by
  have hb : b < w.heap.size := heap_lt h.out
  obtain ⟨_, ⟨_, c5, _⟩, _⟩ := mc_cells h.out
  have f5 := cl_froz h.out 5
  have H := mc_set h.out 5 (.int .i64 (c.n + 1))
  have HB := hide (show (w.setCell ⟨b, 5, none⟩ (.int .i64 (c.n + 1))).heap[b]? = some (.cells (mcL { c with n := c.n + 1 } ev).toArray t (0, 0)) by simpa [mcL, Cl.cs] using H)
  have Q1 := hide (below_set (Below.refl b w) 5 (.int .i64 (c.n + 1)))
  clear H
  by_cases e : c.n = 5
  · have EJ := hide (show c.flag1 = ({ c with n := c.n + 1 } : Cl).to 4 by unfold Cl.flag1; rw [if_pos e]; rfl)
    have TO := hide (mcTo_any { c with n := c.n + 1 } ev 4 b t (w.setCell ⟨b, 5, none⟩ (.int .i64 (c.n + 1))) HB)
    rw [e] at c5
    have e11 : c.n + 1 = 6 := by omega
    rw [e11] at TO HB Q1
    clear h0 h5 e h e11
    go_enter Tryz.func81, Tryz.ntmps81
    go_wp2_with fail
    (with_reducible refine (TO.out).mono ?_)
    rintro e1 w1 ⟨⟨v, rfl⟩, hB, q1⟩
    go_wp2_with fail
    go_end0
    exact ⟨⟨_, rfl⟩, by rw [EJ.out]; exact hB, Q1.out.trans q1⟩
  · have EJ := hide (show c.flag1 = { c with n := c.n + 1 } by unfold Cl.flag1; rw [if_neg e])
    have hne : ¬ c.n + 1 = 6 := by omega
    clear h
    go_enter Tryz.func81, Tryz.ntmps81
    go_wp2_with fail
    go_end0
    exact ⟨⟨_, rfl⟩, by rw [EJ.out]; exact HB.out, Q1.out⟩

/-- A bit of the delimiter: whether it is dominant. -/
def Cl.delim1 (c : Cl) (low : Bool) : Cl := if low = true then c.to 3 else if c.n = 7 then c.to 6 else { c with n := c.n + 1 }
set_option maxRecDepth 100000 in
set_option maxHeartbeats 4000000 in
theorem mcDelim_low (c : Cl) (ev : List Value) (b : Nat) (t : TypeId) (w : World) (h : Hid (w.heap[b]? = some (.cells (mcL c ev).toArray t (0, 0)))) (h0 : 0 ≤ c.n) (h7 : c.n ≤ 7) :
    Calls Tryz.prog 83 #[.pointer (some ⟨b, 0, none⟩), .int .u8 48] w fun e w' => (∃ v, e = .returned v) ∧ w'.heap[b]? = some (.cells (mcL (c.delim1 true) ev).toArray t (0, 0)) ∧ Below b w w' := by
  have hb : b < w.heap.size := heap_lt h.out
  obtain ⟨_, ⟨_, c5, _⟩, _⟩ := mc_cells h.out
  have f5 := cl_froz h.out 5
  have H := mc_set h.out 5 (.int .i64 (c.n + 1))
  have HB := hide (show (w.setCell ⟨b, 5, none⟩ (.int .i64 (c.n + 1))).heap[b]? = some (.cells (mcL { c with n := c.n + 1 } ev).toArray t (0, 0)) by simpa [mcL, Cl.cs] using H)
  have Q1 := hide (below_set (Below.refl b w) 5 (.int .i64 (c.n + 1)))
  have TO := hide (mcTo_any { c with n := c.n + 1 } ev 3 b t (w.setCell ⟨b, 5, none⟩ (.int .i64 (c.n + 1))) HB)
  clear H h
  go_enter Tryz.func83, Tryz.ntmps83
  go_wp2_with fail
  (with_reducible refine (TO.out).mono ?_)
  rintro e1 w1 ⟨⟨v, rfl⟩, hB, q1⟩
  go_wp2_with fail
  go_end0
  exact ⟨⟨_, rfl⟩, hB, Q1.out.trans q1⟩
set_option maxRecDepth 100000 in
set_option maxHeartbeats 4000000 in
theorem mcDelim_high (c : Cl) (ev : List Value) (b : Nat) (t : TypeId) (w : World) (h : Hid (w.heap[b]? = some (.cells (mcL c ev).toArray t (0, 0)))) (h0 : 0 ≤ c.n) (h7 : c.n ≤ 7) :
    Calls Tryz.prog 83 #[.pointer (some ⟨b, 0, none⟩), .int .u8 49] w fun e w' => (∃ v, e = .returned v) ∧ w'.heap[b]? = some (.cells (mcL (c.delim1 false) ev).toArray t (0, 0)) ∧ Below b w w' := by
  have hb : b < w.heap.size := heap_lt h.out
  obtain ⟨_, ⟨_, c5, _⟩, _⟩ := mc_cells h.out
  have f5 := cl_froz h.out 5
  have H := mc_set h.out 5 (.int .i64 (c.n + 1))
  have HB := hide (show (w.setCell ⟨b, 5, none⟩ (.int .i64 (c.n + 1))).heap[b]? = some (.cells (mcL { c with n := c.n + 1 } ev).toArray t (0, 0)) by simpa [mcL, Cl.cs] using H)
  have Q1 := hide (below_set (Below.refl b w) 5 (.int .i64 (c.n + 1)))
  clear H
  by_cases e : c.n = 7
  · have EJ := hide (show c.delim1 false = ({ c with n := c.n + 1 } : Cl).to 6 by unfold Cl.delim1; rw [if_neg (by simp), if_pos e]; rfl)
    have TO := hide (mcTo_any { c with n := c.n + 1 } ev 6 b t (w.setCell ⟨b, 5, none⟩ (.int .i64 (c.n + 1))) HB)
    rw [e] at c5
    have e11 : c.n + 1 = 8 := by omega
    rw [e11] at TO HB Q1
    clear h0 h7 e h e11
    go_enter Tryz.func83, Tryz.ntmps83
    go_wp2_with fail
    (with_reducible refine (TO.out).mono ?_)
    rintro e1 w1 ⟨⟨v, rfl⟩, hB, q1⟩
    go_wp2_with fail
    go_end0
    exact ⟨⟨_, rfl⟩, by rw [EJ.out]; exact hB, Q1.out.trans q1⟩
  · have EJ := hide (show c.delim1 false = { c with n := c.n + 1 } by unfold Cl.delim1; rw [if_neg (by simp), if_neg e])
    have hne : ¬ c.n + 1 = 8 := by omega
    clear h
    go_enter Tryz.func83, Tryz.ntmps83
    go_wp2_with fail
    go_end0
    exact ⟨⟨_, rfl⟩, by rw [EJ.out]; exact HB.out, Q1.out⟩

/-- A recessive bit comes to one that holds. -/
def Cl.hold1 (c : Cl) : Cl := if c.n = 7 then c.to 1 else { c with n := c.n + 1 }

set_option maxRecDepth 100000 in
set_option maxHeartbeats 4000000 in
theorem mcHold_high (c : Cl) (ev : List Value) (b : Nat) (t : TypeId) (w : World) (h : Hid (w.heap[b]? = some (.cells (mcL c ev).toArray t (0, 0)))) (h0 : 0 ≤ c.n) (h7 : c.n ≤ 7) :
    Calls Tryz.prog 85 #[.pointer (some ⟨b, 0, none⟩), .int .u8 49] w fun e w' => (∃ v, e = .returned v) ∧ w'.heap[b]? = some (.cells (mcL c.hold1 ev).toArray t (0, 0)) ∧ Below b w w' := by
  have hb : b < w.heap.size := heap_lt h.out
  obtain ⟨_, ⟨_, c5, _⟩, _⟩ := mc_cells h.out
  have f5 := cl_froz h.out 5
  have H := mc_set h.out 5 (.int .i64 (c.n + 1))
  have HB := hide (show (w.setCell ⟨b, 5, none⟩ (.int .i64 (c.n + 1))).heap[b]? = some (.cells (mcL { c with n := c.n + 1 } ev).toArray t (0, 0)) by simpa [mcL, Cl.cs] using H)
  have Q1 := hide (below_set (Below.refl b w) 5 (.int .i64 (c.n + 1)))
  clear H
  by_cases e : c.n = 7
  · have EJ := hide (show c.hold1 = ({ c with n := c.n + 1 } : Cl).to 1 by unfold Cl.hold1; rw [if_pos e]; rfl)
    have TO := hide (mcTo_any { c with n := c.n + 1 } ev 1 b t (w.setCell ⟨b, 5, none⟩ (.int .i64 (c.n + 1))) HB)
    rw [e] at c5
    have e11 : c.n + 1 = 8 := by omega
    rw [e11] at TO HB Q1
    clear h0 h7 e h e11
    go_enter Tryz.func85, Tryz.ntmps85
    go_wp2_with fail
    (with_reducible refine (TO.out).mono ?_)
    rintro e1 w1 ⟨⟨v, rfl⟩, hB, q1⟩
    go_wp2_with fail
    go_end0
    exact ⟨⟨_, rfl⟩, by rw [EJ.out]; exact hB, Q1.out.trans q1⟩
  · have EJ := hide (show c.hold1 = { c with n := c.n + 1 } by unfold Cl.hold1; rw [if_neg e])
    have hne : ¬ c.n + 1 = 8 := by omega
    clear h
    go_enter Tryz.func85, Tryz.ntmps85
    go_wp2_with fail
    go_end0
    exact ⟨⟨_, rfl⟩, by rw [EJ.out]; exact HB.out, Q1.out⟩

/-- Another one's frame begins. -/
def Cl.begin0 (c : Cl) : Cl := { c.to 2 with last := 48, sn := 1, got := ⟨#[48]⟩, was := false }
set_option maxRecDepth 100000 in
set_option maxHeartbeats 4000000 in
theorem mcBegins_no (c : Cl) (ev : List Value) (b : Nat) (t : TypeId) (w : World) (h : Hid (w.heap[b]? = some (.cells (mcL c ev).toArray t (0, 0)))) :
    Calls Tryz.prog 97 #[.pointer (some ⟨b, 0, none⟩), .bool false] w fun e w' => (∃ v, e = .returned v) ∧ w'.heap[b]? = some (.cells (mcL c.begin0 ev).toArray t (0, 0)) ∧ Below b w w' := by
  have TO := hide (mcTo_any c ev 2 b t w h)
  clear h
  go_enter Tryz.func97, Tryz.ntmps97
  go_wp2_with fail
  (with_reducible refine (TO.out).mono ?_)
  rintro e1 w1 ⟨⟨v, rfl⟩, hB, q1⟩
  have HB := hide hB
  have Q1 := hide q1
  have hb : b < w1.heap.size := heap_lt hB
  obtain ⟨_, ⟨_, _, c6, _⟩, ⟨d14, d15, d16, d17, d18, d19, d20, d21, d22⟩⟩ := mc_cells hB
  have f6 := cl_froz hB 6
  have f14 := cl_froz hB 14
  have f17 := cl_froz hB 17
  have f18 := cl_froz hB 18
  have f19 := cl_froz hB 19
  clear hB q1 TO d15 d16 d20 d21 d22
  go_wp2_with fail
  go_end0
  refine ⟨⟨_, rfl⟩, ?_, ?_⟩
  · have H := mc_set (mc_set (mc_set (mc_set (mc_set HB.out 17 (.int .u8 48)) 18 (.int .i64 1)) 19 (.string ⟨#[48]⟩)) 14 (.bool false)) 6 (.bool false)
    simpa [mcL, Cl.cs, Cl.begin0, Cl.to] using H
  · exact below_set (below_set (below_set (below_set (below_set Q1.out 17 _) 18 _) 19 _) 14 _) 6 _
end Go.Proofs.YthkilodnghiocaaGreatDoor

/- Maps from ints to functions, of the call's own; the walk of count.steps. -/
namespace Go.Proofs.YthkilodnghiocaaGreatDoor
open Go.ChangeShapes Go.WideShapes Go.ChangeAt Go.RowKit Go.Maps
open FP (Fr)

/-- How a function that has captured nothing reads. -/
def fnElem (v : Value) : Option (DataW Unit × List MemPlace) := match v with
  | .func (.func f) fs cs => if fs.size = 0 ∧ cs.size = 0 then some (.lit (.int .i64 f), []) else none
  | .nilFunc => some (.lit (.bool false), [])
  | _ => none
theorem fnElem_inv {v : Value} {f : Nat} {ps : List MemPlace} (h : fnElem v = some (.lit (.int .i64 f), ps)) : v = .func (.func f) #[] #[] := by
  unfold fnElem at h
  split at h
  · rename_i g fs cs
    by_cases e : fs.size = 0 ∧ cs.size = 0
    · rw [if_pos e] at h
      obtain ⟨e1, e2⟩ := e
      simp at h
      obtain ⟨h1, _⟩ := h
      have : g = f := by first | exact h1 | exact Int.ofNat_inj.1 h1
      rw [this, Array.eq_empty_of_size_eq_zero e1, Array.eq_empty_of_size_eq_zero e2]
    · rw [if_neg e] at h; cases h
  · simp at h
  · cases h
/-- At block b lies a map of the call's own that reads as s. -/
def MFn (W : World) (b n : Nat) (s : Int → Option Nat) : Prop :=
  ∃ D : DataW Unit, W.ownsMap Tryz.prog 3 fnElem b n D ∧ ∀ (x : Int) z, D.atKey (.int .i64 x) z = match s x with
    | some f => .lit (.int .i64 (f : Nat))
    | none => z
theorem MFn.made (w : World) : MFn (w.alloc (.map #[] 0)) w.heap.size 0 (fun _ => none) := ⟨_, World.ownsMap_made w _ _ _, fun _ _ => rfl⟩
theorem MFn.lt {W : World} {b n : Nat} {s : Int → Option Nat} (h : MFn W b n s) : b < W.heap.size := by obtain ⟨D, h, _⟩ := h; exact h.lt
theorem int_wf7 {x : Int} (h0 : 0 ≤ x) (h1 : x ≤ 1000) : (Lit.int .i64 x).wf = true := by
  simp [Lit.wf, IntKind.min, IntKind.max, IntKind.bits, IntKind.signed]
  omega
set_option maxRecDepth 100000 in
theorem MFn.put {W : World} {b n : Nat} {s : Int → Option Nat} (h : MFn W b n s) (hn : n < maxLen) (x : Int) (f : Nat) (hx : 0 ≤ x ∧ x ≤ 1000) :
    ∃ W', (Instr.mapUpdate 183 (.map (some b)) (.int .i64 x) (.func (.func f) #[] #[])).run Tryz.prog W = .ok () W' ∧ MFn W' b (n + 1) (fun y => if y = x then some f else s y) ∧ W.grownBy W' (some b) := by
  obtain ⟨D, h, hs⟩ := h
  obtain ⟨W', hr, h', ht⟩ := World.ownsMap.store h (int_keyed Tryz.underlying3) Tryz.underlying183 hn (keyOf_int_mk Tryz.underlying3 (int_wf7 hx.1 hx.2)) (show fnElem (.func (.func f) #[] #[]) = some (.lit (.int .i64 (f : Nat)), []) from rfl)
  refine ⟨W', hr, ⟨_, h', fun y z => ?_⟩, ht.grown⟩
  by_cases hy : y = x
  · subst hy
    simp only
    exact atKey_put_same h.isMap (by first | trivial | exact .int _ _ | simp [WideAt.IsKeyLit]) _ _
  · simp only [if_neg hy]
    rw [atKey_put_other (by simp [hy])]
    exact hs y z
set_option maxRecDepth 100000 in
theorem zero_fn_run (W : World) : (zeroValue 181).run Tryz.prog W = .ok .nilFunc W := by kernel_rfl
set_option maxRecDepth 100000 in
theorem MFn.get {W : World} {b n : Nat} {s : Int → Option Nat} (h : MFn W b n s) (x : Int) (hx : 0 ≤ x ∧ x ≤ 1000) {f : Nat} (hf : s x = some f) :
    (Instr.lookup 183 (.map (some b)) (.int .i64 x) true).run Tryz.prog W = .ok (.tuple #[.func (.func f) #[] #[], .bool true]) W := by
  obtain ⟨D, h, hs⟩ := h
  obtain ⟨v, ps, hr, hv⟩ := World.ownsMap.look_ok h (int_keyed Tryz.underlying3) Tryz.underlying183 (zero_fn_run W) (show fnElem .nilFunc = some (.lit (.bool false), []) from rfl) (keyOf_int_mk Tryz.underlying3 (int_wf7 hx.1 hx.2))
  have h0 := hs x
  rw [hf] at h0
  rw [h0 (.lit (.bool false))] at hv
  rw [hr, fnElem_inv hv, Maps.has_true_of_atKey h0]

/-- What is done for all that is counted. -/
def stepF : Int → Option Nat := fun y => if y = 7 then some 125 else if y = 6 then some 124 else if y = 4 then some 123 else if y = 5 then some 120 else if y = 3 then some 120 else if y = 2 then some 122 else if y = 1 then some 121 else none
set_option maxRecDepth 100000 in
set_option maxHeartbeats 4000000 in
theorem cntSteps_any (w : World) : Calls Tryz.prog 113 #[] w fun e w' => (∃ b n, e = .returned (.map (some b)) ∧ MFn w' b n stepF) ∧ Below w.heap.size w w' := by
  have hmm := @run_makeMap Tryz.prog
  have M0 := MFn.made w
  obtain ⟨w1, p1, M1, g1⟩ := M0.put (by decide) 1 121 (by decide)
  obtain ⟨w2, p2, M2, g2⟩ := M1.put (by decide) 2 122 (by decide)
  obtain ⟨w3, p3, M3, g3⟩ := M2.put (by decide) 3 120 (by decide)
  obtain ⟨w4, p4, M4, g4⟩ := M3.put (by decide) 5 120 (by decide)
  obtain ⟨w5, p5, M5, g5⟩ := M4.put (by decide) 4 123 (by decide)
  obtain ⟨w6, p6, M6, g6⟩ := M5.put (by decide) 6 124 (by decide)
  obtain ⟨w7, p7, M7, g7⟩ := M6.put (by decide) 7 125 (by decide)
  have Q7 := hide (show Below w.heap.size w w7 from by
    have q0 : Below w.heap.size w (w.alloc (.map #[] 0)) := (Below.refl _ _).alloc (Nat.le_refl _) _
    have st : ∀ {a b : World}, Below w.heap.size w a → a.grownBy b (some w.heap.size) → Below w.heap.size w b := fun q g => q.grown g q.size (fun j e => by cases e; exact Nat.le_refl _)
    exact st (st (st (st (st (st (st q0 g1) g2) g3) g4) g5) g6) g7)
  have MM := hide (show MFn w7 w.heap.size 7 stepF from M7)
  clear M0 M1 M2 M3 M4 M5 M6 M7 g1 g2 g3 g4 g5 g6 g7
  go_enter Tryz.func113, Tryz.ntmps113
  go_wp2_with fail
  go_ret
  exact ⟨⟨_, _, rfl, MM.out⟩, Q7.out⟩
end Go.Proofs.YthkilodnghiocaaGreatDoor

/- Walks of the functions of count.steps. -/
namespace Go.Proofs.YthkilodnghiocaaGreatDoor
open Go.ChangeShapes Go.WideShapes Go.ChangeAt Go.RowKit Go.Maps
open FP (Fr)

/-- What is counted: the sender's and the receiver's count behind what happened. -/
def cntTc (what tc : Int) : Int := if what = 1 then max (tc - 1) 0 else if what = 3 ∨ what = 5 then tc + 8 else tc
def cntRc (what rc : Int) : Int := if what = 2 then max (if 127 ≤ rc - 1 then 119 else rc - 1) 0 else if what = 4 then min (rc + 1) 255 else if what = 6 then min (rc + 8) 255 else rc
theorem set_grown7 (W : World) (x j : Nat) (v : Value) : W.grownBy (W.setCell ⟨x, j, none⟩ v) (some x) := ⟨rfl, rfl, rfl, by simp [World.setCell], fun k _ hk => heap_setCell_other W ⟨x, j, none⟩ k v (fun e => hk (by simp [e]))⟩
def cnL (tc rc : Int) (off : Bool) (rs : Int) : List Value := [.int .i64 tc, .int .i64 rc, .bool off, .int .i64 rs]
theorem cn_cells {W : World} {B : Nat} {tc rc : Int} {off : Bool} {rs : Int} {t : TypeId} {fz : Nat × Nat} (h : W.heap[B]? = some (.cells (cnL tc rc off rs).toArray t fz)) : W.cell? ⟨B, 0, none⟩ = some (.int .i64 tc) ∧ W.cell? ⟨B, 1, none⟩ = some (.int .i64 rc) ∧ W.cell? ⟨B, 2, none⟩ = some (.bool off) ∧ W.cell? ⟨B, 3, none⟩ = some (.int .i64 rs) := by
  simp [World.cell?, h, cnL]

set_option maxRecDepth 100000 in
set_option maxHeartbeats 2000000 in
theorem cs1_any (tc rc : Int) (off : Bool) (rs : Int) (b : Nat) (t : TypeId) (w : World) (h : Hid (w.heap[b]? = some (.cells (cnL tc rc off rs).toArray t (0, 0)))) (h0 : 0 ≤ tc) (h1 : tc ≤ 255) (h2 : 0 ≤ rc) (h3 : rc ≤ 255) :
    Calls Tryz.prog 120 #[.pointer (some ⟨b, 0, none⟩)] w fun e w' => (∃ v, e = .returned v) ∧ w'.heap[b]? = some (.cells (cnL (cntTc 3 tc) (cntRc 3 rc) off rs).toArray t (0, 0)) ∧ w.grownBy w' (some b) := by
  obtain ⟨c0, c1, c2, c3⟩ := cn_cells h.out
  have f0 := cl_froz h.out 0
  have f1 := cl_froz h.out 1
  go_enter Tryz.func120, Tryz.ntmps120
  go_wp2_with fail
  go_end0
  refine ⟨⟨_, rfl⟩, ?_, set_grown7 w b 0 _⟩
  have H := mc_set h.out 0 (.int .i64 (tc + 8))
  have e : cnL (cntTc 3 tc) (cntRc 3 rc) off rs = cnL (tc + 8) rc off rs := by simp [cntTc, cntRc]
  rw [e]
  exact H

set_option maxRecDepth 100000 in
set_option maxHeartbeats 2000000 in
theorem cs2_any (tc rc : Int) (off : Bool) (rs : Int) (b : Nat) (t : TypeId) (w : World) (h : Hid (w.heap[b]? = some (.cells (cnL tc rc off rs).toArray t (0, 0)))) (h0 : 0 ≤ tc) (h1 : tc ≤ 255) (h2 : 0 ≤ rc) (h3 : rc ≤ 255) :
    Calls Tryz.prog 121 #[.pointer (some ⟨b, 0, none⟩)] w fun e w' => (∃ v, e = .returned v) ∧ w'.heap[b]? = some (.cells (cnL (cntTc 1 tc) (cntRc 1 rc) off rs).toArray t (0, 0)) ∧ w.grownBy w' (some b) := by
  obtain ⟨c0, c1, c2, c3⟩ := cn_cells h.out
  have f0 := cl_froz h.out 0
  have f1 := cl_froz h.out 1
  obtain ⟨m, em, hm⟩ := run_max (P := Tryz.prog) (tc - 1) 0
  have EM := hide em
  clear em
  go_enter Tryz.func121, Tryz.ntmps121
  go_wp2_with fail
  go_end0
  refine ⟨⟨_, rfl⟩, ?_, set_grown7 w b 0 _⟩
  have H := mc_set h.out 0 (.int .i64 (m))
  have e : cnL (cntTc 1 tc) (cntRc 1 rc) off rs = cnL m rc off rs := by rw [EM.out]; simp [cntTc, cntRc]
  rw [e]
  exact H

set_option maxRecDepth 100000 in
set_option maxHeartbeats 2000000 in
theorem cs3_any (tc rc : Int) (off : Bool) (rs : Int) (b : Nat) (t : TypeId) (w : World) (h : Hid (w.heap[b]? = some (.cells (cnL tc rc off rs).toArray t (0, 0)))) (h0 : 0 ≤ tc) (h1 : tc ≤ 255) (h2 : 0 ≤ rc) (h3 : rc ≤ 255) :
    Calls Tryz.prog 122 #[.pointer (some ⟨b, 0, none⟩)] w fun e w' => (∃ v, e = .returned v) ∧ w'.heap[b]? = some (.cells (cnL (cntTc 2 tc) (cntRc 2 rc) off rs).toArray t (0, 0)) ∧ w.grownBy w' (some b) := by
  obtain ⟨c0, c1, c2, c3⟩ := cn_cells h.out
  have f0 := cl_froz h.out 0
  have f1 := cl_froz h.out 1
  by_cases h127 : 127 ≤ rc - 1
  · obtain ⟨m, em, hm⟩ := run_max (P := Tryz.prog) 119 0
    have em' : m = 119 := by omega
    subst em'
    clear em
    go_enter Tryz.func122, Tryz.ntmps122
    go_wp2_with fail
    go_end0
    refine ⟨⟨_, rfl⟩, ?_, grownBy_trans (grownBy_trans (set_grown7 w b 1 _) (set_grown7 _ b 1 _)) (set_grown7 _ b 1 _)⟩
    have H := mc_set (mc_set (mc_set h.out 1 (.int .i64 (rc - 1))) 1 (.int .i64 119)) 1 (.int .i64 119)
    have e : cnL (cntTc 2 tc) (cntRc 2 rc) off rs = cnL tc 119 off rs := by
      have e1 : cntRc 2 rc = 119 := by unfold cntRc; rw [if_pos rfl, if_pos h127]; rfl
      have e2 : cntTc 2 tc = tc := by simp [cntTc]
      rw [e1, e2]
    rw [e]
    exact H
  · obtain ⟨m, em, hm⟩ := run_max (P := Tryz.prog) (rc - 1) 0
    have EM := hide em
    clear em
    go_enter Tryz.func122, Tryz.ntmps122
    go_wp2_with fail
    go_end0
    refine ⟨⟨_, rfl⟩, ?_, grownBy_trans (set_grown7 w b 1 _) (set_grown7 _ b 1 _)⟩
    have H := mc_set (mc_set h.out 1 (.int .i64 (rc - 1))) 1 (.int .i64 m)
    have e : cnL (cntTc 2 tc) (cntRc 2 rc) off rs = cnL tc m off rs := by
      have e1 : cntRc 2 rc = m := by unfold cntRc; rw [if_pos rfl, if_neg (show ¬ 127 ≤ rc - 1 by omega), EM.out]
      have e2 : cntTc 2 tc = tc := by simp [cntTc]
      rw [e1, e2]
    rw [e]
    exact H

set_option maxRecDepth 100000 in
set_option maxHeartbeats 2000000 in
theorem cs4_any (tc rc : Int) (off : Bool) (rs : Int) (b : Nat) (t : TypeId) (w : World) (h : Hid (w.heap[b]? = some (.cells (cnL tc rc off rs).toArray t (0, 0)))) (h0 : 0 ≤ tc) (h1 : tc ≤ 255) (h2 : 0 ≤ rc) (h3 : rc ≤ 255) :
    Calls Tryz.prog 123 #[.pointer (some ⟨b, 0, none⟩)] w fun e w' => (∃ v, e = .returned v) ∧ w'.heap[b]? = some (.cells (cnL (cntTc 4 tc) (cntRc 4 rc) off rs).toArray t (0, 0)) ∧ w.grownBy w' (some b) := by
  obtain ⟨c0, c1, c2, c3⟩ := cn_cells h.out
  have f0 := cl_froz h.out 0
  have f1 := cl_froz h.out 1
  obtain ⟨m, em, hm⟩ := run_min (P := Tryz.prog) (rc + 1) 255
  have EM := hide em
  clear em
  go_enter Tryz.func123, Tryz.ntmps123
  go_wp2_with fail
  go_end0
  refine ⟨⟨_, rfl⟩, ?_, set_grown7 w b 1 _⟩
  have H := mc_set h.out 1 (.int .i64 (m))
  have e : cnL (cntTc 4 tc) (cntRc 4 rc) off rs = cnL tc m off rs := by rw [EM.out]; simp [cntTc, cntRc]
  rw [e]
  exact H

set_option maxRecDepth 100000 in
set_option maxHeartbeats 2000000 in
theorem cs5_any (tc rc : Int) (off : Bool) (rs : Int) (b : Nat) (t : TypeId) (w : World) (h : Hid (w.heap[b]? = some (.cells (cnL tc rc off rs).toArray t (0, 0)))) (h0 : 0 ≤ tc) (h1 : tc ≤ 255) (h2 : 0 ≤ rc) (h3 : rc ≤ 255) :
    Calls Tryz.prog 124 #[.pointer (some ⟨b, 0, none⟩)] w fun e w' => (∃ v, e = .returned v) ∧ w'.heap[b]? = some (.cells (cnL (cntTc 6 tc) (cntRc 6 rc) off rs).toArray t (0, 0)) ∧ w.grownBy w' (some b) := by
  obtain ⟨c0, c1, c2, c3⟩ := cn_cells h.out
  have f0 := cl_froz h.out 0
  have f1 := cl_froz h.out 1
  obtain ⟨m, em, hm⟩ := run_min (P := Tryz.prog) (rc + 8) 255
  have EM := hide em
  clear em
  go_enter Tryz.func124, Tryz.ntmps124
  go_wp2_with fail
  go_end0
  refine ⟨⟨_, rfl⟩, ?_, set_grown7 w b 1 _⟩
  have H := mc_set h.out 1 (.int .i64 (m))
  have e : cnL (cntTc 6 tc) (cntRc 6 rc) off rs = cnL tc m off rs := by rw [EM.out]; simp [cntTc, cntRc]
  rw [e]
  exact H

set_option maxRecDepth 100000 in
set_option maxHeartbeats 2000000 in
theorem cs6_any (tc rc : Int) (off : Bool) (rs : Int) (b : Nat) (t : TypeId) (w : World) (h : Hid (w.heap[b]? = some (.cells (cnL tc rc off rs).toArray t (0, 0)))) (h0 : 0 ≤ tc) (h1 : tc ≤ 255) (h2 : 0 ≤ rc) (h3 : rc ≤ 255) :
    Calls Tryz.prog 125 #[.pointer (some ⟨b, 0, none⟩)] w fun e w' => (∃ v, e = .returned v) ∧ w'.heap[b]? = some (.cells (cnL (cntTc 7 tc) (cntRc 7 rc) off rs).toArray t (0, 0)) ∧ w.grownBy w' (some b) := by
  obtain ⟨c0, c1, c2, c3⟩ := cn_cells h.out
  have f0 := cl_froz h.out 0
  have f1 := cl_froz h.out 1
  go_enter Tryz.func125, Tryz.ntmps125
  go_wp2_with fail
  go_end0
  refine ⟨⟨_, rfl⟩, ?_, grownBy_refl w _⟩
  have e : cnL (cntTc 7 tc) (cntRc 7 rc) off rs = cnL tc rc off rs := by simp [cntTc, cntRc]
  rw [e]
  exact h.out
end Go.Proofs.YthkilodnghiocaaGreatDoor
