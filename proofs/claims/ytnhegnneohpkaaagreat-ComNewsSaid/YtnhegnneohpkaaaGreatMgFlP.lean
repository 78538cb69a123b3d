/- Filters, ways, sendings, watches: which may be. Plain: no program in sight. -/
import Derived.Test.YtnhegnneohpkaaaGreatPdP
import Derived.Test.YtnhegnneohpkaaaGreatMem
import Derived.OrdersHeld
namespace Go.Proofs.YtnhegnneohpkaaaGreat
namespace CM
open SG PD

structure Flt where
  kind : Int
  mask : Int
  x : Int
  mn : Int
  mx : Int
  every : Int
  frm : Int
  old : Int
  count : Int
def fltB (f : Flt) : Bool := decide (1 ≤ f.kind ∧ f.kind ≤ 8 ∧ f.mn ≤ f.mx ∧ 0 ≤ f.count ∧ f.count ≤ 1099511627776 ∧ (f.kind = 8 → 1 ≤ f.every ∧ f.every ≤ 1000000 ∧ 0 ≤ f.frm ∧ f.frm < f.every))
theorem fltB_iff {f : Flt} : fltB f = true ↔ 1 ≤ f.kind ∧ f.kind ≤ 8 ∧ f.mn ≤ f.mx ∧ 0 ≤ f.count ∧ f.count ≤ 1099511627776 ∧ (f.kind = 8 → 1 ≤ f.every ∧ f.every ≤ 1000000 ∧ 0 ≤ f.frm ∧ f.frm < f.every) := by unfold fltB; rw [decide_eq_true_eq]

/-- Does a value pass? -/
def eqF (f : Flt) (v : Int) : Bool := bits .and .i64 v f.mask == f.x
def inF (f : Flt) (v : Int) : Bool := decide (f.mn ≤ v) && decide (v ≤ f.mx)
def newF (f : Flt) (v : Int) : Bool := bits .and .i64 (bits .xor .i64 v f.old) f.mask != 0
def evF (f : Flt) : Bool := f.count.tmod f.every == f.frm
def fltP (f : Flt) (v : Int) : Bool :=
  if f.kind = 1 then true else if f.kind = 2 then false else if f.kind = 3 then eqF f v else if f.kind = 4 then !eqF f v else if f.kind = 5 then newF f v else if f.kind = 6 then inF f v else if f.kind = 7 then !inF f v else evF f

structure Wy where
  kind : Int
  first : Int
  period : Int
  reps : Int
  gap : Int
def perB (w : Wy) : Bool := decide (w.kind = 2 ∨ w.kind = 3)
def dirB (w : Wy) : Bool := decide (w.kind = 1 ∨ w.kind = 3)
def wayB (w : Wy) : Bool := decide (0 ≤ w.kind ∧ w.kind ≤ 3 ∧ 0 ≤ w.first ∧ w.first ≤ 1000000 ∧ 0 ≤ w.period ∧ w.period ≤ 1000000 ∧ 0 ≤ w.reps ∧ w.reps ≤ 100 ∧ 0 ≤ w.gap ∧ w.gap ≤ 1000000 ∧ ((w.kind = 2 ∨ w.kind = 3) → 0 < w.period) ∧ (w.reps = 0 ∨ 0 < w.gap))
theorem wayB_iff {w : Wy} : wayB w = true ↔ 0 ≤ w.kind ∧ w.kind ≤ 3 ∧ 0 ≤ w.first ∧ w.first ≤ 1000000 ∧ 0 ≤ w.period ∧ w.period ≤ 1000000 ∧ 0 ≤ w.reps ∧ w.reps ≤ 100 ∧ 0 ≤ w.gap ∧ w.gap ≤ 1000000 ∧ ((w.kind = 2 ∨ w.kind = 3) → 0 < w.period) ∧ (w.reps = 0 ∨ 0 < w.gap) := by unfold wayB; rw [decide_eq_true_eq]

structure Snd where
  yes : Wy
  no : Wy
  on : Bool
  delay : Int
  period : Int
  gap : Int
  left : Int
  hold : Int
  asked : Bool
def Snd.way (s : Snd) : Wy := if s.on then s.yes else s.no
def sndB (s : Snd) : Bool := wayB s.yes && (wayB s.no && decide (0 ≤ s.delay ∧ s.delay ≤ 1000000 ∧ 0 ≤ s.hold ∧ s.hold ≤ s.delay ∧
  (if perB s.way then 1 ≤ s.period ∧ s.period ≤ max (max s.way.first s.way.period) 1 else s.period = 0) ∧
  0 ≤ s.left ∧ s.left ≤ (if dirB s.way then s.way.reps else 0) ∧ (if 0 < s.left then 1 ≤ s.gap ∧ s.gap ≤ s.way.gap else s.gap = 0)))
/-- A new one. -/
def sndNew (yes no : Wy) (on : Bool) (delay : Int) : Snd := ⟨yes, no, on, delay, if perB (if on then yes else no) then max (if on then yes else no).first 1 else 0, 0, 0, 0, false⟩
def newSndB (yes no : Wy) (delay : Int) : Bool := wayB yes && (wayB no && decide (0 ≤ delay ∧ delay ≤ 1000000))
theorem sndNew_right {yes no : Wy} {on : Bool} {delay : Int} (h : newSndB yes no delay = true) : sndB (sndNew yes no on delay) = true := by
  unfold newSndB at h
  simp only [Bool.and_eq_true, decide_eq_true_eq] at h
  obtain ⟨h1, h2, h3⟩ := h
  have hw : wayB (if on then yes else no) = true := by cases on <;> simp [h1, h2]
  have hw' := wayB_iff.1 hw
  unfold sndB sndNew
  simp only [Bool.and_eq_true, decide_eq_true_eq]
  refine ⟨h1, h2, h3.1, h3.2, by omega, by omega, ?_⟩
  have e : (Snd.way ⟨yes, no, on, delay, if perB (if on then yes else no) then max (if on then yes else no).first 1 else 0, 0, 0, 0, false⟩) = if on then yes else no := rfl
  rw [e]
  generalize (if on then yes else no) = w at *
  refine ⟨?_, by omega, ?_, by simp⟩
  · split
    · omega
    · rfl
  · split <;> omega

structure Wt where
  first : Int
  each : Int
  left : Int
  on : Bool
  late : Bool
def wtB (w : Wt) : Bool := decide (0 ≤ w.first ∧ w.first ≤ 1000000 ∧ 0 ≤ w.each ∧ w.each ≤ 1000000 ∧ 0 ≤ w.left ∧ w.left ≤ max w.first w.each ∧ (w.on = true ∨ w.left = 0 ∧ w.late = false) ∧ (w.late = false ∨ w.left = 0))
end CM
end Go.Proofs.YtnhegnneohpkaaaGreat

/- A region that draws its order: loads are taken first, each under its own condition on the world, which the operations keep that may come ahead of it (and these alone: a store that waits for the load may turn the cell). Nothing of the program's text. -/
namespace Go.Proofs.YtnhegnneohpkaaaGreat
open Go.ChangeShapes Go.WideShapes Go.ChangeAt Go.RowKit

section
variable {P : Program} {ops : Array Oper} {Q : Exit → Act → World → Prop} {md : Region.Mode}

/-- May j come ahead of i? -/
def mayAhead (md : Region.Mode) (ops : Array Oper) (i j : Nat) : Bool := match ops[j]? with
  | none => false
  | some oj => !(oj.after.any fun e => Region.binds md e && e.on == i)

/-- What is to be shown behind j: a load leaves the world; another operation keeps the conditions of the loads that it may be ahead of. -/
def keeps (md : Region.Mode) (ops : Array Oper) (L : List Nat) (R : Nat → World → Prop) (j : Nat) (w w' : World) : Prop :=
  (j ∈ L → w' = w) ∧ (j ∉ L → ∀ i ∈ L, mayAhead md ops i j = true → R i w')

def wpAnyS (P : Program) (md : Region.Mode) (ops : Array Oper) (Q : Exit → Act → World → Prop) (L : List Nat) (R : Nat → World → Prop) : Nat → Array Bool → Act → World → Prop
  | 0, listed, a, w => Region.ready md ops listed = [] ∧ Q .normal a w
  | fuel + 1, listed, a, w =>
    (Region.ready md ops listed = [] → Q .normal a w) ∧
    ∀ i ∈ Region.ready md ops listed, wpOp P ops Q i (fun a' w' => keeps md ops L R i w w' ∧ wpAnyS P md ops Q L R fuel (listed.setIfInBounds i true) a' w') a w

variable {L : List Nat} {R : Nat → World → Prop}

theorem wpAny_of_S : ∀ (fuel : Nat) (listed : Array Bool) (a : Act) (w : World), wpAnyS P md ops Q L R fuel listed a w → wpAny P md ops Q fuel listed a w
  | 0, _, _, _, h => h
  | fuel + 1, _, _, _, h => ⟨h.1, fun i hi => wpOp_mono (fun a' w' h' => wpAny_of_S fuel _ a' w' h'.2) (h.2 i hi)⟩

theorem keeps_all {j : Nat} {w w' : World} (hj : j ∉ L) (h : ∀ i ∈ L, R i w') : keeps md ops L R j w w' := ⟨fun h => absurd h hj, fun _ i hi _ => h i hi⟩

theorem wpAnyS_first {i : Nat} {oi : Oper} {v : Value} (hi : ops[i]? = some oi) (hL : i ∈ L) (hsel : ∀ (j : Nat) (o : Oper) cs b, ops[j]? = some o → o.op ≠ .select cs b)
    (hQ : ∀ c a w, Q (.panic c) (a.put oi.dst v) w → Q (.panic c) a w) :
    ∀ (fuel : Nat) (listed : Array Bool) (a : Act) (w : World),
      (∀ j oj, ops[j]? = some oj → j ≠ i → listed.getD j true = false → (∀ e ∈ oj.after, Region.binds md e = true → e.on ≠ i) → oi.apart ops oj = true) →
      i ∈ Region.ready md ops listed → YieldsIf P ops (R i) oi v a → R i w →
      wpAnyS P md ops Q L R fuel (listed.setIfInBounds i true) (a.put oi.dst v) w → wpAnyS P md ops Q L R (fuel + 1) listed a w := by
  have hk : ∀ w, keeps md ops L R i w w := fun w => ⟨fun _ => rfl, fun h => absurd hL h⟩
  intro fuel
  induction fuel with
  | zero =>
    intro listed a w _ hr hy hS H
    refine ⟨fun h => (by rw [h] at hr; cases hr), fun j hj => ?_⟩
    by_cases hji : j = i
    · subst hji; exact hy.wpOp hi hS ⟨hk w, H⟩
    · have := ready_mono hj hji
      rw [H.1] at this
      cases this
  | succ fuel ih =>
    intro listed a w hfree hr hy hS H
    refine ⟨fun h => (by rw [h] at hr; cases hr), fun j hj => ?_⟩
    by_cases hji : j = i
    · subst hji; exact hy.wpOp hi hS ⟨hk w, H⟩
    · have h1 := H.2 j (ready_mono hj hji)
      obtain ⟨hjun, oj, hoj, hall⟩ := mem_ready.1 hj
      have hnot : ∀ e ∈ oj.after, Region.binds md e = true → e.on ≠ i := fun e he hb heq => by
        have h1 := hall e he hb
        have h0 := (mem_ready.1 hr).1
        rw [heq] at h1
        rcases Nat.lt_or_ge i listed.size with h' | h'
        · simp [h'] at h0 h1; rw [h0] at h1; cases h1
        · simp [Array.getElem?_eq_none h'] at h1
      have hmay : mayAhead md ops i j = true := by
        unfold mayAhead
        rw [hoj]
        simp only [Bool.not_eq_true', Bool.eq_false_iff]
        intro h
        obtain ⟨e, he, hb⟩ := Array.any_eq_true'.1 h
        simp only [Bool.and_eq_true, beq_iff_eq] at hb
        exact hnot e he hb.1 hb.2
      have h2 := wpOp_putIf hoj (hfree j oj hoj hji hjun hnot) (fun cs b => hsel i oi cs b hi) (fun cs b => hsel j oj cs b hoj) hQ hy h1
      have hfree' : ∀ k ok, ops[k]? = some ok → k ≠ i → (listed.setIfInBounds j true).getD k true = false →
          (∀ e ∈ ok.after, Region.binds md e = true → e.on ≠ i) → oi.apart ops ok = true := fun k ok hk hki hun hno => by
        refine hfree k ok hk hki ?_ hno
        by_cases hjk : j = k
        · subst hjk; exact hjun
        · rw [getD_set_ne true hjk] at hun; exact hun
      refine wpOp_mono (fun a' w' h3 => ⟨h3.2.1, ih (listed.setIfInBounds j true) a' w' hfree' (ready_mono hr (Ne.symm hji)) h3.1 ?_ ?_⟩) h2
      · by_cases hjL : j ∈ L
        · rw [h3.2.1.1 hjL]; exact hS
        · exact h3.2.1.2 hjL i hL hmay
      · rw [Array.setIfInBounds_comm _ _ hji]
        exact h3.2.2

theorem wpAnyS_take {i : Nat} {oi : Oper} {v : Value} {fuel : Nat} {listed : Array Bool} {a : Act} {w : World} (hi : ops[i]? = some oi) (hL : i ∈ L)
    (hs : Region.noSelect ops = true) (hf : Region.free md ops listed i = true) (hr : (Region.ready md ops listed).contains i = true)
    (hQ : ∀ c a w, Q (.panic c) (a.put oi.dst v) w → Q (.panic c) a w) (hg : oi.guard = none) (hy : ∀ w, R i w → (execOp a.eval oi).run P w = .ok (.value v) w) (hS : R i w)
    (h : wpAnyS P md ops Q L R fuel (listed.setIfInBounds i true) (a.put oi.dst v) w) : wpAnyS P md ops Q L R (fuel + 1) listed a w :=
  wpAnyS_first hi hL (Region.noSelect_spec hs) hQ fuel listed a w (Region.free_spec hi hf) (by simpa using hr) (.inl ⟨by simp [Region.wanted, hg], hy⟩) hS h

theorem wpAnyS_one {i : Nat} {fuel : Nat} {listed : Array Bool} {a : Act} {w : World} (hr : Region.ready md ops listed = [i])
    (h : wpOp P ops Q i (fun a' w' => keeps md ops L R i w w' ∧ wpAnyS P md ops Q L R fuel (listed.setIfInBounds i true) a' w') a w) : wpAnyS P md ops Q L R (fuel + 1) listed a w :=
  ⟨fun h0 => absurd (hr.symm.trans h0) (by simp), hr ▸ fun j hj => by rw [List.mem_singleton] at hj; subst hj; exact h⟩

theorem wpAnyS_two {i k : Nat} {fuel : Nat} {listed : Array Bool} {a : Act} {w : World} (hr : Region.ready md ops listed = [i, k])
    (h : wpOp P ops Q i (fun a' w' => keeps md ops L R i w w' ∧ wpAnyS P md ops Q L R fuel (listed.setIfInBounds i true) a' w') a w)
    (h' : wpOp P ops Q k (fun a' w' => keeps md ops L R k w w' ∧ wpAnyS P md ops Q L R fuel (listed.setIfInBounds k true) a' w') a w) : wpAnyS P md ops Q L R (fuel + 1) listed a w :=
  ⟨fun h0 => absurd (hr.symm.trans h0) (by simp), hr ▸ fun j hj => by
    simp only [List.mem_cons, List.not_mem_nil, or_false] at hj
    rcases hj with rfl | rfl
    · exact h
    · exact h'⟩

theorem wpAnyS_done {listed : Array Bool} {a : Act} {w : World} (hr : Region.ready md ops listed = []) (h : Q .normal a w) : ∀ fuel, wpAnyS P md ops Q L R fuel listed a w
  | 0 => ⟨hr, h⟩
  | _ + 1 => ⟨fun _ => h, by rw [hr]; simp⟩

theorem wpOp_at {i : Nat} {o : Oper} {K : Act → World → Prop} {a : Act} {w : World} (hi : ops[i]? = some o) (h : if Region.wanted o (yielded ops a.tmps) = true then Oper.wp P o a w K Q else K (a.put o.dst undef) w) : wpOp P ops Q i K a w := by
  unfold wpOp
  rw [hi]
  dsimp only
  split
  · rename_i hw
    rw [if_pos hw] at h
    exact .inl h
  · rename_i hw
    rw [if_neg hw] at h
    exact h

theorem wp_region_S (L : List Nat) (R : Nat → World → Prop) {id : Nat} {a : Act} {w : World} (hm : P.follows .mixedOrders = true)
    (h : wpAnyS P .any ops Q L R ops.size (Array.replicate ops.size false) a w.drew) : (Code.region id ops true).wp P Q a w :=
  wp_region_any hm (wpAny_of_S _ _ _ _ h)
end
end Go.Proofs.YtnhegnneohpkaaaGreat
