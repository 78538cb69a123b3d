/- A region that draws its order, by a list of what its loads ask: a load is taken first if all that may come ahead of it keep what it asks; what must come behind it (through others, too) need not. Nothing of the program's text. -/
import Derived.Test.YthkilodnghiocaaGreatDoorOwS
namespace Go.Proofs.YthkilodnghiocaaGreatDoor
open Go.ChangeShapes Go.WideShapes Go.ChangeAt Go.RowKit

section
variable {P : Program} {ops : Array Oper} {Q : Exit → Act → World → Prop} {md : Region.Mode}

/-- Is all that what is listed comes behind listed, too? -/
def closedB (md : Region.Mode) (ops : Array Oper) (listed : Array Bool) : Bool :=
  (List.range ops.size).all fun j => !listed.getD j false || ((ops[j]?).map (·.after.all fun e => !Region.binds md e || listed.getD e.on false)).getD true

def behindStep (md : Region.Mode) (ops : Array Oper) (i : Nat) (acc : List Bool) (k : Nat) : List Bool :=
  acc ++ [match ops[k]? with | none => false | some o => o.after.any fun e => Region.binds md e && (e.on == i || acc.getD e.on false)]
/-- Which of the first n must come behind i? -/
def behindTo (md : Region.Mode) (ops : Array Oper) (i : Nat) : Nat → List Bool
  | 0 => []
  | k + 1 => behindStep md ops i (behindTo md ops i k) k
theorem behindTo_len (i : Nat) : ∀ n, (behindTo md ops i n).length = n
  | 0 => rfl
  | k + 1 => by rw [behindTo, behindStep, List.length_append, behindTo_len i k]; rfl
/-- May j come ahead of i? -/
def aheadT (md : Region.Mode) (ops : Array Oper) (i j : Nat) : Bool := !((behindTo md ops i ops.size).getD j false)

theorem closed_spec {listed : Array Bool} (hc : closedB md ops listed = true) {j : Nat} {o : Oper} (ho : ops[j]? = some o) (hl : listed.getD j false = true) : ∀ e ∈ o.after, Region.binds md e = true → listed.getD e.on false = true := by
  intro e he hb
  have h := List.all_eq_true.1 hc j (List.mem_range.2 (Array.getElem?_eq_some_iff.1 ho).1)
  rw [hl, ho] at h
  simp only [Bool.not_true, Bool.false_or, Option.map_some, Option.getD_some] at h
  have := Array.all_eq_true_iff_forall_mem.1 h e he
  simpa [hb] using this

theorem behind_spec {listed : Array Bool} (hc : closedB md ops listed = true) {i : Nat} (hi : listed.getD i false = false) : ∀ n j, (behindTo md ops i n).getD j false = true → listed.getD j false = false ∧ ∃ o e, ops[j]? = some o ∧ e ∈ o.after ∧ Region.binds md e = true ∧ listed.getD e.on false = false
  | 0, j, h => by simp [behindTo] at h
  | k + 1, j, h => by
    rw [behindTo, behindStep, List.getD_eq_getElem?_getD] at h
    by_cases hj : j < k
    · rw [List.getElem?_append_left (by rw [behindTo_len]; exact hj), ← List.getD_eq_getElem?_getD] at h
      exact behind_spec hc hi k j h
    · rw [List.getElem?_append_right (by rw [behindTo_len]; omega), behindTo_len] at h
      have hjk : j = k := by
        rcases Nat.lt_or_ge k j with h' | h'
        · rw [List.getElem?_eq_none (by simp; omega)] at h; simp at h
        · omega
      subst hjk
      rw [Nat.sub_self, List.getElem?_cons_zero, Option.getD_some] at h
      rcases ho : ops[j]? with _ | o
      · rw [ho] at h; cases h
      · rw [ho] at h
        obtain ⟨e, he, hb⟩ := Array.any_eq_true'.1 h
        simp only [Bool.and_eq_true, Bool.or_eq_true, beq_iff_eq] at hb
        have hun : listed.getD e.on false = false := by
          rcases hb.2 with hb | hb
          · rw [hb]; exact hi
          · exact (behind_spec hc hi j e.on hb).1
        refine ⟨?_, o, e, rfl, he, hb.1, hun⟩
        rcases hl : listed.getD j false with _ | _
        · rfl
        · have := closed_spec hc ho hl e he hb.1
          rw [hun] at this; cases this

theorem closed_set {listed : Array Bool} (hc : closedB md ops listed = true) {j : Nat} (hj : j ∈ Region.ready md ops listed) : closedB md ops (listed.setIfInBounds j true) = true := by
  obtain ⟨_, oj, hoj, hall⟩ := mem_ready.1 hj
  refine List.all_eq_true.2 fun k hk => ?_
  have h := List.all_eq_true.1 hc k hk
  rcases ho : ops[k]? with _ | o
  · simp
  · simp only [Option.map_some, Option.getD_some, Bool.or_eq_true, Bool.not_eq_true']
    by_cases hkj : j = k
    · subst hkj
      right
      rw [hoj] at ho
      cases ho
      refine Array.all_eq_true_iff_forall_mem.2 fun e he => ?_
      rcases hb : Region.binds md e with _ | _
      · rfl
      · simpa using getD_set_true (i := j) (hall e he hb)
    · rw [getD_set_ne false hkj]
      rw [ho] at h
      simp only [Option.map_some, Option.getD_some, Bool.or_eq_true, Bool.not_eq_true'] at h
      refine h.imp id fun h => Array.all_eq_true_iff_forall_mem.2 fun e he => ?_
      have := Array.all_eq_true_iff_forall_mem.1 h e he
      simp only [Bool.or_eq_true, Bool.not_eq_true'] at this ⊢
      exact this.imp id getD_set_true

/-- What the loads ask, by their numbers. -/
def RL (l : List (Nat × (World → Prop))) (i : Nat) (w : World) : Prop := match l.lookup i with
  | some C => C w
  | none => True

def keepsL (md : Region.Mode) (ops : Array Oper) (L : List Nat) (l : List (Nat × (World → Prop))) (j : Nat) (w w' : World) : Prop :=
  (j ∈ L → w' = w) ∧ (j ∉ L → ∀ i ∈ L, aheadT md ops i j = true → RL l i w')

def wpAnyL (P : Program) (md : Region.Mode) (ops : Array Oper) (Q : Exit → Act → World → Prop) (L : List Nat) (l : List (Nat × (World → Prop))) : Nat → Array Bool → Act → World → Prop
  | 0, listed, a, w => Region.ready md ops listed = [] ∧ Q .normal a w
  | fuel + 1, listed, a, w =>
    (Region.ready md ops listed = [] → Q .normal a w) ∧
    ∀ i ∈ Region.ready md ops listed, wpOp P ops Q i (fun a' w' => keepsL md ops L l i w w' ∧ wpAnyL P md ops Q L l fuel (listed.setIfInBounds i true) a' w') a w

variable {L : List Nat} {l : List (Nat × (World → Prop))}

theorem wpAny_of_L : ∀ (fuel : Nat) (listed : Array Bool) (a : Act) (w : World), wpAnyL P md ops Q L l fuel listed a w → wpAny P md ops Q fuel listed a w
  | 0, _, _, _, h => h
  | fuel + 1, _, _, _, h => ⟨h.1, fun i hi => wpOp_mono (fun a' w' h' => wpAny_of_L fuel _ a' w' h'.2) (h.2 i hi)⟩

theorem wpAnyL_first {i : Nat} {oi : Oper} {v : Value} (hi : ops[i]? = some oi) (hL : i ∈ L) (hsel : ∀ (j : Nat) (o : Oper) cs b, ops[j]? = some o → o.op ≠ .select cs b)
    (hQ : ∀ c a w, Q (.panic c) (a.put oi.dst v) w → Q (.panic c) a w) :
    ∀ (fuel : Nat) (listed : Array Bool) (a : Act) (w : World), closedB md ops listed = true →
      (∀ j oj, ops[j]? = some oj → j ≠ i → listed.getD j true = false → (∀ e ∈ oj.after, Region.binds md e = true → e.on ≠ i) → oi.apart ops oj = true) →
      i ∈ Region.ready md ops listed → YieldsIf P ops (RL l i) oi v a → RL l i w →
      wpAnyL P md ops Q L l fuel (listed.setIfInBounds i true) (a.put oi.dst v) w → wpAnyL P md ops Q L l (fuel + 1) listed a w := by
  have hk : ∀ w, keepsL md ops L l i w w := fun w => ⟨fun _ => rfl, fun h => absurd hL h⟩
  intro fuel
  induction fuel with
  | zero =>
    intro listed a w _ _ hr hy hS H
    refine ⟨fun h => (by rw [h] at hr; cases hr), fun j hj => ?_⟩
    by_cases hji : j = i
    · subst hji; exact hy.wpOp hi hS ⟨hk w, H⟩
    · have := ready_mono hj hji
      rw [H.1] at this
      cases this
  | succ fuel ih =>
    intro listed a w hcl hfree hr hy hS H
    refine ⟨fun h => (by rw [h] at hr; cases hr), fun j hj => ?_⟩
    by_cases hji : j = i
    · subst hji; exact hy.wpOp hi hS ⟨hk w, H⟩
    · have h1 := H.2 j (ready_mono hj hji)
      obtain ⟨hjun, oj, hoj, hall⟩ := mem_ready.1 hj
      have hin : listed.getD i false = false := by
        have h0 := (mem_ready.1 hr).1
        rcases Nat.lt_or_ge i listed.size with h' | h'
        · simpa [h'] using h0
        · simp [Array.getElem?_eq_none h'] at h0
      have hnot : ∀ e ∈ oj.after, Region.binds md e = true → e.on ≠ i := fun e he hb heq => by
        have h1 := hall e he hb
        rw [heq, hin] at h1
        cases h1
      have hmay : aheadT md ops i j = true := by
        unfold aheadT
        rcases hb : (behindTo md ops i ops.size).getD j false with _ | _
        · rfl
        · obtain ⟨_, o, e, ho, he, hbe, hun⟩ := behind_spec hcl hin _ _ hb
          rw [hoj] at ho
          cases ho
          have := hall e he hbe
          rw [hun] at this; cases this
      have h2 := wpOp_putIf hoj (hfree j oj hoj hji hjun hnot) (fun cs b => hsel i oi cs b hi) (fun cs b => hsel j oj cs b hoj) hQ hy h1
      have hfree' : ∀ k ok, ops[k]? = some ok → k ≠ i → (listed.setIfInBounds j true).getD k true = false →
          (∀ e ∈ ok.after, Region.binds md e = true → e.on ≠ i) → oi.apart ops ok = true := fun k ok hk hki hun hno => by
        refine hfree k ok hk hki ?_ hno
        by_cases hjk : j = k
        · subst hjk; exact hjun
        · rw [getD_set_ne true hjk] at hun; exact hun
      refine wpOp_mono (fun a' w' h3 => ⟨h3.2.1, ih (listed.setIfInBounds j true) a' w' (closed_set hcl hj) hfree' (ready_mono hr (Ne.symm hji)) h3.1 ?_ ?_⟩) h2
      · by_cases hjL : j ∈ L
        · rw [h3.2.1.1 hjL]; exact hS
        · exact h3.2.1.2 hjL i hL hmay
      · rw [Array.setIfInBounds_comm _ _ hji]
        exact h3.2.2

/-- A load that asks C. -/
theorem wpAnyL_load {i : Nat} {oi : Oper} {C : World → Prop} {v : Value} {fuel : Nat} {listed : Array Bool} {a : Act} {w : World} (hi : ops[i]? = some oi) (hl : l.lookup i = some C) (hL : L.contains i = true)
    (hs : Region.noSelect ops = true) (hf : Region.free md ops listed i = true) (hr : (Region.ready md ops listed).contains i = true) (hcl : closedB md ops listed = true)
    (hQ : ∀ c a w, Q (.panic c) (a.put oi.dst v) w → Q (.panic c) a w) (hg : oi.guard = none) (hy : ∀ w, C w → (execOp a.eval oi).run P w = .ok (.value v) w) (hS : C w)
    (h : wpAnyL P md ops Q L l fuel (listed.setIfInBounds i true) (a.put oi.dst v) w) : wpAnyL P md ops Q L l (fuel + 1) listed a w :=
  have e : ∀ w, RL l i w ↔ C w := fun w => by unfold RL; rw [hl]
  wpAnyL_first hi (by simpa using hL) (Region.noSelect_spec hs) hQ fuel listed a w hcl (Region.free_spec hi hf) (by simpa using hr) (.inl ⟨by simp [Region.wanted, hg], fun w h => hy w ((e w).1 h)⟩) ((e w).2 hS) h
/-- A step that asks nothing of memory. -/
theorem wpAnyL_pure {i : Nat} {oi : Oper} {v : Value} {fuel : Nat} {listed : Array Bool} {a : Act} {w : World} (hi : ops[i]? = some oi) (hl : l.lookup i = none) (hL : L.contains i = true)
    (hs : Region.noSelect ops = true) (hf : Region.free md ops listed i = true) (hr : (Region.ready md ops listed).contains i = true) (hcl : closedB md ops listed = true)
    (hQ : ∀ c a w, Q (.panic c) (a.put oi.dst v) w → Q (.panic c) a w) (hg : oi.guard = none) (hy : ∀ w, (execOp a.eval oi).run P w = .ok (.value v) w)
    (h : wpAnyL P md ops Q L l fuel (listed.setIfInBounds i true) (a.put oi.dst v) w) : wpAnyL P md ops Q L l (fuel + 1) listed a w :=
  wpAnyL_first hi (by simpa using hL) (Region.noSelect_spec hs) hQ fuel listed a w hcl (Region.free_spec hi hf) (by simpa using hr) (.inl ⟨by simp [Region.wanted, hg], fun w _ => hy w⟩) (by unfold RL; rw [hl]; trivial) h

/-- The same, guarded: the guard holds. -/
theorem wpAnyL_loadG {i : Nat} {oi : Oper} {C : World → Prop} {v : Value} {fuel : Nat} {listed : Array Bool} {a : Act} {w : World} (hi : ops[i]? = some oi) (hl : l.lookup i = some C) (hL : L.contains i = true)
    (hs : Region.noSelect ops = true) (hf : Region.free md ops listed i = true) (hr : (Region.ready md ops listed).contains i = true) (hcl : closedB md ops listed = true)
    (hQ : ∀ c a w, Q (.panic c) (a.put oi.dst v) w → Q (.panic c) a w) (hg : Region.wanted oi (yielded ops a.tmps) = true) (hy : ∀ w, C w → (execOp a.eval oi).run P w = .ok (.value v) w) (hS : C w)
    (h : wpAnyL P md ops Q L l fuel (listed.setIfInBounds i true) (a.put oi.dst v) w) : wpAnyL P md ops Q L l (fuel + 1) listed a w :=
  have e : ∀ w, RL l i w ↔ C w := fun w => by unfold RL; rw [hl]
  wpAnyL_first hi (by simpa using hL) (Region.noSelect_spec hs) hQ fuel listed a w hcl (Region.free_spec hi hf) (by simpa using hr) (.inl ⟨hg, fun w h => hy w ((e w).1 h)⟩) ((e w).2 hS) h
theorem wpAnyL_pureG {i : Nat} {oi : Oper} {v : Value} {fuel : Nat} {listed : Array Bool} {a : Act} {w : World} (hi : ops[i]? = some oi) (hl : l.lookup i = none) (hL : L.contains i = true)
    (hs : Region.noSelect ops = true) (hf : Region.free md ops listed i = true) (hr : (Region.ready md ops listed).contains i = true) (hcl : closedB md ops listed = true)
    (hQ : ∀ c a w, Q (.panic c) (a.put oi.dst v) w → Q (.panic c) a w) (hg : Region.wanted oi (yielded ops a.tmps) = true) (hy : ∀ w, (execOp a.eval oi).run P w = .ok (.value v) w)
    (h : wpAnyL P md ops Q L l fuel (listed.setIfInBounds i true) (a.put oi.dst v) w) : wpAnyL P md ops Q L l (fuel + 1) listed a w :=
  wpAnyL_first hi (by simpa using hL) (Region.noSelect_spec hs) hQ fuel listed a w hcl (Region.free_spec hi hf) (by simpa using hr) (.inl ⟨hg, fun w _ => hy w⟩) (by unfold RL; rw [hl]; trivial) h
/-- What is not wanted yields nothing. -/
theorem wpAnyL_skip {i : Nat} {oi : Oper} {fuel : Nat} {listed : Array Bool} {a : Act} {w : World} (hi : ops[i]? = some oi) (hl : l.lookup i = none) (hL : L.contains i = true)
    (hs : Region.noSelect ops = true) (hf : Region.free md ops listed i = true) (hr : (Region.ready md ops listed).contains i = true) (hcl : closedB md ops listed = true)
    (hQ : ∀ c a w, Q (.panic c) (a.put oi.dst undef) w → Q (.panic c) a w) (hg : Region.wanted oi (yielded ops a.tmps) = false)
    (h : wpAnyL P md ops Q L l fuel (listed.setIfInBounds i true) (a.put oi.dst undef) w) : wpAnyL P md ops Q L l (fuel + 1) listed a w :=
  wpAnyL_first hi (by simpa using hL) (Region.noSelect_spec hs) hQ fuel listed a w hcl (Region.free_spec hi hf) (by simpa using hr) (.inr ⟨hg, rfl⟩) (by unfold RL; rw [hl]; trivial) h

/-- What an operation that writes keeps: what each load asks that may come behind it. -/
def keepAll (md : Region.Mode) (ops : Array Oper) (j : Nat) (w' : World) : List (Nat × (World → Prop)) → Prop
  | [] => True
  | p :: r => (aheadT md ops p.1 j = false ∨ p.2 w') ∧ keepAll md ops j w' r
theorem keepAll.nil {j : Nat} {w' : World} : keepAll md ops j w' [] := trivial
theorem keepAll.cons {j : Nat} {w' : World} {i : Nat} {C : World → Prop} {r : List (Nat × (World → Prop))} (h : C w') (h2 : keepAll md ops j w' r) : keepAll md ops j w' ((i, C) :: r) := ⟨.inr h, h2⟩
theorem keepAll.past {j : Nat} {w' : World} {i : Nat} {C : World → Prop} {r : List (Nat × (World → Prop))} (h : aheadT md ops i j = false) (h2 : keepAll md ops j w' r) : keepAll md ops j w' ((i, C) :: r) := ⟨.inl h, h2⟩
theorem keepsL_mk {j : Nat} {w w' : World} (hj : L.contains j = false) (h : keepAll md ops j w' l) : keepsL md ops L l j w w' := by
  refine ⟨fun h => absurd h (by simpa using hj), fun _ i _ hm => ?_⟩
  unfold RL
  clear hj
  induction l with
  | nil => exact trivial
  | cons p r ih =>
    obtain ⟨k, C⟩ := p
    rw [List.lookup_cons]
    by_cases hk : i = k
    · subst hk
      rw [beq_self_eq_true]
      rcases h.1 with h1 | h1
      · rw [h1] at hm; cases hm
      · exact h1
    · rw [beq_eq_false_iff_ne.2 hk]
      exact ih h.2
theorem keepsL_all {j : Nat} {w w' : World} (hj : L.contains j = false) (h : (l.all fun p => !aheadT md ops p.1 j) = true) : keepsL md ops L l j w w' :=
  keepsL_mk hj (by
    clear hj
    induction l with
    | nil => exact trivial
    | cons p r ih =>
      simp only [List.all_cons, Bool.and_eq_true, Bool.not_eq_true'] at h
      exact ⟨.inl h.1, ih h.2⟩)

theorem wpAnyL_one {i : Nat} {fuel : Nat} {listed : Array Bool} {a : Act} {w : World} (hr : Region.ready md ops listed = [i])
    (h : wpOp P ops Q i (fun a' w' => keepsL md ops L l i w w' ∧ wpAnyL P md ops Q L l fuel (listed.setIfInBounds i true) a' w') a w) : wpAnyL P md ops Q L l (fuel + 1) listed a w :=
  ⟨fun h0 => absurd (hr.symm.trans h0) (by simp), hr ▸ fun j hj => by rw [List.mem_singleton] at hj; subst hj; exact h⟩
theorem wpAnyL_two {i k : Nat} {fuel : Nat} {listed : Array Bool} {a : Act} {w : World} (hr : Region.ready md ops listed = [i, k])
    (h : wpOp P ops Q i (fun a' w' => keepsL md ops L l i w w' ∧ wpAnyL P md ops Q L l fuel (listed.setIfInBounds i true) a' w') a w)
    (h' : wpOp P ops Q k (fun a' w' => keepsL md ops L l k w w' ∧ wpAnyL P md ops Q L l fuel (listed.setIfInBounds k true) a' w') a w) : wpAnyL P md ops Q L l (fuel + 1) listed a w :=
  ⟨fun h0 => absurd (hr.symm.trans h0) (by simp), hr ▸ fun j hj => by
    simp only [List.mem_cons, List.not_mem_nil, or_false] at hj
    rcases hj with rfl | rfl
    · exact h
    · exact h'⟩
theorem wpAnyL_done {listed : Array Bool} {a : Act} {w : World} (hr : Region.ready md ops listed = []) (h : Q .normal a w) : ∀ fuel, wpAnyL P md ops Q L l fuel listed a w
  | 0 => ⟨hr, h⟩
  | _ + 1 => ⟨fun _ => h, by rw [hr]; simp⟩
theorem wp_region_L (L : List Nat) (l : List (Nat × (World → Prop))) {id : Nat} {a : Act} {w : World} (hm : P.follows .mixedOrders = true)
    (h : wpAnyL P .any ops Q L l ops.size (Array.replicate ops.size false) a w.drew) : (Code.region id ops true).wp P Q a w :=
  wp_region_any hm (wpAny_of_L _ _ _ _ h)
end

theorem wpOp_guard {P : Program} {ops : Array Oper} {Q : Exit → Act → World → Prop} {i : Nat} {o : Oper} {K : Act → World → Prop} {a : Act} {w : World} (hi : ops[i]? = some o) (hg : Region.wanted o (yielded ops a.tmps) = true) (h : Oper.wp P o a w K Q) : wpOp P ops Q i K a w := by
  refine wpOp_at hi ?_
  rw [if_pos hg]
  exact h

theorem heapB {W W' : World} {B x : Nat} {o : Obj} (h : W.heap[x]? = some o) (q : Below B W W') (hx : x < B) : W'.heap[x]? = some o := (q.block x hx).trans h
theorem range_heap {W : World} {b : Nat} {cs : List Value} {t : TypeId} {fz : Nat × Nat} (h : W.heap[b]? = some (.cells cs.toArray t fz)) : W.rangeAt b 0 cs := fun j v hv => by
  simpa [World.cell?, h] using hv
theorem there_heap {W : World} {b : Nat} {cs : List Value} {t : TypeId} (h : W.heap[b]? = some (.cells cs.toArray t (0, 0))) : W.there b 0 cs.length :=
  there_of (range_heap h) fun j => by simp [World.frozen?, h]
theorem set_heap {t : TypeId} {b : Nat} : ∀ (vs xs : List Value) (o : Nat) (W : World), W.heap[b]? = some (.cells xs.toArray t (0, 0)) → (W.setCells b o vs).heap[b]? = some (.cells (setL xs o vs).toArray t (0, 0))
  | [], _, _, _, h => h
  | v :: r, xs, o, W, h => by
    have h1 := heap_setCell_same W b o _ t v h
    rw [World.setCells, setL]
    refine set_heap r (xs.set o v) (o + 1) _ ?_
    simpa using h1
/-- A whole box is written. -/
theorem whole_heap {t : TypeId} {b : Nat} {W : World} {xs : List Value} (vs : List Value) (h : W.heap[b]? = some (.cells xs.toArray t (0, 0))) (hl : vs.length = xs.length) : (W.setCells b 0 vs).heap[b]? = some (.cells vs.toArray t (0, 0)) := by
  have := set_heap vs xs 0 W h
  rwa [setL_whole xs vs hl] at this
theorem other_heap {b x : Nat} {o : Obj} (hx : x ≠ b) : ∀ (vs : List Value) (i : Nat) (W : World), W.heap[x]? = some o → (W.setCells b i vs).heap[x]? = some o
  | [], _, _, h => h
  | v :: r, i, W, h => by
    rw [World.setCells]
    exact other_heap hx r (i + 1) _ (by rw [heap_setCell_other W ⟨b, i, none⟩ x v (fun e => hx e)]; exact h)
/-- Another row grows: this block is none of it. -/
theorem heap_grownB {W W' : World} {x : Nat} {o : Obj} (h : W.heap[x]? = some o) {row : Option Nat} (hg : W.grownBy W' row) (hr : row ≠ some x) : W'.heap[x]? = some o :=
  (hg.block x (heap_lt h) fun e => hr e.symm).trans h
theorem rd_setCells {A : Option Addr} {sz : Nat} {R : List (List Value)} {x : Nat} (hx : ∀ g off, A = some ⟨g, off, none⟩ → g ≠ x) : ∀ (vs : List Value) (o : Nat) (w : World), Rd w w.heap.size A sz R → Rd (w.setCells x o vs) (w.setCells x o vs).heap.size A sz R
  | [], _, _, h => h
  | v :: r, o, w, h => rd_setCells hx r (o + 1) _ (by
    have := rd_setCell h hx v (j := o)
    have e : (w.setCell ⟨x, o, none⟩ v).heap.size = w.heap.size := by simp [World.setCell]
    rwa [e])
theorem wpList_store_hid {P : Program} {ops : Array Oper} {rest : List Oper} {op : Oper} {a : Act} {w : World} {Q : Exit → Act → World → Prop} (hgd : op.guard = none) (ty : TypeId) (x y : Operand) (ho : op.op = .store ty x y)
    (b o : Nat) (cs : List Value) (hx : a.eval x = .pointer (some ⟨b, o, none⟩)) (hy : a.eval y = .agg cs.toArray)
    (ht : w.there b o cs.length) (hi : (P.info? ty).map (·.size) = some cs.length) (h1 : ∀ v ∈ cs, v.oneCell' = true)
    (h : ∀ W', Hid (W' = w.setCells b o cs) → wpList P ops Q rest (a.put op.dst undef) W') : wpList P ops Q (op :: rest) a w :=
  wpList_store_as hgd ty x y ho b o cs hx hy ht hi h1 fun W' e => h W' e
/-- A block of one row is read as a slice of one. -/
theorem rd_row {W : World} {x : Nat} {cs : List Value} {t : TypeId} {fz : Nat × Nat} (h : W.heap[x]? = some (.cells cs.toArray t fz)) : Rd W W.heap.size (some ⟨x, 0, none⟩) cs.length [cs] := fun _ =>
  ⟨x, 0, rfl, heap_lt h, fun k row j u a c => by
    have hk : k = 0 := by have := (List.getElem?_eq_some_iff.1 a).1; simp at this; omega
    subst hk
    simp only [List.getElem?_cons_zero, Option.some.injEq] at a
    subst a
    rw [Nat.zero_mul]
    exact range_heap h j u c⟩
theorem own_ne {W : World} {base : Nat} {e : TypeId} {sz : Nat} {A : Option Addr} {c n : Nat} {r : List (List Value)} (h : Own W base e sz A c r) {x : Nat} (hx : W.heap.size ≤ x) : (Value.slice A n c).ownBlock ≠ some x := fun he => by
  have he' : (Value.slice A r.length c).ownBlock = some x := by rw [← he]; cases A <;> rfl
  have := (World.ownsRow.lt h x he').2
  omega
theorem exec_heap {P : Program} (W : World) (g : Nat) (ty : TypeId) (cs : List Value) (d : TypeDesc) {t : TypeId} {fz : Nat × Nat} (h : W.heap[g]? = some (.cells cs.toArray t fz)) (hu : P.underlying ty = some d) (hd : d.isRow = true) (hi : (P.info? ty).map (·.size) = some cs.length)
    (ev : Operand → Value) (op : Oper) (p : Operand) (ho : op.op = .load ty p) (hp : ev p = .pointer (some ⟨g, 0, none⟩)) : (execOp ev op).run P W = .ok (.value (.agg cs.toArray)) W :=
  exec_load W g 0 ty cs d (range_heap h) hu hd hi ev op p ho hp
end Go.Proofs.YthkilodnghiocaaGreatDoor
