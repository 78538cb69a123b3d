import Derived.Test.YtkmddjbialpppaaGreatDoorMgFin
namespace Go.Proofs.YtkmddjbialpppaaGreatDoor
open Go.ChangeShapes Go.WideShapes Go.ChangeAt Go.RowKit
section
variable {P : Program} {ops : Array Oper} {Q : Exit → Act → World → Prop} {md : Region.Mode}
def fG (md : Region.Mode) (ops : Array Oper) (listed : Array Bool) : Bool :=
  (List.range ops.size).all fun j => !listed.getD j false || ((ops[j]?).map (·.after.all fun e => !Region.binds md e || listed.getD e.on false)).getD true
def kD (md : Region.Mode) (ops : Array Oper) (i : Nat) (acc : List Bool) (k : Nat) : List Bool :=
  acc ++ [match ops[k]? with | none => false | some o => o.after.any fun e => Region.binds md e && (e.on == i || acc.getD e.on false)]
def fQ (md : Region.Mode) (ops : Array Oper) (i : Nat) : Nat → List Bool
  | 0 => []
  | k + 1 => kD md ops i (fQ md ops i k) k
theorem fY (i : Nat) : ∀ n, (fQ md ops i n).length = n
  | 0 => rfl
  | k + 1 => by rw [fQ, kD, List.length_append, fY i k]; rfl
def aheadT (md : Region.Mode) (ops : Array Oper) (i j : Nat) : Bool := !((fQ md ops i ops.size).getD j false)
theorem closed_spec {listed : Array Bool} (hc : fG md ops listed = true) {j : Nat} {o : Oper} (ho : ops[j]? = some o) (hl : listed.getD j false = true) : ∀ e ∈ o.after, Region.binds md e = true → listed.getD e.on false = true := by
  intro e he hb
  have h := List.all_eq_true.1 hc j (List.mem_range.2 (Array.getElem?_eq_some_iff.1 ho).1)
  rw [hl, ho] at h
  simp only [Bool.not_true, Bool.false_or, Option.map_some, Option.getD_some] at h
  have := Array.all_eq_true_iff_forall_mem.1 h e he
  simpa [hb] using this
theorem i8 {listed : Array Bool} (hc : fG md ops listed = true) {i : Nat} (hi : listed.getD i false = false) : ∀ n j, (fQ md ops i n).getD j false = true → listed.getD j false = false ∧ ∃ o e, ops[j]? = some o ∧ e ∈ o.after ∧ Region.binds md e = true ∧ listed.getD e.on false = false
  | 0, j, h => by simp [fQ] at h
  | k + 1, j, h => by
    rw [fQ, kD, List.getD_eq_getElem?_getD] at h
    by_cases hj : j < k
    · rw [List.getElem?_append_left (by rw [fY]; exact hj), ← List.getD_eq_getElem?_getD] at h
      exact i8 hc hi k j h
    · rw [List.getElem?_append_right (by rw [fY]; omega), fY] at h
      have hjk : j = k := by
        rcases Nat.lt_or_ge k j with h' | h'
        · rw [List.getElem?_eq_none (by simp; omega)] at h; simp at h
        · omega
      subst hjk
      rw [Nat.sub_self, List.getElem?_cons_zero, Option.getD_some] at h
      rcases ho : ops[j]? with _ | o
      · rw [ho] at h; cases h
      · rw [ho] at h
        obtain ⟨e, he, hb⟩ := Array.any_eq_true'.1 h
        simp only [Bool.and_eq_true, Bool.or_eq_true, beq_iff_eq] at hb
        have hun : listed.getD e.on false = false := by
          rcases hb.2 with hb | hb
          · rw [hb]; exact hi
          · exact (i8 hc hi j e.on hb).1
        refine ⟨?_, o, e, rfl, he, hb.1, hun⟩
        rcases hl : listed.getD j false with _ | _
        · rfl
        · have := closed_spec hc ho hl e he hb.1
          rw [hun] at this; cases this
theorem closed_set {listed : Array Bool} (hc : fG md ops listed = true) {j : Nat} (hj : j ∈ Region.ready md ops listed) : fG md ops (listed.setIfInBounds j true) = true := by
  obtain ⟨_, oj, hoj, hall⟩ := mem_ready.1 hj
  refine List.all_eq_true.2 fun k hk => ?_
  have h := List.all_eq_true.1 hc k hk
  rcases ho : ops[k]? with _ | o
  · simp
  · simp only [Option.map_some, Option.getD_some, Bool.or_eq_true, Bool.not_eq_true']
    by_cases hkj : j = k
    · subst hkj
      right
      rw [hoj] at ho
      cases ho
      refine Array.all_eq_true_iff_forall_mem.2 fun e he => ?_
      rcases hb : Region.binds md e with _ | _
      · rfl
      · simpa using getD_set_true (i := j) (hall e he hb)
    · rw [getD_set_ne false hkj]
      rw [ho] at h
      simp only [Option.map_some, Option.getD_some, Bool.or_eq_true, Bool.not_eq_true'] at h
      refine h.imp id fun h => Array.all_eq_true_iff_forall_mem.2 fun e he => ?_
      have := Array.all_eq_true_iff_forall_mem.1 h e he
      simp only [Bool.or_eq_true, Bool.not_eq_true'] at this ⊢
      exact this.imp id getD_set_true
def RL (l : List (Nat × (World → Prop))) (i : Nat) (w : World) : Prop := match l.lookup i with
  | some C => C w
  | none => True
def gW (md : Region.Mode) (ops : Array Oper) (L : List Nat) (l : List (Nat × (World → Prop))) (j : Nat) (w w' : World) : Prop :=
  (j ∈ L → w' = w) ∧ (j ∉ L → ∀ i ∈ L, aheadT md ops i j = true → RL l i w')
def bN (P : Program) (md : Region.Mode) (ops : Array Oper) (Q : Exit → Act → World → Prop) (L : List Nat) (l : List (Nat × (World → Prop))) : Nat → Array Bool → Act → World → Prop
  | 0, listed, a, w => Region.ready md ops listed = [] ∧ Q .normal a w
  | fuel + 1, listed, a, w =>
    (Region.ready md ops listed = [] → Q .normal a w) ∧
    ∀ i ∈ Region.ready md ops listed, wpOp P ops Q i (fun a' w' => gW md ops L l i w w' ∧ bN P md ops Q L l fuel (listed.setIfInBounds i true) a' w') a w
variable {L : List Nat} {l : List (Nat × (World → Prop))}
theorem wpAny_of_L : ∀ (fuel : Nat) (listed : Array Bool) (a : Act) (w : World), bN P md ops Q L l fuel listed a w → wpAny P md ops Q fuel listed a w
  | 0, _, _, _, h => h
  | fuel + 1, _, _, _, h => ⟨h.1, fun i hi => wpOp_mono (fun a' w' h' => wpAny_of_L fuel _ a' w' h'.2) (h.2 i hi)⟩
theorem eQ {i : Nat} {oi : Oper} {v : Value} (hi : ops[i]? = some oi) (hL : i ∈ L) (hsel : ∀ (j : Nat) (o : Oper) cs b, ops[j]? = some o → o.op ≠ .select cs b)
    (hQ : ∀ c a w, Q (.panic c) (a.put oi.dst v) w → Q (.panic c) a w) :
    ∀ (fuel : Nat) (listed : Array Bool) (a : Act) (w : World), fG md ops listed = true →
      (∀ j oj, ops[j]? = some oj → j ≠ i → listed.getD j true = false → (∀ e ∈ oj.after, Region.binds md e = true → e.on ≠ i) → oi.apart ops oj = true) →
      i ∈ Region.ready md ops listed → YieldsIf P ops (RL l i) oi v a → RL l i w →
      bN P md ops Q L l fuel (listed.setIfInBounds i true) (a.put oi.dst v) w → bN P md ops Q L l (fuel + 1) listed a w := by
  have hk : ∀ w, gW md ops L l i w w := fun w => ⟨fun _ => rfl, fun h => absurd hL h⟩
  intro fuel
  induction fuel with
  | zero =>
    intro listed a w _ _ hr hy hS H
    refine ⟨fun h => (by rw [h] at hr; cases hr), fun j hj => ?_⟩
    by_cases hji : j = i
    · subst hji; exact hy.wpOp hi hS ⟨hk w, H⟩
    · have := ready_mono hj hji
      rw [H.1] at this
      cases this
  | succ fuel ih =>
    intro listed a w hcl hfree hr hy hS H
    refine ⟨fun h => (by rw [h] at hr; cases hr), fun j hj => ?_⟩
    by_cases hji : j = i
    · subst hji; exact hy.wpOp hi hS ⟨hk w, H⟩
    · have h1 := H.2 j (ready_mono hj hji)
      obtain ⟨hjun, oj, hoj, hall⟩ := mem_ready.1 hj
      have hin : listed.getD i false = false := by
        have h0 := (mem_ready.1 hr).1
        rcases Nat.lt_or_ge i listed.size with h' | h'
        · simpa [h'] using h0
        · simp [Array.getElem?_eq_none h'] at h0
      have hnot : ∀ e ∈ oj.after, Region.binds md e = true → e.on ≠ i := fun e he hb heq => by
        have h1 := hall e he hb
        rw [heq, hin] at h1
        cases h1
      have hmay : aheadT md ops i j = true := by
        unfold aheadT
        rcases hb : (fQ md ops i ops.size).getD j false with _ | _
        · rfl
        · obtain ⟨_, o, e, ho, he, hbe, hun⟩ := i8 hcl hin _ _ hb
          rw [hoj] at ho
          cases ho
          have := hall e he hbe
          rw [hun] at this; cases this
      have h2 := wpOp_putIf hoj (hfree j oj hoj hji hjun hnot) (fun cs b => hsel i oi cs b hi) (fun cs b => hsel j oj cs b hoj) hQ hy h1
      have hfree' : ∀ k ok, ops[k]? = some ok → k ≠ i → (listed.setIfInBounds j true).getD k true = false →
          (∀ e ∈ ok.after, Region.binds md e = true → e.on ≠ i) → oi.apart ops ok = true := fun k ok hk hki hun hno => by
        refine hfree k ok hk hki ?_ hno
        by_cases hjk : j = k
        · subst hjk; exact hjun
        · rw [getD_set_ne true hjk] at hun; exact hun
      refine wpOp_mono (fun a' w' h3 => ⟨h3.2.1, ih (listed.setIfInBounds j true) a' w' (closed_set hcl hj) hfree' (ready_mono hr (Ne.symm hji)) h3.1 ?_ ?_⟩) h2
      · by_cases hjL : j ∈ L
        · rw [h3.2.1.1 hjL]; exact hS
        · exact h3.2.1.2 hjL i hL hmay
      · rw [Array.setIfInBounds_comm _ _ hji]
        exact h3.2.2
theorem aQ {i : Nat} {oi : Oper} {C : World → Prop} {v : Value} {fuel : Nat} {listed : Array Bool} {a : Act} {w : World} (hi : ops[i]? = some oi) (hl : l.lookup i = some C) (hL : L.contains i = true)
    (hs : Region.noSelect ops = true) (hf : Region.free md ops listed i = true) (hr : (Region.ready md ops listed).contains i = true) (hcl : fG md ops listed = true)
    (hQ : ∀ c a w, Q (.panic c) (a.put oi.dst v) w → Q (.panic c) a w) (hg : oi.guard = none) (hy : ∀ w, C w → (execOp a.eval oi).run P w = .ok (.value v) w) (hS : C w)
    (h : bN P md ops Q L l fuel (listed.setIfInBounds i true) (a.put oi.dst v) w) : bN P md ops Q L l (fuel + 1) listed a w :=
  have e : ∀ w, RL l i w ↔ C w := fun w => by unfold RL; rw [hl]
  eQ hi (by simpa using hL) (Region.noSelect_spec hs) hQ fuel listed a w hcl (Region.free_spec hi hf) (by simpa using hr) (.inl ⟨by simp [Region.wanted, hg], fun w h => hy w ((e w).1 h)⟩) ((e w).2 hS) h
theorem aD {i : Nat} {oi : Oper} {v : Value} {fuel : Nat} {listed : Array Bool} {a : Act} {w : World} (hi : ops[i]? = some oi) (hl : l.lookup i = none) (hL : L.contains i = true)
    (hs : Region.noSelect ops = true) (hf : Region.free md ops listed i = true) (hr : (Region.ready md ops listed).contains i = true) (hcl : fG md ops listed = true)
    (hQ : ∀ c a w, Q (.panic c) (a.put oi.dst v) w → Q (.panic c) a w) (hg : oi.guard = none) (hy : ∀ w, (execOp a.eval oi).run P w = .ok (.value v) w)
    (h : bN P md ops Q L l fuel (listed.setIfInBounds i true) (a.put oi.dst v) w) : bN P md ops Q L l (fuel + 1) listed a w :=
  eQ hi (by simpa using hL) (Region.noSelect_spec hs) hQ fuel listed a w hcl (Region.free_spec hi hf) (by simpa using hr) (.inl ⟨by simp [Region.wanted, hg], fun w _ => hy w⟩) (by unfold RL; rw [hl]; trivial) h
theorem bC {i : Nat} {oi : Oper} {C : World → Prop} {v : Value} {fuel : Nat} {listed : Array Bool} {a : Act} {w : World} (hi : ops[i]? = some oi) (hl : l.lookup i = some C) (hL : L.contains i = true)
    (hs : Region.noSelect ops = true) (hf : Region.free md ops listed i = true) (hr : (Region.ready md ops listed).contains i = true) (hcl : fG md ops listed = true)
    (hQ : ∀ c a w, Q (.panic c) (a.put oi.dst v) w → Q (.panic c) a w) (hg : Region.wanted oi (yielded ops a.tmps) = true) (hy : ∀ w, C w → (execOp a.eval oi).run P w = .ok (.value v) w) (hS : C w)
    (h : bN P md ops Q L l fuel (listed.setIfInBounds i true) (a.put oi.dst v) w) : bN P md ops Q L l (fuel + 1) listed a w :=
  have e : ∀ w, RL l i w ↔ C w := fun w => by unfold RL; rw [hl]
  eQ hi (by simpa using hL) (Region.noSelect_spec hs) hQ fuel listed a w hcl (Region.free_spec hi hf) (by simpa using hr) (.inl ⟨hg, fun w h => hy w ((e w).1 h)⟩) ((e w).2 hS) h
theorem aR {i : Nat} {oi : Oper} {v : Value} {fuel : Nat} {listed : Array Bool} {a : Act} {w : World} (hi : ops[i]? = some oi) (hl : l.lookup i = none) (hL : L.contains i = true)
    (hs : Region.noSelect ops = true) (hf : Region.free md ops listed i = true) (hr : (Region.ready md ops listed).contains i = true) (hcl : fG md ops listed = true)
    (hQ : ∀ c a w, Q (.panic c) (a.put oi.dst v) w → Q (.panic c) a w) (hg : Region.wanted oi (yielded ops a.tmps) = true) (hy : ∀ w, (execOp a.eval oi).run P w = .ok (.value v) w)
    (h : bN P md ops Q L l fuel (listed.setIfInBounds i true) (a.put oi.dst v) w) : bN P md ops Q L l (fuel + 1) listed a w :=
  eQ hi (by simpa using hL) (Region.noSelect_spec hs) hQ fuel listed a w hcl (Region.free_spec hi hf) (by simpa using hr) (.inl ⟨hg, fun w _ => hy w⟩) (by unfold RL; rw [hl]; trivial) h
theorem dS {i : Nat} {oi : Oper} {fuel : Nat} {listed : Array Bool} {a : Act} {w : World} (hi : ops[i]? = some oi) (hl : l.lookup i = none) (hL : L.contains i = true)
    (hs : Region.noSelect ops = true) (hf : Region.free md ops listed i = true) (hr : (Region.ready md ops listed).contains i = true) (hcl : fG md ops listed = true)
    (hQ : ∀ c a w, Q (.panic c) (a.put oi.dst undef) w → Q (.panic c) a w) (hg : Region.wanted oi (yielded ops a.tmps) = false)
    (h : bN P md ops Q L l fuel (listed.setIfInBounds i true) (a.put oi.dst undef) w) : bN P md ops Q L l (fuel + 1) listed a w :=
  eQ hi (by simpa using hL) (Region.noSelect_spec hs) hQ fuel listed a w hcl (Region.free_spec hi hf) (by simpa using hr) (.inr ⟨hg, rfl⟩) (by unfold RL; rw [hl]; trivial) h
def keepAll (md : Region.Mode) (ops : Array Oper) (j : Nat) (w' : World) : List (Nat × (World → Prop)) → Prop
  | [] => True
  | p :: r => (aheadT md ops p.1 j = false ∨ p.2 w') ∧ keepAll md ops j w' r
theorem keepAll.nil {j : Nat} {w' : World} : keepAll md ops j w' [] := trivial
theorem keepAll.cons {j : Nat} {w' : World} {i : Nat} {C : World → Prop} {r : List (Nat × (World → Prop))} (h : C w') (h2 : keepAll md ops j w' r) : keepAll md ops j w' ((i, C) :: r) := ⟨.inr h, h2⟩
theorem keepAll.past {j : Nat} {w' : World} {i : Nat} {C : World → Prop} {r : List (Nat × (World → Prop))} (h : aheadT md ops i j = false) (h2 : keepAll md ops j w' r) : keepAll md ops j w' ((i, C) :: r) := ⟨.inl h, h2⟩
theorem aO {j : Nat} {w w' : World} (hj : L.contains j = false) (h : keepAll md ops j w' l) : gW md ops L l j w w' := by
  refine ⟨fun h => absurd h (by simpa using hj), fun _ i _ hm => ?_⟩
  unfold RL
  clear hj
  induction l with
  | nil => exact trivial
  | cons p r ih =>
    obtain ⟨k, C⟩ := p
    rw [List.lookup_cons]
    by_cases hk : i = k
    · subst hk
      rw [beq_self_eq_true]
      rcases h.1 with h1 | h1
      · rw [h1] at hm; cases hm
      · exact h1
    · rw [beq_eq_false_iff_ne.2 hk]
      exact ih h.2
theorem aN {j : Nat} {w w' : World} (hj : L.contains j = false) (h : (l.all fun p => !aheadT md ops p.1 j) = true) : gW md ops L l j w w' :=
  aO hj (by
    clear hj
    induction l with
    | nil => exact trivial
    | cons p r ih =>
      simp only [List.all_cons, Bool.and_eq_true, Bool.not_eq_true'] at h
      exact ⟨.inl h.1, ih h.2⟩)
theorem aI {i : Nat} {fuel : Nat} {listed : Array Bool} {a : Act} {w : World} (hr : Region.ready md ops listed = [i])
    (h : wpOp P ops Q i (fun a' w' => gW md ops L l i w w' ∧ bN P md ops Q L l fuel (listed.setIfInBounds i true) a' w') a w) : bN P md ops Q L l (fuel + 1) listed a w :=
  ⟨fun h0 => absurd (hr.symm.trans h0) (by simp), hr ▸ fun j hj => by rw [List.mem_singleton] at hj; subst hj; exact h⟩
theorem cB {i k : Nat} {fuel : Nat} {listed : Array Bool} {a : Act} {w : World} (hr : Region.ready md ops listed = [i, k])
    (h : wpOp P ops Q i (fun a' w' => gW md ops L l i w w' ∧ bN P md ops Q L l fuel (listed.setIfInBounds i true) a' w') a w)
    (h' : wpOp P ops Q k (fun a' w' => gW md ops L l k w w' ∧ bN P md ops Q L l fuel (listed.setIfInBounds k true) a' w') a w) : bN P md ops Q L l (fuel + 1) listed a w :=
  ⟨fun h0 => absurd (hr.symm.trans h0) (by simp), hr ▸ fun j hj => by
    simp only [List.mem_cons, List.not_mem_nil, or_false] at hj
    rcases hj with rfl | rfl
    · exact h
    · exact h'⟩
theorem aS {listed : Array Bool} {a : Act} {w : World} (hr : Region.ready md ops listed = []) (h : Q .normal a w) : ∀ fuel, bN P md ops Q L l fuel listed a w
  | 0 => ⟨hr, h⟩
  | _ + 1 => ⟨fun _ => h, by rw [hr]; simp⟩
theorem bB (L : List Nat) (l : List (Nat × (World → Prop))) {id : Nat} {a : Act} {w : World} (hm : P.follows .mixedOrders = true)
    (h : bN P .any ops Q L l ops.size (Array.replicate ops.size false) a w.drew) : (Code.region id ops true).wp P Q a w :=
  wp_region_any hm (wpAny_of_L _ _ _ _ h)
end
theorem dL {P : Program} {ops : Array Oper} {Q : Exit → Act → World → Prop} {i : Nat} {o : Oper} {K : Act → World → Prop} {a : Act} {w : World} (hi : ops[i]? = some o) (hg : Region.wanted o (yielded ops a.tmps) = true) (h : Oper.wp P o a w K Q) : wpOp P ops Q i K a w := by
  refine wpOp_at hi ?_
  rw [if_pos hg]
  exact h
theorem heapB {W W' : World} {B x : Nat} {o : Obj} (h : W.heap[x]? = some o) (q : Below B W W') (hx : x < B) : W'.heap[x]? = some o := (q.block x hx).trans h
theorem gD {W : World} {b : Nat} {cs : List Value} {t : TypeId} {fz : Nat × Nat} (h : W.heap[b]? = some (.cells cs.toArray t fz)) : W.rangeAt b 0 cs := fun j v hv => by
  simpa [World.cell?, h] using hv
theorem aK {W : World} {b : Nat} {cs : List Value} {t : TypeId} (h : W.heap[b]? = some (.cells cs.toArray t (0, 0))) : W.there b 0 cs.length :=
  there_of (gD h) fun j => by simp [World.frozen?, h]
theorem aU {t : TypeId} {b : Nat} : ∀ (vs xs : List Value) (o : Nat) (W : World), W.heap[b]? = some (.cells xs.toArray t (0, 0)) → (W.setCells b o vs).heap[b]? = some (.cells (eH xs o vs).toArray t (0, 0))
  | [], _, _, _, h => h
  | v :: r, xs, o, W, h => by
    have h1 := heap_setCell_same W b o _ t v h
    rw [World.setCells, eH]
    refine aU r (xs.set o v) (o + 1) _ ?_
    simpa using h1
theorem aJ {t : TypeId} {b : Nat} {W : World} {xs : List Value} (vs : List Value) (h : W.heap[b]? = some (.cells xs.toArray t (0, 0))) (hl : vs.length = xs.length) : (W.setCells b 0 vs).heap[b]? = some (.cells vs.toArray t (0, 0)) := by
  have := aU vs xs 0 W h
  rwa [setL_whole xs vs hl] at this
theorem aG {b x : Nat} {o : Obj} (hx : x ≠ b) : ∀ (vs : List Value) (i : Nat) (W : World), W.heap[x]? = some o → (W.setCells b i vs).heap[x]? = some o
  | [], _, _, h => h
  | v :: r, i, W, h => by
    rw [World.setCells]
    exact aG hx r (i + 1) _ (by rw [heap_setCell_other W ⟨b, i, none⟩ x v (fun e => hx e)]; exact h)
theorem bX {W W' : World} {x : Nat} {o : Obj} (h : W.heap[x]? = some o) {row : Option Nat} (hg : W.grownBy W' row) (hr : row ≠ some x) : W'.heap[x]? = some o :=
  (hg.block x (aH h) fun e => hr e.symm).trans h
theorem jD {A : Option Addr} {sz : Nat} {R : List (List Value)} {x : Nat} (hx : ∀ g off, A = some ⟨g, off, none⟩ → g ≠ x) : ∀ (vs : List Value) (o : Nat) (w : World), Rd w w.heap.size A sz R → Rd (w.setCells x o vs) (w.setCells x o vs).heap.size A sz R
  | [], _, _, h => h
  | v :: r, o, w, h => jD hx r (o + 1) _ (by
    have := rd_setCell h hx v (j := o)
    have e : (w.setCell ⟨x, o, none⟩ v).heap.size = w.heap.size := by simp [World.setCell]
    rwa [e])
theorem aF {P : Program} {ops : Array Oper} {rest : List Oper} {op : Oper} {a : Act} {w : World} {Q : Exit → Act → World → Prop} (hgd : op.guard = none) (ty : TypeId) (x y : Operand) (ho : op.op = .store ty x y)
    (b o : Nat) (cs : List Value) (hx : a.eval x = .pointer (some ⟨b, o, none⟩)) (hy : a.eval y = .agg cs.toArray)
    (ht : w.there b o cs.length) (hi : (P.info? ty).map (·.size) = some cs.length) (h1 : ∀ v ∈ cs, v.oneCell' = true)
    (h : ∀ W', Hid (W' = w.setCells b o cs) → wpList P ops Q rest (a.put op.dst undef) W') : wpList P ops Q (op :: rest) a w :=
  wpList_store_as hgd ty x y ho b o cs hx hy ht hi h1 fun W' e => h W' e
theorem eY {W : World} {x : Nat} {cs : List Value} {t : TypeId} {fz : Nat × Nat} (h : W.heap[x]? = some (.cells cs.toArray t fz)) : Rd W W.heap.size (some ⟨x, 0, none⟩) cs.length [cs] := fun _ =>
  ⟨x, 0, rfl, aH h, fun k row j u a c => by
    have hk : k = 0 := by have := (List.getElem?_eq_some_iff.1 a).1; simp at this; omega
    subst hk
    simp only [List.getElem?_cons_zero, Option.some.injEq] at a
    subst a
    rw [Nat.zero_mul]
    exact gD h j u c⟩
theorem bZ {P : Program} (W : World) (g : Nat) (ty : TypeId) (cs : List Value) (d : TypeDesc) {t : TypeId} {fz : Nat × Nat} (h : W.heap[g]? = some (.cells cs.toArray t fz)) (hu : P.underlying ty = some d) (hd : d.isRow = true) (hi : (P.info? ty).map (·.size) = some cs.length)
    (ev : Operand → Value) (op : Oper) (p : Operand) (ho : op.op = .load ty p) (hp : ev p = .pointer (some ⟨g, 0, none⟩)) : (execOp ev op).run P W = .ok (.value (.agg cs.toArray)) W :=
  bQ W g 0 ty cs d (gD h) hu hd hi ev op p ho hp
end Go.Proofs.YtkmddjbialpppaaGreatDoor
namespace Go.Proofs.YtkmddjbialpppaaGreatDoor
open Go.ChangeShapes Go.WideShapes Go.ChangeAt Go.RowKit
open CM
set_option maxRecDepth 100000 in
set_option maxHeartbeats 4000000 in
theorem iI (f : Flt) (w : World) : Calls Tryz.prog 98 #[.agg #[.int .i64 f.kind, .int .i64 f.mask, .int .i64 f.x, .int .i64 f.mn, .int .i64 f.mx, .int .i64 f.every, .int .i64 f.frm, .int .i64 f.old, .int .i64 f.count]] w fun e w' => e = .returned (.bool (fltB f)) ∧ Below w.heap.size w w' := by
  obtain ⟨r, hr⟩ : ∃ r, r = fltB f := ⟨_, rfl⟩
  have HR := aA (kN (f := f))
  rw [← hr] at HR ⊢
  clear hr
  obtain ⟨kind, mask, x, mn, mx, every, frm, old, count⟩ := f
  dsimp only at *
  have q0 : Below w.heap.size w (w.alloc (.cells #[.int .i64 kind, .int .i64 mask, .int .i64 x, .int .i64 mn, .int .i64 mx, .int .i64 every, .int .i64 frm, .int .i64 old, .int .i64 count] 138)) := (Below.refl _ _).alloc (Nat.le_refl _) _
  by_cases h8 : kind = 8
  · have e1 : (kind == 8) = true := by rw [beq_iff_eq]; exact h8
    have e2 : (kind != 8) = false := by simp [bne, e1]
    have H8 := aA h8
    clear h8
    go_enter Tryz.func98, Tryz.ntmps98
    go_wp2_with fail
    all_goals have h8 := H8.out
    all_goals go_ret
    all_goals refine ⟨aV ?_, q0⟩
    all_goals (first | exact cA HR.out (by omega) | exact bI HR.out (by omega) | exact dV HR.out (by omega))
  · have e1 : (kind == 8) = false := by rw [beq_eq_false_iff_ne]; exact h8
    have e2 : (kind != 8) = true := by simp [bne, e1]
    have H8 := aA h8
    clear h8
    go_enter Tryz.func98, Tryz.ntmps98
    go_wp2_with fail
    all_goals have h8 := H8.out
    all_goals go_ret
    all_goals refine ⟨aV ?_, q0⟩
    all_goals (first | exact cA HR.out (by omega) | exact bI HR.out (by omega) | exact dV HR.out (by omega))
theorem iF {W : World} {B : Nat} {f : Flt} {t : TypeId} {fz : Nat × Nat} (h : W.heap[B]? = some (.cells #[.int .i64 f.kind, .int .i64 f.mask, .int .i64 f.x, .int .i64 f.mn, .int .i64 f.mx, .int .i64 f.every, .int .i64 f.frm, .int .i64 f.old, .int .i64 f.count] t fz)) :
    W.cell? ⟨B, 0, none⟩ = some (.int .i64 f.kind) ∧ W.cell? ⟨B, 1, none⟩ = some (.int .i64 f.mask) ∧ W.cell? ⟨B, 2, none⟩ = some (.int .i64 f.x) ∧ W.cell? ⟨B, 3, none⟩ = some (.int .i64 f.mn) ∧ W.cell? ⟨B, 4, none⟩ = some (.int .i64 f.mx) ∧ W.cell? ⟨B, 5, none⟩ = some (.int .i64 f.every) ∧ W.cell? ⟨B, 6, none⟩ = some (.int .i64 f.frm) ∧ W.cell? ⟨B, 7, none⟩ = some (.int .i64 f.old) ∧ W.cell? ⟨B, 8, none⟩ = some (.int .i64 f.count) := by
  simp [World.cell?, h]
set_option maxRecDepth 100000 in
theorem kM (f : Flt) (v : Int) (w : World) : Calls Tryz.prog 260 #[.agg #[.int .i64 f.kind, .int .i64 f.mask, .int .i64 f.x, .int .i64 f.mn, .int .i64 f.mx, .int .i64 f.every, .int .i64 f.frm, .int .i64 f.old, .int .i64 f.count], .int .i64 v] w fun e w' => e = .returned (.bool (inF f v)) ∧ Below w.heap.size w w' := by
  obtain ⟨r, hr⟩ : ∃ r, r = inF f v := ⟨_, rfl⟩
  have HR := aA (show r = true ↔ f.mn ≤ v ∧ v ≤ f.mx from by rw [hr]; unfold inF; simp)
  rw [← hr]
  clear hr
  obtain ⟨kind, mask, x, mn, mx, every, frm, old, count⟩ := f
  dsimp only at *
  have q0 : Below w.heap.size w (w.alloc (.cells #[.int .i64 kind, .int .i64 mask, .int .i64 x, .int .i64 mn, .int .i64 mx, .int .i64 every, .int .i64 frm, .int .i64 old, .int .i64 count] 138)) := (Below.refl _ _).alloc (Nat.le_refl _) _
  go_enter Tryz.func260, Tryz.ntmps260
  go_wp2_with fail
  all_goals go_ret
  all_goals refine ⟨aV ?_, q0⟩
  all_goals (first | exact cA HR.out (by omega) | exact bI HR.out (by omega) | exact dV HR.out (by omega))
set_option maxRecDepth 100000 in
theorem fkEqual_any (f : Flt) (v : Int) (w : World) : Calls Tryz.prog 261 #[.agg #[.int .i64 f.kind, .int .i64 f.mask, .int .i64 f.x, .int .i64 f.mn, .int .i64 f.mx, .int .i64 f.every, .int .i64 f.frm, .int .i64 f.old, .int .i64 f.count], .int .i64 v] w fun e w' => e = .returned (.bool (eqF f v)) ∧ Below w.heap.size w w' := by
  have E := aA (show eqF f v = (bits .and .i64 v f.mask == f.x) from rfl)
  rw [E.out]
  obtain ⟨kind, mask, x, mn, mx, every, frm, old, count⟩ := f
  dsimp only at *
  have q0 : Below w.heap.size w (w.alloc (.cells #[.int .i64 kind, .int .i64 mask, .int .i64 x, .int .i64 mn, .int .i64 mx, .int .i64 every, .int .i64 frm, .int .i64 old, .int .i64 count] 138)) := (Below.refl _ _).alloc (Nat.le_refl _) _
  go_enter Tryz.func261, Tryz.ntmps261
  go_wp2_with fail
  go_ret
  exact ⟨rfl, q0⟩
set_option maxRecDepth 100000 in
theorem kK (f : Flt) (v : Int) (w : World) : Calls Tryz.prog 264 #[.agg #[.int .i64 f.kind, .int .i64 f.mask, .int .i64 f.x, .int .i64 f.mn, .int .i64 f.mx, .int .i64 f.every, .int .i64 f.frm, .int .i64 f.old, .int .i64 f.count], .int .i64 v] w fun e w' => e = .returned (.bool true) ∧ Below w.heap.size w w' := by
  obtain ⟨kind, mask, x, mn, mx, every, frm, old, count⟩ := f
  dsimp only at *
  have q0 : Below w.heap.size w (w.alloc (.cells #[.int .i64 kind, .int .i64 mask, .int .i64 x, .int .i64 mn, .int .i64 mx, .int .i64 every, .int .i64 frm, .int .i64 old, .int .i64 count] 138)) := (Below.refl _ _).alloc (Nat.le_refl _) _
  go_enter Tryz.func264, Tryz.ntmps264
  go_wp2_with fail
  go_ret
  exact ⟨rfl, q0⟩
set_option maxRecDepth 100000 in
theorem fkNew_any (f : Flt) (v : Int) (w : World) : Calls Tryz.prog 265 #[.agg #[.int .i64 f.kind, .int .i64 f.mask, .int .i64 f.x, .int .i64 f.mn, .int .i64 f.mx, .int .i64 f.every, .int .i64 f.frm, .int .i64 f.old, .int .i64 f.count], .int .i64 v] w fun e w' => e = .returned (.bool (newF f v)) ∧ Below w.heap.size w w' := by
  have E := aA (show newF f v = (bits .and .i64 (bits .xor .i64 v f.old) f.mask != 0) from rfl)
  rw [E.out]
  obtain ⟨kind, mask, x, mn, mx, every, frm, old, count⟩ := f
  dsimp only at *
  have q0 : Below w.heap.size w (w.alloc (.cells #[.int .i64 kind, .int .i64 mask, .int .i64 x, .int .i64 mn, .int .i64 mx, .int .i64 every, .int .i64 frm, .int .i64 old, .int .i64 count] 138)) := (Below.refl _ _).alloc (Nat.le_refl _) _
  go_enter Tryz.func265, Tryz.ntmps265
  go_wp2_with fail
  go_ret
  exact ⟨rfl, q0⟩
set_option maxRecDepth 100000 in
theorem fkEvery_any (f : Flt) (v : Int) (w : World) (h : 1 ≤ f.every) (h2 : f.every ≤ 1000000) (h0 : 0 ≤ f.count) : Calls Tryz.prog 266 #[.agg #[.int .i64 f.kind, .int .i64 f.mask, .int .i64 f.x, .int .i64 f.mn, .int .i64 f.mx, .int .i64 f.every, .int .i64 f.frm, .int .i64 f.old, .int .i64 f.count], .int .i64 v] w fun e w' => e = .returned (.bool (evF f)) ∧ Below w.heap.size w w' := by
  have E := aA (show evF f = (f.count.tmod f.every == f.frm) from rfl)
  rw [E.out]
  obtain ⟨kind, mask, x, mn, mx, every, frm, old, count⟩ := f
  dsimp only at *
  have q0 : Below w.heap.size w (w.alloc (.cells #[.int .i64 kind, .int .i64 mask, .int .i64 x, .int .i64 mn, .int .i64 mx, .int .i64 every, .int .i64 frm, .int .i64 old, .int .i64 count] 138)) := (Below.refl _ _).alloc (Nat.le_refl _) _
  have B0 := aA (World.alloc_heap_new w (.cells #[.int .i64 kind, .int .i64 mask, .int .i64 x, .int .i64 mn, .int .i64 mx, .int .i64 every, .int .i64 frm, .int .i64 old, .int .i64 count] 138))
  generalize hw0 : w.alloc (.cells #[.int .i64 kind, .int .i64 mask, .int .i64 x, .int .i64 mn, .int .i64 mx, .int .i64 every, .int .i64 frm, .int .i64 old, .int .i64 count] 138) = w0 at *
  have z0 : w.heap.size < w0.heap.size := aH B0.out
  have hz : (every == 0) = false := by rw [beq_eq_false_iff_ne]; omega
  have hwr : IntKind.i64.wrap (count.tmod every) = count.tmod every := by
    have e := Int.tmod_eq_emod_of_nonneg (b := every) h0
    have b1 := Int.emod_nonneg count (show every ≠ 0 by omega)
    have b2 := Int.emod_lt_of_pos count (show 0 < every by omega)
    rw [e]
    exact IntWalk.i64_in _ (by omega)
  clear h2 h0
  go_enter Tryz.func266, Tryz.ntmps266
  go_wp2_with fail
  obtain ⟨c0, c1, c2, c3, c4, c5, c6, c7, c8⟩ := iF (f := ⟨kind, mask, x, mn, mx, every, frm, old, count⟩) B0.out
  dsimp only at c0 c1 c2 c3 c4 c5 c6 c7 c8
  have f5 := fun s : InW w0 => s.cell z0 c5
  have f6 := fun s : InW w0 => s.cell z0 c6
  have f8 := fun s : InW w0 => s.cell z0 c8
  refine bF (by kernel_rfl) (by kernel_rfl) ?_
  repeat (go_big_quiet_step (fail))
  refine wpQuiet_nil ?_
  rintro _ ⟨sw, rfl⟩
  have Q := aA (aC q0 q0.size sw.h)
  clear f5 f6 f8 c0 c1 c2 c3 c4 c5 c6 c7 c8
  go_wp2_with fail
  go_ret
  exact ⟨rfl, Q.out⟩
set_option maxRecDepth 100000 in
theorem fkNot_any (f : Flt) (v : Int) (p : Bool) (b fid : Nat) (w : World) (hp : ∀ (args : Array Value) (w : World), (callFunc fid args).run Tryz.prog w = .ok (.enter fid args) w) (hb : w.cell? ⟨b, 0, none⟩ = some (.func (.func fid) #[] #[])) (hbl : b < w.heap.size)
    (hc : Hid (∀ w', Below w.heap.size w w' → Calls Tryz.prog fid #[.agg #[.int .i64 f.kind, .int .i64 f.mask, .int .i64 f.x, .int .i64 f.mn, .int .i64 f.mx, .int .i64 f.every, .int .i64 f.frm, .int .i64 f.old, .int .i64 f.count], .int .i64 v] w' fun e w'' => e = .returned (.bool p) ∧ Below w'.heap.size w' w'')) :
    Calls Tryz.prog 263 #[.agg #[.int .i64 f.kind, .int .i64 f.mask, .int .i64 f.x, .int .i64 f.mn, .int .i64 f.mx, .int .i64 f.every, .int .i64 f.frm, .int .i64 f.old, .int .i64 f.count], .int .i64 v, .pointer (some ⟨b, 0, none⟩)] w fun e w' => e = .returned (.bool (!p)) ∧ Below w.heap.size w w' := by
  obtain ⟨kind, mask, x, mn, mx, every, frm, old, count⟩ := f
  dsimp only at *
  have q0 : Below w.heap.size w (w.alloc (.cells #[.int .i64 kind, .int .i64 mask, .int .i64 x, .int .i64 mn, .int .i64 mx, .int .i64 every, .int .i64 frm, .int .i64 old, .int .i64 count] 138)) := (Below.refl _ _).alloc (Nat.le_refl _) _
  have c := aT q0 hbl hb
  have C := aA (hc.out _ q0)
  clear hc hb
  go_enter Tryz.func263, Tryz.ntmps263
  go_wp2_with fail
  (with_reducible refine (C.out).mono ?_)
  rintro e1 w1 ⟨rfl, q1⟩
  have Q := aA (aC q0 q0.size q1)
  clear q0 q1 C c
  go_wp2_with fail
  go_ret
  exact ⟨rfl, Q.out⟩
def gF (b1 b2 b3 : Nat) : Array Value := #[.nilFunc, .func (.func 264) #[] #[], .func (.func 263) #[] #[.pointer (some ⟨b1, 0, none⟩)], .func (.func 261) #[] #[], .func (.func 263) #[] #[.pointer (some ⟨b2, 0, none⟩)], .func (.func 265) #[] #[], .func (.func 260) #[] #[], .func (.func 263) #[] #[.pointer (some ⟨b3, 0, none⟩)], .func (.func 266) #[] #[]]
set_option maxRecDepth 100000 in
set_option maxHeartbeats 4000000 in
theorem fkNotOf_any (fid : Nat) (w : World) : Calls Tryz.prog 262 #[.func (.func fid) #[] #[]] w fun e w' => ∃ t, e = .returned (.func (.func 263) #[] #[.pointer (some ⟨w.heap.size, 0, none⟩)]) ∧ w' = w.alloc (.cells #[.func (.func fid) #[] #[]] t) := by
  go_enter Tryz.func262, Tryz.ntmps262
  go_wp2_with fail
  go_ret
  exact ⟨_, rfl, rfl⟩
set_option maxRecDepth 100000 in
set_option maxHeartbeats 4000000 in
theorem kinds_any (w : World) : Calls Tryz.prog 238 #[] w fun e w' => ∃ b1 b2 b3, e = .returned (.agg (gF b1 b2 b3)) ∧ b1 < w'.heap.size ∧ b2 < w'.heap.size ∧ b3 < w'.heap.size ∧ w'.cell? ⟨b1, 0, none⟩ = some (.func (.func 264) #[] #[]) ∧ w'.cell? ⟨b2, 0, none⟩ = some (.func (.func 261) #[] #[]) ∧ w'.cell? ⟨b3, 0, none⟩ = some (.func (.func 260) #[] #[]) ∧ Below w.heap.size w w' := by
  have NT := aA (fun fid W => fkNotOf_any fid W)
  go_enter Tryz.func238, Tryz.ntmps238
  go_wp2_with fail
  obtain ⟨w0, hw0⟩ : ∃ w0, w0 = w.alloc (.cells #[.nilFunc, .nilFunc, .nilFunc, .nilFunc, .nilFunc, .nilFunc, .nilFunc, .nilFunc, .nilFunc] 347) := ⟨_, rfl⟩
  have q0 : Below w.heap.size w w0 := by rw [hw0]; exact (Below.refl _ _).alloc (Nat.le_refl _) _
  have B0 : Hid (w0.heap[w.heap.size]? = some (.cells #[.nilFunc, .nilFunc, .nilFunc, .nilFunc, .nilFunc, .nilFunc, .nilFunc, .nilFunc, .nilFunc] 347 (0, 0))) := by rw [hw0]; exact aA (World.alloc_heap_new w _)
  rw [← hw0]
  clear hw0
  have step : ∀ (W : World) (o : Obj), Below W.heap.size W (W.alloc o) := fun W o => (Below.refl _ _).alloc (Nat.le_refl _) _
  (with_reducible refine (NT.out _ _).mono ?_)
  rintro e1 w1 ⟨t1, rfl, hw1⟩
  have q1 : Below w0.heap.size w0 w1 := by rw [hw1]; exact step _ _
  have A1 : w1.heap[w0.heap.size]? = some (.cells #[.func (.func 264) #[] #[]] t1 (0, 0)) := by rw [hw1]; exact World.alloc_heap_new _ _
  clear hw1
  go_wp2_with fail
  (with_reducible refine (NT.out _ _).mono ?_)
  rintro e2 w2 ⟨t2, rfl, hw2⟩
  have q2 : Below w1.heap.size w1 w2 := by rw [hw2]; exact step _ _
  have A2 : w2.heap[w1.heap.size]? = some (.cells #[.func (.func 261) #[] #[]] t2 (0, 0)) := by rw [hw2]; exact World.alloc_heap_new _ _
  clear hw2
  go_wp2_with fail
  (with_reducible refine (NT.out _ _).mono ?_)
  rintro e3 w3 ⟨t3, rfl, hw3⟩
  have q3 : Below w2.heap.size w2 w3 := by rw [hw3]; exact step _ _
  have A3 : w3.heap[w2.heap.size]? = some (.cells #[.func (.func 260) #[] #[]] t3 (0, 0)) := by rw [hw3]; exact World.alloc_heap_new _ _
  clear hw3 step
  have B3 := aA (aB (aB (aB B0.out q1) q2) q3)
  have A13 := aA (aB (aB A1 q2) q3)
  have A23 := aA (aB A2 q3)
  have A33 := aA A3
  have z1 := aH A1
  have z2 := aH A2
  have z3 := aH A3
  have z0 : w.heap.size < w0.heap.size := aH B0.out
  have y1 := q1.size
  have y2 := q2.size
  have y3 := q3.size
  have Q3 := aA (aC (aC (aC q0 q0.size q1) (aC q0 q0.size q1).size q2) (aC (aC q0 q0.size q1) (aC q0 q0.size q1).size q2).size q3)
  clear q0 q1 q2 q3 A1 A2 A3 B0
  have th := aA (show w3.there w.heap.size 0 9 from aK (cs := [_, _, _, _, _, _, _, _, _]) B3.out)
  go_wp2_with (refine aF (by rfl) 347 (.tmp 0) (.tmp 17) (by rfl) w.heap.size 0 (gF w0.heap.size w1.heap.size w2.heap.size).toList (by rfl) (by rfl) (by exact th.out) (by kernel_rfl) (by unfold gF; simp [Value.oneCell']) ?_)
  intro w4 e4
  have B4 : w4.heap[w.heap.size]? = some (.cells (gF w0.heap.size w1.heap.size w2.heap.size) 347 (0, 0)) := by rw [e4.out]; exact aJ (gF w0.heap.size w1.heap.size w2.heap.size).toList (xs := [_, _, _, _, _, _, _, _, _]) B3.out rfl
  have Q4 := aA (show Below w.heap.size w w4 by rw [e4.out]; exact Q3.out.trans (aE (g := w.heap.size) _ 0 _ (Nat.le_refl _)))
  have y4 : w3.heap.size = w4.heap.size := by rw [e4.out, gZ]
  have D1 : w4.cell? ⟨w0.heap.size, 0, none⟩ = some (.func (.func 264) #[] #[]) := by rw [e4.out, f9 (by omega)]; simp [World.cell?, A13.out]
  have D2 : w4.cell? ⟨w1.heap.size, 0, none⟩ = some (.func (.func 261) #[] #[]) := by rw [e4.out, f9 (by omega)]; simp [World.cell?, A23.out]
  have D3 : w4.cell? ⟨w2.heap.size, 0, none⟩ = some (.func (.func 260) #[] #[]) := by rw [e4.out, f9 (by omega)]; simp [World.cell?, A33.out]
  clear e4 th B3 A13 A23 A33 Q3
  go_wp2_with fail
  have R : ∀ i (hi : i < 9), w4.cell? ⟨w.heap.size, i, none⟩ = (gF w0.heap.size w1.heap.size w2.heap.size)[i]? := fun i hi => by simp [World.cell?, B4]
  have r0 := R 0 (by decide)
  have r1 := R 1 (by decide)
  have r2 := R 2 (by decide)
  have r3 := R 3 (by decide)
  have r4 := R 4 (by decide)
  have r5 := R 5 (by decide)
  have r6 := R 6 (by decide)
  have r7 := R 7 (by decide)
  have r8 := R 8 (by decide)
  simp only [gF] at r0 r1 r2 r3 r4 r5 r6 r7 r8
  refine bodyPost_ret (v := .agg (gF w0.heap.size w1.heap.size w2.heap.size)) (by simp [gF, results, Tryz.results238, go_sem, r0, r1, r2, r3, r4, r5, r6, r7, r8]) rfl ⟨_, _, _, rfl, by omega, by omega, by omega, D1, D2, D3, Q4.out⟩
theorem kindsV_at (f : Flt) (v : Int) (hr : fltB f = true) (b1 b2 b3 : Nat) (w : World) (h1 : b1 < w.heap.size) (h2 : b2 < w.heap.size) (h3 : b3 < w.heap.size) (c1 : w.cell? ⟨b1, 0, none⟩ = some (.func (.func 264) #[] #[])) (c2 : w.cell? ⟨b2, 0, none⟩ = some (.func (.func 261) #[] #[])) (c3 : w.cell? ⟨b3, 0, none⟩ = some (.func (.func 260) #[] #[])) :
    ∃ fid lb, (gF b1 b2 b3)[f.kind.toNat]? = some (.func (.func fid) #[] lb) ∧ (∀ (args : Array Value) (W : World), (callFunc fid args).run Tryz.prog W = .ok (.enter fid args) W) ∧
      ∀ W, Below w.heap.size w W → Calls Tryz.prog fid (#[.agg #[.int .i64 f.kind, .int .i64 f.mask, .int .i64 f.x, .int .i64 f.mn, .int .i64 f.mx, .int .i64 f.every, .int .i64 f.frm, .int .i64 f.old, .int .i64 f.count], .int .i64 v] ++ lb) W fun e w'' => e = .returned (.bool (gX f v)) ∧ Below W.heap.size W w'' := by
  have hf := kN.1 hr
  have hk : f.kind = 1 ∨ f.kind = 2 ∨ f.kind = 3 ∨ f.kind = 4 ∨ f.kind = 5 ∨ f.kind = 6 ∨ f.kind = 7 ∨ f.kind = 8 := by omega
  rcases hk with hk | hk | hk | hk | hk | hk | hk | hk
  · refine ⟨264, #[], by rw [hk]; rfl, fun args W => by kernel_rfl, fun W hb => ?_⟩
    rw [show gX f v = true by unfold gX; simp [hk]]
    exact kK f v W
  · refine ⟨263, #[.pointer (some ⟨b1, 0, none⟩)], by rw [hk]; rfl, fun args W => by kernel_rfl, fun W hb => ?_⟩
    rw [show gX f v = !true by unfold gX; simp [hk]]
    exact fkNot_any f v true b1 _ W (fun args W => by kernel_rfl) (aT hb h1 c1) (Nat.lt_of_lt_of_le h1 hb.size) (aA fun w' _ => kK f v w')
  · refine ⟨261, #[], by rw [hk]; rfl, fun args W => by kernel_rfl, fun W hb => ?_⟩
    rw [show gX f v = eqF f v by unfold gX; simp [hk]]
    exact fkEqual_any f v W
  · refine ⟨263, #[.pointer (some ⟨b2, 0, none⟩)], by rw [hk]; rfl, fun args W => by kernel_rfl, fun W hb => ?_⟩
    rw [show gX f v = !eqF f v by unfold gX; simp [hk]]
    exact fkNot_any f v (eqF f v) b2 _ W (fun args W => by kernel_rfl) (aT hb h2 c2) (Nat.lt_of_lt_of_le h2 hb.size) (aA fun w' _ => fkEqual_any f v w')
  · refine ⟨265, #[], by rw [hk]; rfl, fun args W => by kernel_rfl, fun W hb => ?_⟩
    rw [show gX f v = newF f v by unfold gX; simp [hk]]
    exact fkNew_any f v W
  · refine ⟨260, #[], by rw [hk]; rfl, fun args W => by kernel_rfl, fun W hb => ?_⟩
    rw [show gX f v = inF f v by unfold gX; simp [hk]]
    exact kM f v W
  · refine ⟨263, #[.pointer (some ⟨b3, 0, none⟩)], by rw [hk]; rfl, fun args W => by kernel_rfl, fun W hb => ?_⟩
    rw [show gX f v = !inF f v by unfold gX; simp [hk]]
    exact fkNot_any f v (inF f v) b3 _ W (fun args W => by kernel_rfl) (aT hb h3 c3) (Nat.lt_of_lt_of_le h3 hb.size) (aA fun w' _ => kM f v w')
  · refine ⟨266, #[], by rw [hk]; rfl, fun args W => by kernel_rfl, fun W hb => ?_⟩
    rw [show gX f v = evF f by unfold gX; simp [hk]]
    exact fkEvery_any f v W (by have := hf.2.2.2.2.2 hk; omega) (by have := hf.2.2.2.2.2 hk; omega) (by omega)
end Go.Proofs.YtkmddjbialpppaaGreatDoor
