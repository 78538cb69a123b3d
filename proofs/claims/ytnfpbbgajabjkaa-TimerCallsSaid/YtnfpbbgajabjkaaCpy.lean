/- copy of rows of more cells than one; a row of the call's own made wider; append of zero rows. Nothing of the program's text. -/
import Derived.Test.YtnfpbbgajabjkaaOrdL
import Derived.Lib.AppendZerosOnto
namespace Go.Proofs.Ytnfpbbgajabjkaa
open Go.ChangeShapes Go.WideShapes Go.ChangeAt Go.RowKit

theorem setL_eq {α : Type} (xs vs : List α) (o : Nat) (h : o + vs.length ≤ xs.length) : setL xs o vs = xs.take o ++ vs ++ xs.drop (o + vs.length) := by
  apply List.ext_getElem?
  intro i
  rw [setL_get vs xs o i h, List.append_assoc]
  by_cases h1 : o ≤ i ∧ i < o + vs.length
  · rw [if_pos h1, List.getElem?_append_right (by rw [List.length_take]; omega), List.length_take, Nat.min_eq_left (by omega), List.getElem?_append_left (by omega)]
  · rw [if_neg h1]
    by_cases h2 : i < o
    · rw [List.getElem?_append_left (by rw [List.length_take]; omega), List.getElem?_take, if_pos h2]
    · rw [List.getElem?_append_right (by rw [List.length_take]; omega), List.length_take, Nat.min_eq_left (by omega), List.getElem?_append_right (by omega), List.getElem?_drop]
      congr 1
      omega
theorem flat_len {α : Type} {sz : Nat} : ∀ (R : List (List α)), (∀ r ∈ R, r.length = sz) → R.flatten.length = R.length * sz
  | [], _ => by simp
  | c :: cs, hs => by rw [List.flatten_cons, List.length_append, List.length_cons, flat_len cs (fun r hr => hs r (by simp [hr])), hs c (by simp), Nat.add_mul]; omega
theorem flat_take {α : Type} {sz : Nat} (R : List (List α)) (hs : ∀ r ∈ R, r.length = sz) (k : Nat) : R.flatten.take (k * sz) = (R.take k).flatten := by
  induction R generalizing k with
  | nil => simp
  | cons r R ih =>
    cases k with
    | zero => simp
    | succ k =>
      have hl : r.length = sz := hs r (by simp)
      rw [List.flatten_cons, List.take_succ_cons, List.flatten_cons, Nat.add_mul, Nat.one_mul, Nat.add_comm, List.take_append, hl, List.take_of_length_le (by omega), Nat.add_sub_cancel_left, ih (fun r hr => hs r (by simp [hr]))]
theorem flat_drop {α : Type} {sz : Nat} (R : List (List α)) (hs : ∀ r ∈ R, r.length = sz) (k : Nat) : R.flatten.drop (k * sz) = (R.drop k).flatten := by
  induction R generalizing k with
  | nil => simp
  | cons r R ih =>
    cases k with
    | zero => simp
    | succ k =>
      have hl : r.length = sz := hs r (by simp)
      rw [List.flatten_cons, List.drop_succ_cons, Nat.add_mul, Nat.one_mul, Nat.add_comm, List.drop_append, hl, List.drop_of_length_le (by omega), Nat.add_sub_cancel_left, ih (fun r hr => hs r (by simp [hr])), List.nil_append]

theorem Own.copied {W : World} {base e sz g c k : Nat} {R S : List (List Value)} (h : Own W base e sz (some ⟨g, 0, none⟩) c R) (hs : ∀ r ∈ R, r.length = sz) (ht : ∀ r ∈ S, r.length = sz) (hk : k + S.length ≤ R.length) :
    Own (W.setCells g (k * sz) S.flatten) base e sz (some ⟨g, 0, none⟩) c (R.take k ++ S ++ R.drop (k + S.length)) ∧ W.grownBy (W.setCells g (k * sz) S.flatten) (some g) := by
  obtain ⟨h1, h2⟩ := ownsRow_setCells S.flatten (k * sz) W _ h
  refine ⟨?_, h2⟩
  have hfl := flat_len S ht
  have hlR := flat_len R hs
  have hle : k * sz + S.flatten.length ≤ R.flatten.length := by rw [hfl, hlR, ← Nat.add_mul]; exact Nat.mul_le_mul_right _ hk
  rw [setL_eq _ _ _ hle, hfl, ← Nat.add_mul, flat_take R hs, flat_drop R hs] at h1
  have hlen : (R.take k ++ S ++ R.drop (k + S.length)).length = R.length := by simp; omega
  unfold Own
  rw [hlen, List.flatten_append, List.flatten_append]
  exact h1

/-- copy(d[k:], s): rows S go over. -/
theorem run_copy_rows {P : Program} (w : World) (dT sT ty elem : TypeId) {sz : Nat} (hu : P.underlying dT = some (.slice elem)) (hsz : (P.info? elem).map (·.size) = some sz)
    (base g c k : Nat) (R S : List (List Value)) (h : Own w base elem sz (some ⟨g, 0, none⟩) c R) (hs : ∀ r ∈ R, r.length = sz) (ht : ∀ r ∈ S, r.length = sz) (hk : k + S.length ≤ R.length)
    (dLen dCap : Nat) (a : Addr) (sLen sCap : Nat) (hn : S.length = Nat.min sLen dLen) (hsrc : ∀ j v, S.flatten[j]? = some v → w.cell? (a.add j) = some v) (h1 : ∀ r ∈ S, ∀ v ∈ r, v.oneCell' = true) :
    ∃ w', (Builtin.copy_ #[dT, sT] ty #[.slice (some ⟨g, k * sz, none⟩) dLen dCap, .slice (some a) sLen sCap]).run P w = .ok (goInt S.length) w' ∧ Own w' base elem sz (some ⟨g, 0, none⟩) c (R.take k ++ S ++ R.drop (k + S.length)) ∧ w.grownBy w' (some g) := by
  obtain ⟨h2, h3⟩ := h.copied hs ht hk
  refine ⟨_, ?_, h2, h3⟩
  have hfl := flat_len S ht
  have hlR := flat_len R hs
  have hle : k * sz + S.flatten.length ≤ R.flatten.length := by rw [hfl, hlR, ← Nat.add_mul]; exact Nat.mul_le_mul_right _ hk
  have hl := run_loadCells_list (P := P) w a S.flatten hsrc
  have hst := run_storeCells_cells (P := P) g (k * sz) S.flatten 0 w (fun j hj => by
      have h4 := World.ownsRow.cells h (g := g) rfl _ _ (List.getElem?_eq_getElem (show k * sz + j < R.flatten.length by omega))
      rw [Go.WideShapes.add_plain, Nat.zero_add] at h4
      rw [Nat.add_zero, h4]; rfl) (fun j _ => World.ownsRow.frozenAt h _) (fun v hv => by
      obtain ⟨r, hr, hvr⟩ := List.mem_flatten.1 hv
      exact h1 r hr v hvr)
  cases hq : P.info? elem with
  | none => simp [hq] at hsz
  | some i =>
    have hi : i.size = sz := by simpa [hq] using hsz
    rw [hfl] at hl
    simp only [Nat.add_zero] at hst
    simp [Builtin.copy_, run_underlying hu, Builtin.lenOf, Builtin.firstCells, sizeOf, typeInfo, hq, hi, ← hn, hl, hst]

/-- A row of the call's own with room: one more row of it is there. -/
theorem Own.wider {W : World} {base e sz c : Nat} {A : Option Addr} {R : List (List Value)} (h : Own W base e sz A c R) (hs : ∀ r ∈ R, r.length = sz) (hc : R.length < c) : ∃ g r, A = some ⟨g, 0, none⟩ ∧ r.length = sz ∧ Own W base e sz A c (R ++ [r]) := by
  have hlR := flat_len R hs
  rcases h.2 with ⟨hv, h0⟩ | ⟨g, cap, cur, hv, hb, hg, hnc, hcm, hcs, ht⟩
  · simp only [Value.slice.injEq] at hv; omega
  · simp only [Value.slice.injEq] at hv
    obtain ⟨rfl, _, rfl⟩ := hv
    have hsz : cur.toList.length = c * sz := by rw [Array.length_toList]; exact hcs
    have hle : (R.length + 1) * sz ≤ c * sz := Nat.mul_le_mul_right _ hc
    have e1 : (R.length + 1) * sz = R.length * sz + sz := by rw [Nat.add_mul, Nat.one_mul]
    have hr : ((cur.toList.drop (R.length * sz)).take sz).length = sz := by rw [List.length_take, List.length_drop]; omega
    refine ⟨g, (cur.toList.drop (R.length * sz)).take sz, rfl, hr, ?_, .inr ⟨g, c, cur, ?_, hb, hg, ?_, hcm, hcs, ?_⟩⟩
    · rw [List.flatten_append, List.length_append, List.length_append, hlR]; simp [hr, Nat.add_mul]
    · simp
    · simp; omega
    · rw [List.flatten_append, ← ht, List.length_append, List.length_singleton, e1, List.take_add]
      simp

theorem zeros_flat (z : Array Value) : ∀ k, (Builtin.zeroCells z k).toList = (List.replicate k z.toList).flatten := by
  intro k
  apply List.ext_getElem?
  intro j
  unfold Builtin.zeroCells
  rcases Nat.eq_zero_or_pos z.size with hz | hz
  · have : z = #[] := Array.eq_empty_of_size_eq_zero hz
    subst this
    have e : ∀ k, (List.replicate k ([] : List Value)).flatten = [] := fun k => by induction k <;> simp_all [List.replicate_succ]
    simp [e]
  · by_cases hj : j < k * z.size
    · have hq : j / z.size < k := Nat.div_lt_of_lt_mul (by rw [Nat.mul_comm]; exact hj)
      have hm : j % z.size < z.size := Nat.mod_lt _ hz
      have h2 := flatten_get (List.replicate k z.toList) z.size (fun r hr => by rw [List.eq_of_mem_replicate hr, Array.length_toList]) (j / z.size) z.toList (j % z.size) z[j % z.size] (by simp [hq]) (by simp [hm])
      rw [Nat.mul_comm, Nat.div_add_mod] at h2
      rw [h2]
      simp [hj]
      exact getElem!_pos z _ hm
    · rw [List.getElem?_eq_none (by simp; omega), List.getElem?_eq_none (by rw [flat_len (sz := z.size) _ (fun r hr => by rw [List.eq_of_mem_replicate hr, Array.length_toList])]; simp; omega)]

/-- 'append(s, make([]T, k)...)' where s has no room: a new row of the call's own. -/
theorem run_append_zero_rows {P : Program} (w : World) {t tn ty e : TypeId} {sz bytes : Nat} (T : SlT P t e sz bytes) {zr : List Value} (hz : (P.info? e).map (·.zero) = some (some (.agg zr.toArray))) (htn : P.underlying tn = some (.int .i64))
    (A : Option Addr) (c : Nat) (R : List (List Value)) (hr : Rd w w.heap.size A sz R) (hs : ∀ r ∈ R, r.length = sz) (k : Nat) (h0 : 0 < k) (hg : c < R.length + k) (hm : R.length + k ≤ maxLen) (hb : (R.length + k) * bytes ≤ 140737488355328) :
    ∃ c' w', (Builtin.append_ #[t, tn] ty #[.slice A R.length c, .int .i64 k]).run P w = .ok (.slice (some ⟨w.heap.size, 0, none⟩) (R.length + k) c') w' ∧ Own w' w.heap.size e sz (some ⟨w.heap.size, 0, none⟩) c' (R ++ List.replicate k zr) ∧ Below w.heap.size w w' := by
  obtain ⟨i, z, ht, hi, hz1, hsz, hby, hzs, hpos⟩ := T
  have hzz : z = .agg zr.toArray := by
    rw [hi] at hz
    simp only [Option.map_some, Option.some.injEq] at hz
    rw [hz1] at hz
    exact Option.some.inj hz
  subst hzz
  have hzl : zr.length = sz := by simpa [Value.cells] using hzs
  have hlR := flat_len R hs
  have hold : (Builtin.firstCells i.size R.length (.slice A R.length c)).run P w.drew = .ok R.flatten.toArray w.drew := by
    rw [hsz]
    rcases Nat.eq_zero_or_pos R.length with hR | hR
    · have : R = [] := List.length_eq_zero_iff.1 hR
      subst this
      cases A <;> simp [Builtin.firstCells, loadCells, loadCellsFrom]
    · obtain ⟨b, off, rfl, _, hc⟩ := hr hR
      refine run_firstCells_some (P := P) w.drew sz R.length _ R.length c R.flatten hlR (fun j v hj => ?_)
      have hjl : j < R.length * sz := by rw [← hlR]; exact (List.getElem?_eq_some_iff.1 hj).1
      have hdm : j / sz * sz + j % sz = j := by rw [Nat.mul_comm]; exact Nat.div_add_mod j sz
      have hk' : j / sz < R.length := Nat.div_lt_of_lt_mul (by rw [Nat.mul_comm]; exact hjl)
      have hr' : R[j / sz]? = some R[j / sz] := List.getElem?_eq_getElem hk'
      have hm' : j % sz < R[j / sz].length := by rw [hs _ (List.getElem_mem hk')]; exact Nat.mod_lt _ hpos
      have hv := List.getElem?_eq_getElem hm'
      have h2 := flatten_get R sz hs _ _ _ _ hr' hv
      rw [hdm] at h2
      have h3 := hc _ _ _ _ hr' hv
      rw [Nat.add_assoc, hdm] at h3
      rw [hj] at h2
      cases h2
      rw [Go.WideShapes.add_plain]
      exact h3
  have hsize : (P.info? e).map (·.size) = some sz := by rw [hi]; simp [hsz]
  have hgc := grownCap_ge w (R.length + k) c e
  have hgm := grownCap_le_maxLen w (R.length + k) c e hm
  have hrun := Lib.run_append_grow_zeros (P := P) w t tn ty e i _ .i64 .i64 ht htn hi hz1 A R.length c R.flatten hold k h0 (by rw [hsz]; exact hpos) hg (by unfold maxLen at hm; omega) (by rw [hby]; have := Nat.mul_le_mul_right bytes (Nat.le_add_left k R.length); omega) (by rw [hby]; exact growslice_fits hg hb)
  refine ⟨_, _, hrun, ⟨?_, .inr ⟨w.heap.size, _, _, ?_, Nat.le_refl _, World.alloc_heap_new w.drew _, ?_, hgm, ?_, ?_⟩⟩, ((Below.refl _ _).drew).alloc (Nat.le_refl _) _⟩
  · rw [List.flatten_append, List.length_append, hlR, flat_len (sz := sz) (List.replicate k zr) (fun r hr => by rw [List.eq_of_mem_replicate hr]; exact hzl)]; simp [Nat.add_mul]
  · simp
  · simpa using hgc
  · simp [Builtin.zeroCells, Value.cells, hzl, hlR]
    rw [← Nat.add_mul, ← Nat.add_mul]
    congr 1
    omega
  · have e1 := zeros_flat zr.toArray k
    simp only [Value.cells] at e1 ⊢
    rw [List.flatten_append, List.length_append, List.length_replicate]
    have hl2 : (R.flatten ++ (List.replicate k zr).flatten).length = (R.length + k) * sz := by
      rw [List.length_append, hlR, flat_len (sz := sz) (List.replicate k zr) (fun r hr => by rw [List.eq_of_mem_replicate hr]; exact hzl), List.length_replicate, Nat.add_mul]
    simp only [Array.toList_append, e1]
    rw [← hl2, List.take_left]

section
variable {P : Program} {ops : Array Oper} {rest : List Oper} {o : Oper} {a : Act} {Q : Exit → Act → World → Prop}
theorem wp_copy_rows {K : Act → World → Prop} (w : World) (d s : Operand) (dT sT elem : TypeId) (ho : o.op = .call { callee := .builtin .copy, args := #[d, s], argTypes := #[dT, sT] }) {sz : Nat} (hu : P.underlying dT = some (.slice elem)) (hsz : (P.info? elem).map (·.size) = some sz)
    (base g c k : Nat) (R S : List (List Value)) (dLen dCap : Nat) (ad : Addr) (sLen sCap : Nat) (hd : a.eval d = .slice (some ⟨g, k * sz, none⟩) dLen dCap) (hs : a.eval s = .slice (some ad) sLen sCap)
    (h : Own w base elem sz (some ⟨g, 0, none⟩) c R) (hR : ∀ r ∈ R, r.length = sz) (hS : ∀ r ∈ S, r.length = sz) (hk : k + S.length ≤ R.length) (hn : S.length = Nat.min sLen dLen) (hsrc : ∀ j v, S.flatten[j]? = some v → w.cell? (ad.add j) = some v) (h1 : ∀ r ∈ S, ∀ v ∈ r, v.oneCell' = true)
    (hK : ∀ w', Own w' base elem sz (some ⟨g, 0, none⟩) c (R.take k ++ S ++ R.drop (k + S.length)) → w.grownBy w' (some g) → K (a.put o.dst (goInt S.length)) w') : Oper.wp P o a w K Q := by
  obtain ⟨w', hrun, h2, h3⟩ := run_copy_rows (P := P) w dT sT o.type elem hu hsz base g c k R S h hR hS hk dLen dCap ad sLen sCap hn hsrc h1
  unfold Oper.wp
  simp [execOp, ho, resolve, invoke, builtin, hd, hs, hrun, Result.andThen]
  exact hK w' h2 h3
theorem wpList_copy_rows (w : World) (hgd : o.guard = none) (d s : Operand) (dT sT elem : TypeId) (ho : o.op = .call { callee := .builtin .copy, args := #[d, s], argTypes := #[dT, sT] }) {sz : Nat} (hu : P.underlying dT = some (.slice elem)) (hsz : (P.info? elem).map (·.size) = some sz)
    (base g c k : Nat) (R S : List (List Value)) (dLen dCap : Nat) (ad : Addr) (sLen sCap : Nat) (hd : a.eval d = .slice (some ⟨g, k * sz, none⟩) dLen dCap) (hs : a.eval s = .slice (some ad) sLen sCap)
    (h : Own w base elem sz (some ⟨g, 0, none⟩) c R) (hR : ∀ r ∈ R, r.length = sz) (hS : ∀ r ∈ S, r.length = sz) (hk : k + S.length ≤ R.length) (hn : S.length = Nat.min sLen dLen) (hsrc : ∀ j v, S.flatten[j]? = some v → w.cell? (ad.add j) = some v) (h1 : ∀ r ∈ S, ∀ v ∈ r, v.oneCell' = true)
    (hK : ∀ w', Own w' base elem sz (some ⟨g, 0, none⟩) c (R.take k ++ S ++ R.drop (k + S.length)) → w.grownBy w' (some g) → wpList P ops Q rest (a.put o.dst (goInt S.length)) w') : wpList P ops Q (o :: rest) a w :=
  wpList_plain hgd fun _ hK' => wp_copy_rows w d s dT sT elem ho hu hsz base g c k R S dLen dCap ad sLen sCap hd hs h hR hS hk hn hsrc h1 fun w' h2 h3 => hK' _ _ (hK w' h2 h3)
theorem wpList_append_zero_rows (w : World) (hgd : o.guard = none) (s x : Operand) (t tn : TypeId) (ho : o.op = .call { callee := .builtin .append, args := #[s, x], argTypes := #[t, tn] }) {e : TypeId} {sz bytes : Nat} (T : SlT P t e sz bytes) {zr : List Value}
    (hz : (P.info? e).map (·.zero) = some (some (.agg zr.toArray))) (htn : P.underlying tn = some (.int .i64)) (A : Option Addr) (n c : Nat) (R : List (List Value)) (k : Nat) (hsl : a.eval s = .slice A n c) (hxk : a.eval x = .int .i64 k) (hnR : n = R.length)
    (hr : Rd w w.heap.size A sz R) (hs : ∀ r ∈ R, r.length = sz) (h0 : 0 < k) (hg : c < R.length + k) (hm : R.length + k ≤ maxLen) (hb : (R.length + k) * bytes ≤ 140737488355328)
    (hK : ∀ c' w', Own w' w.heap.size e sz (some ⟨w.heap.size, 0, none⟩) c' (R ++ List.replicate k zr) → Below w.heap.size w w' → wpList P ops Q rest (a.put o.dst (.slice (some ⟨w.heap.size, 0, none⟩) (n + k) c')) w') : wpList P ops Q (o :: rest) a w := by
  subst hnR
  refine wpList_plain hgd fun _ hK' => ?_
  obtain ⟨c', w', hrun, h2, h3⟩ := run_append_zero_rows (P := P) (ty := o.type) w T hz htn A c R hr hs k h0 hg hm hb
  unfold Oper.wp
  simp [execOp, ho, resolve, invoke, builtin, hsl, hxk, hrun, Result.andThen]
  exact hK' _ _ (hK c' w' h2 h3)
end
theorem rd_src {w : World} {B b off : Nat} {sz : Nat} (h0 : 0 < sz) {R : List (List Value)} (h : Rd w B (some ⟨b, off, none⟩) sz R) (hs : ∀ r ∈ R, r.length = sz) : ∀ j v, R.flatten[j]? = some v → w.cell? ((⟨b, off, none⟩ : Addr).add j) = some v := fun j v hj => by
  have hlR := flat_len R hs
  have hjl : j < R.length * sz := by rw [← hlR]; exact (List.getElem?_eq_some_iff.1 hj).1
  have hR : 0 < R.length := by
    rcases Nat.eq_zero_or_pos R.length with h | h
    · rw [h] at hjl; omega
    · exact h
  obtain ⟨b', off', e, _, hc⟩ := h hR
  cases e
  have hdm : j / sz * sz + j % sz = j := by rw [Nat.mul_comm]; exact Nat.div_add_mod j sz
  have hk' : j / sz < R.length := Nat.div_lt_of_lt_mul (by rw [Nat.mul_comm]; exact hjl)
  have hr' : R[j / sz]? = some R[j / sz] := List.getElem?_eq_getElem hk'
  have hm' : j % sz < R[j / sz].length := by rw [hs _ (List.getElem_mem hk')]; exact Nat.mod_lt _ h0
  have hv := List.getElem?_eq_getElem hm'
  have h2 := flatten_get R sz hs _ _ _ _ hr' hv
  rw [hdm] at h2
  have h3 := hc _ _ _ _ hr' hv
  rw [Nat.add_assoc, hdm] at h3
  rw [hj] at h2
  cases h2
  rw [Go.WideShapes.add_plain]
  exact h3
end Go.Proofs.Ytnfpbbgajabjkaa
