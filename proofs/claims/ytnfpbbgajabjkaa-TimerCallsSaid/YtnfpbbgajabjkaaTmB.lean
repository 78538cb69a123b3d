/- Rows of timers; slices.IndexFunc, ContainsFunc, Clone, DeleteFunc, IsSortedFunc, BinarySearchFunc of timers. -/
import Derived.Test.YtnfpbbgajabjkaaTmA
import Derived.Lib.SliceRun
namespace Go.Proofs.Ytnfpbbgajabjkaa
open Go.ChangeShapes Go.WideShapes Go.ChangeAt Go.RowKit

/-! ### rows of api.Timer -/
def tmc (x : Tm) : List Value := [.int .i64 x.id, .int .i64 x.due]
theorem tmc_len (x : Tm) : (tmc x).length = 2 := rfl
theorem tmc_rows (l : List Tm) : ∀ r ∈ l.map tmc, r.length = 2 := by intro r hr; obtain ⟨x, _, rfl⟩ := List.mem_map.1 hr; rfl
theorem tmc_ones (l : List Tm) : ∀ r ∈ l.map tmc, ∀ u ∈ r, u.oneCell' = true := by
  intro r hr u hu
  obtain ⟨x, _, rfl⟩ := List.mem_map.1 hr
  revert u
  simp [tmc, Value.oneCell']
def TmR (w : World) (B : Nat) (A : Option Addr) (l : List Tm) : Prop := Rd w B A 2 (l.map tmc)
theorem TmR.at_ {w : World} {B : Nat} {A : Option Addr} {l : List Tm} (h : TmR w B A l) {k : Nat} (hk : k < l.length) :
    ∃ b off, A = some ⟨b, off, none⟩ ∧ b < B ∧ w.cell? ⟨b, off + k * 2, none⟩ = some (.int .i64 l[k].id) ∧ w.cell? ⟨b, off + k * 2 + 1, none⟩ = some (.int .i64 l[k].due) := by
  obtain ⟨b, off, e, hb, hc⟩ := h (by rw [List.length_map]; omega)
  have hx : (l.map tmc)[k]? = some (tmc l[k]) := by simp [hk]
  exact ⟨b, off, e, hb, hc k _ 0 _ hx rfl, hc k _ 1 _ hx rfl⟩
theorem TmR.below {w w' : World} {B : Nat} {A : Option Addr} {l : List Tm} (h : TmR w B A l) (hb : Below B w w') : TmR w' B A l := Rd.below h hb
theorem TmR.next {w w' : World} {B : Nat} {A : Option Addr} {l : List Tm} (h : TmR w B A l) (hb : Below B w w') (hB : B ≤ w'.heap.size) : TmR w' w'.heap.size A l := Rd.next h hb hB
theorem TmR.take {w : World} {B : Nat} {A : Option Addr} {l : List Tm} (h : TmR w B A l) (n : Nat) : TmR w B A (l.take n) := by
  have := Rd.take h n
  rwa [← List.map_take] at this
theorem TmR.at2 {w : World} {B b off : Nat} {l : List Tm} (h : TmR w B (some ⟨b, off, none⟩) l) {k : Nat} (hk : k < l.length) : b < B ∧ w.cell? ⟨b, off + k * 2, none⟩ = some (.int .i64 l[k].id) ∧ w.cell? ⟨b, off + k * 2 + 1, none⟩ = some (.int .i64 l[k].due) := by
  obtain ⟨b, off, e, hb, h⟩ := h.at_ hk
  cases e
  exact ⟨hb, h⟩
theorem TmR.all {w : World} {B b off : Nat} {l : List Tm} (h : TmR w B (some ⟨b, off, none⟩) l) (hB : B ≤ w.heap.size) {k : Nat} (hk : k < l.length) (s : InW w) : s.W.cell? ⟨b, off + k * 2, none⟩ = some (.int .i64 l[k].id) ∧ s.W.cell? ⟨b, off + k * 2 + 1, none⟩ = some (.int .i64 l[k].due) := by
  obtain ⟨hb, c0, c1⟩ := h.at2 hk
  have hb : b < w.heap.size := by omega
  exact ⟨s.cell hb c0, s.cell hb c1⟩
/-- A box of one, just laid: what it holds later. -/
theorem Tm_box {W w1 : World} {B : Nat} {t : TypeId} {x : Tm} (hB : B = W.heap.size) (h : Below (B + 1) (W.alloc (.cells #[.int .i64 x.id, .int .i64 x.due] t)) w1) : w1.cell? ⟨B, 0, none⟩ = some (.int .i64 x.id) ∧ w1.cell? ⟨B, 1, none⟩ = some (.int .i64 x.due) := ⟨cellBelow h (by omega) (by subst hB; simp [go_sem]), cellBelow h (by omega) (by subst hB; simp [go_sem])⟩
theorem Tm_boxs {w1 : World} {B : Nat} {x : Tm} (hb : B < w1.heap.size) (h : w1.cell? ⟨B, 0, none⟩ = some (.int .i64 x.id) ∧ w1.cell? ⟨B, 1, none⟩ = some (.int .i64 x.due)) (s : InW w1) : s.W.cell? ⟨B, 0, none⟩ = some (.int .i64 x.id) ∧ s.W.cell? ⟨B, 1, none⟩ = some (.int .i64 x.due) := by
  obtain ⟨c0, c1⟩ := h
  exact ⟨s.cell hb c0, s.cell hb c1⟩
theorem Tm_boxn {w1 w2 : World} {B : Nat} {x : Tm} (hb : B < w1.heap.size) (h : w1.cell? ⟨B, 0, none⟩ = some (.int .i64 x.id) ∧ w1.cell? ⟨B, 1, none⟩ = some (.int .i64 x.due)) (q : Below w1.heap.size w1 w2) : w2.cell? ⟨B, 0, none⟩ = some (.int .i64 x.id) ∧ w2.cell? ⟨B, 1, none⟩ = some (.int .i64 x.due) := by
  obtain ⟨c0, c1⟩ := h
  exact ⟨cellBelow q hb c0, cellBelow q hb c1⟩
theorem Tm_cells {W : World} {g o : Nat} {x : Tm} (h : World.rangeAt W g o (tmc x)) : W.cell? ⟨g, o, none⟩ = some (.int .i64 x.id) ∧ W.cell? ⟨g, o + 1, none⟩ = some (.int .i64 x.due) := ⟨h 0 _ rfl, h 1 _ rfl⟩
theorem tmc_one (x : Tm) : ∀ v ∈ tmc x, v.oneCell' = true := tmc_ones [x] _ (by simp)

/-- The first place; -1: none. -/
def idxTm (p : Tm → Bool) (l : List Tm) : Int := if l.all (fun f => !p f) then -1 else ((l.findIdx p : Nat) : Int)

set_option maxRecDepth 100000 in
set_option maxHeartbeats 2000000 in
theorem indexTm_any (fid : Nat) (cap : Array Value) (p : Tm → Bool) (hp : ∀ (args : Array Value) (w : World), (callFunc fid args).run Try.prog w = .ok (.enter fid args) w) (l : List Tm) (A : Option Addr) (c : Nat) (w : World) (hr : TmR w w.heap.size A l) (hl : l.length ≤ 1000)
    (hc : Hid (∀ f ∈ l, ∀ w', Below w.heap.size w w' → Calls Try.prog fid (#[.agg #[.int .i64 f.id, .int .i64 f.due]] ++ cap) w' fun e w'' => e = .returned (.bool (p f)) ∧ Below w'.heap.size w' w'')) :
    Calls Try.prog 57 #[.slice A l.length c, .func (.func fid) #[] cap] w fun e w' => e = .returned (.int .i64 (idxTm p l)) ∧ Below w.heap.size w w' := by
  go_enter Try.func57, Try.ntmps57
  go_wp2
  go_loopw [8] (fun i W => ∃ k : Nat, k ≤ l.length ∧ i = .int .i64 k ∧ Hid (∀ f ∈ l.take k, p f = false) ∧ Below w.heap.size w W) (fun i _ => l.length - (intOf i).toNat)
  case atStart => exact ⟨0, Nat.zero_le _, rfl, hide (by simp), Below.refl _ _⟩
  case round =>
    obtain ⟨k, hk, rfl, hinv, q⟩ := hrel
    by_cases hlt : k < l.length
    · obtain ⟨b, off, rfl, hbs, c0, c1⟩ := (hr.below q).at_ hlt
      have C := hide (hc.out l[k] (List.getElem_mem hlt) wr q)
      rcases hpk : p l[k] with _ | _
      · have hT := hide (show ∀ f ∈ l.take (k + 1), p f = false by
          intro f hf
          rw [List.take_succ_eq_append_getElem hlt, List.mem_append] at hf
          rcases hf with hf | hf
          · exact hinv.out f hf
          · rw [List.mem_singleton.1 hf]; exact hpk)
        rw [hpk] at C
        clear hpk
        go_wp2_with fail
        (with_reducible refine C.out.mono ?_)
        rintro e1 w1 ⟨rfl, q1⟩
        go_wp2
        go_roundw
        case rel => exact ⟨k + 1, by omega, by go_num, hT, below_next q q.size q1⟩
        case measure => simp [intOf]; omega
      · have hE := hide (show idxTm p l = (k : Int) by
          unfold idxTm
          rw [if_neg (by
            rw [List.all_eq_true]
            intro h
            have := h l[k] (List.getElem_mem hlt)
            simp [hpk] at this)]
          congr 1
          rw [List.findIdx_eq hlt]
          exact ⟨hpk, fun j hj => by
            have := hinv.out l[j] (by rw [List.mem_take_iff_getElem]; exact ⟨j, by omega, rfl⟩)
            simp [this]⟩)
        rw [hpk] at C
        clear hpk
        go_wp2_with fail
        (with_reducible refine C.out.mono ?_)
        rintro e1 w1 ⟨rfl, q1⟩
        go_wp2
        go_ret
        exact ⟨by rw [hE.out]; rfl, below_next q q.size q1⟩
    · have hE := hide (show idxTm p l = -1 by
        unfold idxTm
        rw [if_pos]
        rw [List.all_eq_true]
        intro f hf
        have h2 := hinv.out f (by rw [List.take_of_length_le (by omega)]; exact hf)
        simp [h2])
      go_wp2
      go_ret
      exact ⟨by rw [hE.out]; rfl, q⟩
theorem idxTm_nonneg (p : Tm → Bool) (l : List Tm) : 0 ≤ idxTm p l ↔ l.any p = true := by
  unfold idxTm
  by_cases h : l.all (fun f => !p f) = true
  · rw [if_pos h]
    have : l.any p = false := by
      rw [List.any_eq_false]
      intro x hx
      have := List.all_eq_true.1 h x hx
      simpa using this
    simp [this]
  · rw [if_neg h]
    have h' : l.all (fun f => !p f) = false := by simpa using h
    obtain ⟨x, hx, hp⟩ := List.all_eq_false.1 h'
    have : l.any p = true := List.any_eq_true.2 ⟨x, hx, by simpa using hp⟩
    simp [this]

set_option maxRecDepth 100000 in
theorem containsTm_any (fid : Nat) (cap : Array Value) (p : Tm → Bool) (hp : ∀ (args : Array Value) (w : World), (callFunc fid args).run Try.prog w = .ok (.enter fid args) w) (l : List Tm) (A : Option Addr) (c : Nat) (w : World) (hr : TmR w w.heap.size A l) (hl : l.length ≤ 1000)
    (hc : Hid (∀ f ∈ l, ∀ w', Below w.heap.size w w' → Calls Try.prog fid (#[.agg #[.int .i64 f.id, .int .i64 f.due]] ++ cap) w' fun e w'' => e = .returned (.bool (p f)) ∧ Below w'.heap.size w' w'')) :
    Calls Try.prog 59 #[.slice A l.length c, .func (.func fid) #[] cap] w fun e w' => e = .returned (.bool (l.any p)) ∧ Below w.heap.size w w' := by
  have I := hide (indexTm_any fid cap p hp l A c w hr hl hc)
  have H := idxTm_nonneg p l
  generalize idxTm p l = X at *
  rcases hb : l.any p with _ | _
  · have hx : X < 0 := by
      rcases Int.lt_or_le X 0 with h | h
      · exact h
      · rw [H.1 h] at hb; cases hb
    clear H hb hr hp hc
    go_enter Try.func59, Try.ntmps59
    go_wp2_with fail
    (with_reducible refine I.out.mono ?_)
    rintro e1 w1 ⟨rfl, q1⟩
    go_wp2
    go_ret
    refine ⟨?_, q1⟩
    refine ret_bool ?_
    (simp <;> omega)
  · have hx : 0 ≤ X := H.2 hb
    clear H hb hr hp hc
    go_enter Try.func59, Try.ntmps59
    go_wp2_with fail
    (with_reducible refine I.out.mono ?_)
    rintro e1 w1 ⟨rfl, q1⟩
    go_wp2
    go_ret
    refine ⟨?_, q1⟩
    refine ret_bool ?_
    (simp <;> omega)

theorem slTm : SlT Try.prog 22 40 2 16 := SlT.mk Try.underlying22 (z := .agg #[.int .i64 0, .int .i64 0]) (by kernel_rfl) rfl (by decide)
def CloneTmV (l : List Tm) (w : World) (e : Ending) (w' : World) : Prop :=
  ∃ A' c', e = .returned (.slice A' l.length c') ∧ Own w' w.heap.size 40 2 A' c' (l.map tmc) ∧ Below w.heap.size w w'

set_option maxRecDepth 100000 in
set_option maxHeartbeats 1000000 in
theorem cloneTm_any (l : List Tm) (A : Option Addr) (c : Nat) (w : World) (hr : TmR w w.heap.size A l) (hl : l.length ≤ 100000) :
    Calls Try.prog 52 #[.slice A l.length c] w (CloneTmV l w) := by
  have hnil := fun (w : World) a n c n' c' => Lib.run_eql_slice_nil (P := Try.prog) w 22 40 a n c n' c' Try.underlying22
  rcases A with _ | a
  · have h0 : l = [] := by
      rcases l with _ | ⟨x, l⟩
      · rfl
      · obtain ⟨_, _, e, _⟩ := hr (by simp)
        cases e
    subst h0
    go_enter Try.func52, Try.ntmps52
    go_wp2
    go_ret
    exact ⟨none, 0, rfl, Own.nil, Below.refl _ _⟩
  · have O0 := hide (Own.lit w w.heap.size 40 2 [] (Nat.le_refl _) (by simp) (by simp))
    have q0 : Below w.heap.size w (w.alloc (.cells #[] 40)) := (Below.refl _ _).alloc (Nat.le_refl _) _
    have R0 := hide (TmR.next hr q0 q0.size)
    have S1 := hide (show (([] : List (List Value)).length + (l.map tmc).length) * 16 ≤ 140737488355328 by simp; omega)
    have S2 := hide (show ([] : List (List Value)).length + (l.map tmc).length ≤ maxLen by simp [maxLen]; omega)
    have S3 := hide (show l.length = (l.map tmc).length by simp)
    clear hr
    go_enter Try.func52, Try.ntmps52
    go_wp2_with (at_builtin; refine wpList_append_rows _ rfl _ _ 22 rfl slTm w.heap.size _ _ _ [] rfl O0.out _ _ _ (l.map tmc) rfl R0.out (tmc_rows l) (tmc_ones l) S1.out S2.out ?_ rfl S3.out ?_)
    · simp
    intro A4 n4 w4 o4 g4
    have q4 : Below w.heap.size w w4 := below_append q0 g4 O0.out (Nat.le_refl _) q0.size
    have O4 := hide o4
    clear o4 g4 O0 R0 S1 S2 S3 q0 hnil
    go_wp2
    go_ret
    exact ⟨A4, n4, by simp, O4.out, q4⟩

/-- What the rounds of DeleteFunc keep: the first i stay, of the first j; the rest is as it was. -/
structure DelTm (p : Tm → Bool) (l : List Tm) (i j : Nat) (m : List Tm) : Prop where
  len : m.length = l.length
  jl : j ≤ l.length
  ij : i ≤ j
  kept : m.take i = (l.take j).filter fun x => !p x
  rest : m.drop j = l.drop j
theorem DelTm.at_ {p : Tm → Bool} {l m : List Tm} {i j : Nat} (h : DelTm p l i j m) (hj : j < l.length) : m[j]'(by rw [h.len]; exact hj) = l[j] := by
  have h1 : m[j]? = l[j]? := by
    have := congrArg (fun x => x[0]?) h.rest
    simpa [List.getElem?_drop] using this
  rw [List.getElem?_eq_getElem hj, List.getElem?_eq_getElem (by rw [h.len]; exact hj)] at h1
  exact Option.some.inj h1
theorem DelTm.skip {p : Tm → Bool} {l m : List Tm} {i j : Nat} (h : DelTm p l i j m) (hj : j < l.length) (hp : p l[j] = true) : DelTm p l i (j + 1) m :=
  ⟨h.len, hj, by have := h.ij; omega, by rw [List.take_succ_eq_append_getElem hj, List.filter_append, h.kept]; simp [hp], by
    have := congrArg (List.drop 1) h.rest
    simpa [List.drop_drop, Nat.add_comm] using this⟩
theorem DelTm.keep {p : Tm → Bool} {l m : List Tm} {i j : Nat} (h : DelTm p l i j m) (hj : j < l.length) (hp : p l[j] = false) : DelTm p l (i + 1) (j + 1) (m.set i l[j]) := by
  have hi := h.ij
  have hil : i < m.length := by rw [h.len]; omega
  refine ⟨by simp [h.len], hj, by omega, ?_, ?_⟩
  · rw [List.take_succ_eq_append_getElem hj, List.filter_append, ← h.kept, List.take_succ_eq_append_getElem (by simpa using hil)]
    simp [hp, List.take_set_of_le]
  · have := congrArg (List.drop 1) h.rest
    rw [List.drop_set_of_lt (by omega)]
    simpa [List.drop_drop, Nat.add_comm] using this
theorem delTm_start {p : Tm → Bool} {l : List Tm} (h : 0 ≤ idxTm p l) : ∃ i : Nat, idxTm p l = i ∧ i < l.length ∧ DelTm p l i (i + 1) l := by
  have ha := (idxTm_nonneg p l).1 h
  unfold idxTm at h ⊢
  have hn : ¬ (l.all (fun f => !p f)) = true := by
    intro hc
    rw [if_pos hc] at h
    omega
  rw [if_neg hn]
  have hlt : l.findIdx p < l.length := List.findIdx_lt_length_of_exists (List.any_eq_true.1 ha)
  refine ⟨_, rfl, hlt, rfl, hlt, by omega, ?_, rfl⟩
  rw [List.take_succ_eq_append_getElem hlt, List.filter_append]
  have h1 : (l.take (l.findIdx p)).filter (fun x => !p x) = l.take (l.findIdx p) := by
    rw [List.filter_eq_self]
    intro x hx
    rw [List.mem_take_iff_getElem] at hx
    obtain ⟨k, hk, rfl⟩ := hx
    have := List.not_of_lt_findIdx (p := p) (xs := l) (i := k) (by omega)
    simpa using this
  have h2 : p (l[l.findIdx p]) = true := List.findIdx_getElem
  rw [h1]
  simp [h2]
theorem delTm_none {p : Tm → Bool} {l : List Tm} (h : idxTm p l < 0) : idxTm p l = -1 ∧ (l.filter fun x => !p x) = l := by
  have hn : ¬ l.any p = true := fun hc => by have := (idxTm_nonneg p l).2 hc; omega
  have ha : l.all (fun f => !p f) = true := by
    rw [List.all_eq_true]
    intro x hx
    cases hpx : p x
    · rfl
    · exact absurd (List.any_eq_true.2 ⟨x, hx, hpx⟩) hn
  refine ⟨by unfold idxTm; rw [if_pos ha], ?_⟩
  rw [List.filter_eq_self]
  exact List.all_eq_true.1 ha

theorem Tm_load (W : World) (g o : Nat) (x : Tm) (h : W.rangeAt g o (tmc x)) : (Instr.loadAt 40 (.pointer (some ⟨g, o, none⟩))).run Try.prog W = .ok (.agg #[.int .i64 x.id, .int .i64 x.due]) W :=
  run_loadAt_mid W g o 40 (tmc x) _ h Try.underlying40 rfl (by kernel_rfl)

set_option maxRecDepth 100000 in
set_option maxHeartbeats 2000000 in
theorem deleteTm_any (fid : Nat) (cap : Array Value) (p : Tm → Bool) (hp : ∀ (args : Array Value) (w : World), (callFunc fid args).run Try.prog w = .ok (.enter fid args) w) (base : Nat) (l : List Tm) (A : Option Addr) (c : Nat) (w : World)
    (ho : Own w base 40 2 A c (l.map tmc)) (hb : base ≤ w.heap.size) (hl : l.length ≤ 1000) (K : World → Prop) (hK0 : Hid (K w)) (hK1 : Hid (∀ W W', K W → Below W.heap.size W W' → K W')) (hK2 : Hid (∀ W W', K W → W.grownBy W' (Value.slice A l.length c).ownBlock → K W')) (z : Tm) (hz : ∀ w, (zeroValue 40).run Try.prog w = .ok (.agg #[.int .i64 z.id, .int .i64 z.due]) w)
    (hc : Hid (∀ f ∈ l, ∀ w', Below base w w' → K w' → Calls Try.prog fid (#[.agg #[.int .i64 f.id, .int .i64 f.due]] ++ cap) w' fun e w'' => e = .returned (.bool (p f)) ∧ Below w'.heap.size w' w'')) :
    Calls Try.prog 51 #[.slice A l.length c, .func (.func fid) #[] cap] w fun e w' => e = .returned (.slice A (l.filter fun x => !p x).length c) ∧ Own w' base 40 2 A c ((l.filter fun x => !p x).map tmc) ∧ Below base w w' := by
  have I := hide (indexTm_any fid cap p hp l A c w (ho.rd (tmc_rows l)) hl (hide (fun f hf w' hw => hc.out f hf w' (hw.mono hb) (hK1.out _ _ hK0.out hw))))
  have HO := hide ho
  have hle : l.length ≤ c := by have := ho.le; simpa using this
  by_cases h : idxTm p l < 0
  · obtain ⟨e1, e2⟩ := delTm_none h
    rw [e2]
    rw [e1] at I
    clear ho h e1 e2 hp hc
    go_enter Try.func51, Try.ntmps51
    go_wp2_with fail
    (with_reducible refine I.out.mono ?_)
    rintro e1 w1 ⟨rfl, q1⟩
    go_wp2
    go_ret
    exact ⟨rfl, HO.out.grown q1, q1.mono hb⟩
  · obtain ⟨i0, e1, hil, hd⟩ := delTm_start (by omega : 0 ≤ idxTm p l)
    rw [e1] at I
    obtain ⟨g, rfl, hg1, hg2⟩ := ho.ofLen (by rw [List.length_map]; omega)
    have HD := hide hd
    have hi1 : ((i0 : Int) == -1) = false := by rw [beq_eq_false_iff_ne]; omega
    clear ho h e1 hd
    go_enter Try.func51, Try.ntmps51
    go_wp2_with fail
    (with_reducible refine I.out.mono ?_)
    rintro e1 w1 ⟨rfl, q1⟩
    have O1 := hide (HO.out.grown q1)
    go_wp2
    go_loopw [5, 6] (fun vi vj W => ∃ (i j : Nat) (m : List Tm), vi = .int .i64 i ∧ vj = .int .i64 j ∧ j ≤ l.length ∧ i < j ∧ Hid (DelTm p l i j m ∧ Own W base 40 2 (some ⟨g, 0, none⟩) c (m.map tmc)) ∧ Below base w W ∧ Hid (K W)) (fun _ vj _ => l.length - (intOf vj).toNat)
    case atStart => exact ⟨i0, i0 + 1, l, rfl, by go_num, by omega, by omega, hide ⟨HD.out, O1.out⟩, q1.mono hb, hide (hK1.out _ _ hK0.out q1)⟩
    case round =>
      obtain ⟨i, j, m, rfl, rfl, hj, hij, hr, q, hK⟩ := hrel
      have zb : base ≤ wr.heap.size := by have := q.size; omega
      have hml := hr.out.1.len
      by_cases hlt : j < l.length
      · have hjm : j < m.length := by omega
        have hrg : wr.rangeAt g (j * 2) (tmc l[j]) := by
          have := hr.out.2.range (tmc_rows m) (k := j) (by simpa using hjm)
          simpa [hr.out.1.at_ hlt] using this
        obtain ⟨c0, c1⟩ := Tm_cells hrg
        have C := hide (hc.out l[j] (List.getElem_mem hlt))
        have hfr := World.ownsRow.frozenAt hr.out.2
        have OA := hide (hr.out.2.alloc (.cells #[.int .i64 l[j].id, .int .i64 l[j].due] 40))
        have qa : Below base w (wr.alloc (.cells #[.int .i64 l[j].id, .int .i64 l[j].due] 40)) := q.alloc zb _
        have him : i < m.length := by omega
        have KA := hide (hK1.out _ _ hK.out ((Below.refl _ _).alloc (Nat.le_refl _) (.cells #[.int .i64 l[j].id, .int .i64 l[j].due] 40)))
        clear hml hrg
        rcases hpj : p l[j] with _ | _
        · have HK := hide (hr.out.1.keep hlt hpj)
          rw [hpj] at C
          clear hpj
          go_wp2_with fail
          (with_reducible refine (C.out _ qa KA.out).mono ?_)
          rintro e2 w2 ⟨rfl, q2⟩
          have qb := below_next qa (Nat.le_trans hb qa.size) q2
          have o2 := OA.out.grown q2
          obtain ⟨hc2, hz2⟩ := bcell q2
          have zx : wr.heap.size < w2.heap.size := by simp at hz2; omega
          obtain ⟨d0, d1⟩ := Tm_cells (x := m[i]) (by have := o2.range (tmc_rows m) (k := i) (by simpa using him); simpa using this)
          have hf2 := World.ownsRow.frozenAt o2
          obtain ⟨s3, g3⟩ := o2.setRow (tmc_rows m) (k := i) (row := tmc l[j]) (by simpa using him) rfl
          rw [← List.map_set] at s3
          have q3 := below_append (N := 0) (A := some ⟨g, 0, none⟩) (c := c) qb g3 o2 (Nat.le_refl _) (Nat.le_trans hb qb.size)
          have S3 := hide (And.intro HK.out s3)
          have K3 := hide (hK2.out _ _ (hK1.out _ _ KA.out q2) g3)
          have Q3 := hide q3
          clear s3 g3 q3 o2 c0 c1 hfr
          go_wp2
          go_roundw
          case rel => exact ⟨i + 1, j + 1, _, by go_num, by go_num, by omega, by omega, S3, Q3.out, K3⟩
          case measure => simp [intOf]; omega
        · have HK := hide (hr.out.1.skip hlt hpj)
          rw [hpj] at C
          clear hpj
          go_wp2_with fail
          (with_reducible refine (C.out _ qa KA.out).mono ?_)
          rintro e2 w2 ⟨rfl, q2⟩
          have qb := below_next qa (Nat.le_trans hb qa.size) q2
          have S3 := hide (And.intro HK.out (OA.out.grown q2))
          have K3 := hide (hK1.out _ _ KA.out q2)
          clear c0 c1 hfr
          go_wp2
          go_roundw
          case rel => exact ⟨i, j + 1, m, rfl, by go_num, by omega, by omega, S3, qb, K3⟩
          case measure => simp [intOf]; omega
      · obtain rfl : j = l.length := by omega
        have hkp := hr.out.1.kept
        rw [List.take_length] at hkp
        have hfl : (l.filter fun x => !p x).length = i := by rw [← hkp, List.length_take]; omega
        obtain ⟨A1, eA1, hfrom⟩ := run_from (P := Try.prog) 22 40 Try.underlying22 2 (fun W => by kernel_rfl) (some ⟨g, 0, none⟩) l.length c i i rfl (by omega)
        rw [if_neg (by omega)] at eA1
        have hto := run_to (P := Try.prog) 22 40 Try.underlying22 2 (fun W => by kernel_rfl) (some ⟨g, 0, none⟩) l.length c i i rfl (by omega)
        obtain ⟨W3, hclr, own3, g3⟩ := run_clear_rows (P := Try.prog) wr 22 40 (z := .agg #[.int .i64 z.id, .int .i64 z.due]) Try.underlying22 hz (by rfl) (by have := tmc_one z; simpa [tmc, Value.cells] using this) base g c hr.out.2 (tmc_rows m) (n := l.length) (by simpa using hml.symm) i (by simpa [hml] using hij) (c - i)
        rw [← List.map_take, hkp] at own3
        have q3 := below_append (N := 0) (A := some ⟨g, 0, none⟩) (c := c) q g3 hr.out.2 (Nat.le_refl _) zb
        obtain rfl : A1 = some ⟨g, i * 2, none⟩ := by rw [eA1]; simp [Go.WideShapes.add_plain]
        have FIN := hide (And.intro own3 q3)
        have HFL := hide hfl
        clear own3 q3 g3 eA1 hkp hfl hml hr
        go_wp2
        go_ret
        exact ⟨by rw [HFL.out]; rfl, FIN.out⟩


/-- Is a row in order, from lo on? -/
def srtTo (l : List Tm) (lo : Nat) : Prop := ∀ k (h : k + 1 < l.length), lo ≤ k → ¬ ordT l[k + 1] l[k] < 0
def srtB (l : List Tm) : Bool := (List.range (l.length - 1)).all fun k => match l[k]?, l[k + 1]? with
  | some x, some y => !decide (ordT y x < 0)
  | _, _ => true
theorem srtB_iff {l : List Tm} : srtB l = true ↔ srtTo l 0 := by
  unfold srtB srtTo
  rw [List.all_eq_true]
  constructor
  · intro h k hk _
    have := h k (List.mem_range.2 (by omega))
    rw [List.getElem?_eq_getElem (by omega), List.getElem?_eq_getElem hk] at this
    simpa using this
  · intro h k hk
    have hk := List.mem_range.1 hk
    rw [List.getElem?_eq_getElem (by omega), List.getElem?_eq_getElem (by omega)]
    simpa using h k (by omega) (Nat.zero_le _)
theorem srtB_bad {l : List Tm} {k : Nat} (hk : k + 1 < l.length) (h : ordT l[k + 1] l[k] < 0) : srtB l = false := by
  rw [← Bool.not_eq_true, srtB_iff]
  exact fun hs => hs k hk (Nat.zero_le _) h

theorem call_order (args : Array Value) (w : World) : (callFunc 55 args).run Try.prog w = .ok (.enter 55 args) w := by kernel_rfl

set_option maxRecDepth 100000 in
set_option maxHeartbeats 2000000 in
theorem isSorted_any (l : List Tm) (A : Option Addr) (c : Nat) (w : World) (hr : TmR w w.heap.size A l) (hl : l.length ≤ 1000) :
    Calls Try.prog 58 #[.slice A l.length c, .func (.func 55) #[] #[]] w fun e w' => e = .returned (.bool (srtB l)) ∧ Below w.heap.size w w' := by
  have HR := hide hr
  clear hr
  by_cases h0 : l.length = 0
  · have e : srtB l = true := srtB_iff.2 (fun k h _ => by omega)
    rw [e, h0]
    clear e h0 hl
    go_enter Try.func58, Try.ntmps58
    go_wp2
    refine wp_loop_rounds 1 ?_
    rw [rounds_succ]
    go_wp2
    go_ret
    exact ⟨rfl, Below.refl _ _⟩
  · obtain ⟨m, hm⟩ : ∃ m, m = l.length - 1 := ⟨_, rfl⟩
    have hml : m + 1 = l.length := by omega
    have hw0 : IntKind.i64.wrap ((l.length : Int) - 1) = (m : Int) := by rw [IntWalk.i64_in _ (by omega)]; omega
    have hsub : ((l.length : Int) - 1) = (m : Int) := by omega
    have HSUB := hide hsub
    have HML := hide hml
    clear h0 hm hsub hml
    go_enter Try.func58, Try.ntmps58
    go_wp2
    clear hw0
    go_loopw [5] (fun i W => ∃ j : Nat, j ≤ m ∧ i = .int .i64 j ∧ Hid (srtTo l j) ∧ Below w.heap.size w W) (fun i _ => (intOf i).toNat)
    case atStart => exact ⟨m, Nat.le_refl _, rfl, hide (fun k h hk => by have := HML.out; omega), Below.refl _ _⟩
    case round =>
      obtain ⟨j, hj, rfl, hs, q⟩ := hrel
      by_cases h0 : 0 < j
      · obtain ⟨p, hp⟩ : ∃ p, p = j - 1 := ⟨_, rfl⟩
        have hml := HML.out
        have hjl : j < l.length := by omega
        have hpl : p < l.length := by omega
        have hpj : p + 1 = j := by omega
        have hw1 : IntKind.i64.wrap ((j : Int) - 1) = (p : Int) := by rw [IntWalk.i64_in _ (by omega)]; omega
        have hi1 : (j : Int) < (l.length : Int) := by omega
        have hi2 : (p : Int) < (l.length : Int) := by omega
        have hi0 : (0 : Int) < (j : Int) := by omega
        have hi3 : (0 : Int) ≤ (p : Int) := by omega
        have hi4 : (0 : Int) ≤ (j : Int) := by omega
        obtain ⟨b, off, rfl, _⟩ := HR.out.at_ hjl
        have RD := (TmR.next HR.out q q.size)
        have mj := TmR.all RD (Nat.le_refl _) hjl
        have mp := TmR.all RD (Nat.le_refl _) hpl
        have OR := hide (fun W => order_any l[j] l[p] W)
        have HPJ := hide hpj
        clear hp hml RD hpj
        by_cases ho : ordT l[j] l[p] < 0
        · have HB := hide (srtB_bad (l := l) (k := p) (by have := HPJ.out; omega) (by have := HPJ.out; subst this; exact ho))
          have ho' : decide (ordT l[j] l[p] < 0) = true := decide_eq_true ho
          clear ho
          go_wp2_with fail
          refine wp_region_tame (by kernel_rfl) (by kernel_rfl) ?_
          repeat (go_big_quiet_step (first | (go_at_call 55; exact tame_of (OR.out _))))
          refine wpQuiet_nil ?_
          rintro _ ⟨s, rfl⟩
          have qs := q.trans (s.h.mono q.size)
          clear mj mp hw1
          go_wp2
          go_ret
          exact ⟨by rw [HB.out]; rfl, qs⟩
        · have HS := hide (show srtTo l p from fun k h hk => by
            by_cases e : k = p
            · subst e; have := HPJ.out; subst this; exact ho
            · exact hs.out k h (by have := HPJ.out; omega))
          have ho' : decide (ordT l[j] l[p] < 0) = false := decide_eq_false ho
          clear ho
          go_wp2_with fail
          refine wp_region_tame (by kernel_rfl) (by kernel_rfl) ?_
          repeat (go_big_quiet_step (first | (go_at_call 55; exact tame_of (OR.out _))))
          refine wpQuiet_nil ?_
          rintro _ ⟨s, rfl⟩
          have qs := q.trans (s.h.mono q.size)
          clear mj mp
          go_wp2
          go_roundw
          case rel => exact ⟨p, by have := HPJ.out; omega, by first | rfl | (have := HPJ.out; congr 1; omega), HS.out, qs⟩
          case measure => have := HPJ.out; simp [intOf]; omega
      · have hj0 : j = 0 := by omega
        subst hj0
        have HT := hide (srtB_iff.2 hs.out)
        go_wp2
        go_ret
        exact ⟨by rw [HT.out]; rfl, q⟩
end Go.Proofs.Ytnfpbbgajabjkaa
