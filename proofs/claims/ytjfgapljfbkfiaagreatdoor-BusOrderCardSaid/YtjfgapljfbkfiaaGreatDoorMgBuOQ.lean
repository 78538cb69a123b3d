/- Plain: controllers that were given frames, one each. -/
import Derived.Test.YtjfgapljfbkfiaaGreatDoorMgRfB
import Derived.Test.YtjfgapljfbkfiaaGreatDoorBuC
import Derived.Deep.MidRow
import Derived.Test.YtjfgapljfbkfiaaGreatDoorOwS
import Derived.Lib.SliceRun
namespace Go.Proofs.YtjfgapljfbkfiaaGreatDoor
open Go.ChangeShapes Go.WideShapes Go.ChangeAt Go.RowKit
open FP (Fr)
open OP (atF bestTo orderF)

def gaveL (m : Nat) (fs : List Fr) : List Cl := fs.map (fun f => idleC.give f) ++ List.replicate (m - fs.length) idleC
theorem gave_nil (m : Nat) : gaveL m [] = List.replicate m idleC := by simp [gaveL]
theorem gave_len {m : Nat} {fs : List Fr} (h : fs.length ≤ m) : (gaveL m fs).length = m := by simp [gaveL]; omega
theorem gave_ok {m : Nat} {fs : List Fr} (h : ∀ f ∈ fs, FP.rightB f = true) : AllOk (gaveL m fs) := fun c hc => by
  unfold gaveL at hc
  rcases List.mem_append.1 hc with hc | hc
  · obtain ⟨f, hf, rfl⟩ := List.mem_map.1 hc
    exact idle_ok.give rfl (h f hf)
  · rw [(List.mem_replicate.1 hc).2]; exact idle_ok
theorem gave_get {m : Nat} {fs : List Fr} (h : fs.length < m) : (gaveL m fs).getD fs.length zCl = idleC := by
  unfold gaveL
  rw [List.getD_eq_getElem?_getD, List.getElem?_append_right (by simp), List.length_map, Nat.sub_self, List.getElem?_replicate, if_pos (by omega)]
  rfl
theorem gave_sub {m : Nat} {fs : List Fr} (h : fs.length < m) {f : Fr} (hf : FP.rightB f = true) : subL (gaveL m fs) fs.length f = gaveL m (fs ++ [f]) ∧ ((gaveL m fs).getD fs.length zCl).subE f = 0 := by
  have h1 : idleC.subC f = idleC.give f := by unfold Cl.subC; rw [if_neg (by rw [hf]; decide), if_neg (by decide)]
  constructor
  · unfold subL
    rw [gave_get h, h1]
    unfold gaveL
    rw [List.set_append_right _ _ (by simp), List.length_map, Nat.sub_self, show m - fs.length = (m - (fs ++ [f]).length) + 1 by simp; omega, List.replicate_succ, List.set_cons_zero, List.map_append, List.append_assoc]
    rfl
  · rw [gave_get h]
    unfold Cl.subE
    rw [if_neg (by rw [hf]; decide), if_neg (by decide)]
theorem gave_frs (m : Nat) (fs : List Fr) : frsOf (gaveL m fs) = fs := by
  unfold frsOf gaveL
  rw [List.filterMap_append, List.filterMap_map]
  have e1 : List.filterMap ((fun c : Cl => if c.has = true then some c.f else none) ∘ fun f => idleC.give f) fs = fs := by
    rw [show ((fun c : Cl => if c.has = true then some c.f else none) ∘ fun f => idleC.give f) = some from rfl]
    simp
  rw [e1]
  have e2 : List.filterMap (fun c : Cl => if c.has = true then some c.f else none) (List.replicate (m - fs.length) idleC) = [] := by
    rw [List.filterMap_eq_nil_iff]
    intro c hc
    rw [(List.mem_replicate.1 hc).2]
    rfl
  rw [e2, List.append_nil]
theorem gave_field {m : Nat} {fs : List Fr} (h2 : 2 ≤ m) (h : fs.length ≤ m) (hr : ∀ f ∈ fs, FP.rightB f = true) (hp : fs.Pairwise fun a b => fieldF a ≠ fieldF b) : Field (gaveL m fs) := by
  refine ⟨fun c hc => ?_, by rw [gave_len h]; exact h2, by rw [gave_frs]; exact hr, by rw [gave_frs]; exact hp⟩
  unfold gaveL at hc
  rcases List.mem_append.1 hc with hc | hc
  · obtain ⟨f, hf, rfl⟩ := List.mem_map.1 hc
    exact ⟨idle_ok.give rfl (hr f hf), rfl, rfl, rfl⟩
  · rw [(List.mem_replicate.1 hc).2]; exact idl_idle
theorem gave_run {m : Nat} {fs : List Fr} (h2 : 2 ≤ m) (h : fs.length ≤ m) (hr : ∀ f ∈ fs, FP.rightB f = true) (hp : fs.Pairwise fun a b => fieldF a ≠ fieldF b) (now : Int) :
    (∀ j, j < m → gotOf j (snB (gaveL m fs) now (180 * fs.length + 20)) = orderF fs) ∧ sentOf (snB (gaveL m fs) now (180 * fs.length + 20)) = fs.length ∧ (∀ y ∈ snB (gaveL m fs) now (180 * fs.length + 20), y.kind = 1 ∨ y.kind = 2 ∨ y.kind = 4) ∧ (∀ c ∈ itB (gaveL m fs) (180 * fs.length + 20), Idl c ∧ c.has = false) ∧ (itB (gaveL m fs) (180 * fs.length + 20)).length = m := by
  have H := order_run fs.length (gave_field h2 h hr hp) (by rw [gave_frs]) now (180 * fs.length + 20) (by omega)
  rw [gave_frs, gave_len h] at H
  exact H
theorem who_lt (now : Int) : ∀ (l : List Mc) (k : Nat), ∀ y ∈ seens now k l, 0 ≤ y.who ∧ y.who < (k + l.length : Nat)
  | [], _, y, h => by cases h
  | m :: l, k, y, h => by
    unfold seens at h
    have ih := who_lt now l (k + 1)
    split at h
    · have := ih y h; rw [List.length_cons]; omega
    · rcases List.mem_cons.1 h with rfl | h
      · rw [List.length_cons]; exact ⟨by show (0 : Int) ≤ (k : Nat); omega, by show ((k : Nat) : Int) < _; omega⟩
      · have := ih y h; rw [List.length_cons]; omega
theorem sn_who_lt (l : List Cl) (now : Int) : ∀ n, ∀ y ∈ snB l now n, 0 ≤ y.who ∧ y.who < l.length
  | 0, y, h => by cases h
  | n + 1, y, h => by
    unfold snB at h
    rcases List.mem_append.1 h with h | h
    · exact sn_who_lt l now n y h
    · have := who_lt _ _ _ y h
      unfold evB at this
      rw [List.length_map, it_len] at this
      omega
end Go.Proofs.YtjfgapljfbkfiaaGreatDoor

/- Package box: rows of boxes; ahead; slices.IndexFunc, ContainsFunc of boxes. -/
namespace Go.Proofs.YtjfgapljfbkfiaaGreatDoor
open Go.ChangeShapes Go.WideShapes Go.ChangeAt Go.RowKit
open FP (Fr)

structure Bx where
  h : Int
  f : Fr
  s : Int

def aheadB (a b : Bx) : Bool := lessB a.f b.f || (!lessB b.f a.f && decide (a.s < b.s))

/-! ### rows of api.Box -/
def bxc (x : Bx) : List Value := [.int .i64 x.h, .int .u32 x.f.id, .bool x.f.ext, .bool x.f.rem, .int .i64 x.f.dlc, .string x.f.data, .int .i64 x.s]
theorem bxc_len (x : Bx) : (bxc x).length = 7 := rfl
theorem bxc_rows (l : List Bx) : ∀ r ∈ l.map bxc, r.length = 7 := by intro r hr; obtain ⟨x, _, rfl⟩ := List.mem_map.1 hr; rfl
theorem bxc_ones (l : List Bx) : ∀ r ∈ l.map bxc, ∀ u ∈ r, u.oneCell' = true := by
  intro r hr u hu
  obtain ⟨x, _, rfl⟩ := List.mem_map.1 hr
  revert u
  simp [bxc, Value.oneCell']
def BxR (w : World) (B : Nat) (A : Option Addr) (l : List Bx) : Prop := Rd w B A 7 (l.map bxc)
theorem BxR.at_ {w : World} {B : Nat} {A : Option Addr} {l : List Bx} (h : BxR w B A l) {k : Nat} (hk : k < l.length) :
    ∃ b off, A = some ⟨b, off, none⟩ ∧ b < B ∧ w.cell? ⟨b, off + k * 7, none⟩ = some (.int .i64 l[k].h) ∧ w.cell? ⟨b, off + k * 7 + 1, none⟩ = some (.int .u32 l[k].f.id) ∧ w.cell? ⟨b, off + k * 7 + 2, none⟩ = some (.bool l[k].f.ext) ∧ w.cell? ⟨b, off + k * 7 + 3, none⟩ = some (.bool l[k].f.rem) ∧ w.cell? ⟨b, off + k * 7 + 4, none⟩ = some (.int .i64 l[k].f.dlc) ∧ w.cell? ⟨b, off + k * 7 + 5, none⟩ = some (.string l[k].f.data) ∧ w.cell? ⟨b, off + k * 7 + 6, none⟩ = some (.int .i64 l[k].s) := by
  obtain ⟨b, off, e, hb, hc⟩ := h (by rw [List.length_map]; omega)
  have hx : (l.map bxc)[k]? = some (bxc l[k]) := by simp [hk]
  exact ⟨b, off, e, hb, hc k _ 0 _ hx rfl, hc k _ 1 _ hx rfl, hc k _ 2 _ hx rfl, hc k _ 3 _ hx rfl, hc k _ 4 _ hx rfl, hc k _ 5 _ hx rfl, hc k _ 6 _ hx rfl⟩
theorem BxR.below {w w' : World} {B : Nat} {A : Option Addr} {l : List Bx} (h : BxR w B A l) (hb : Below B w w') : BxR w' B A l := Rd.below h hb
theorem BxR.next {w w' : World} {B : Nat} {A : Option Addr} {l : List Bx} (h : BxR w B A l) (hb : Below B w w') (hB : B ≤ w'.heap.size) : BxR w' w'.heap.size A l := Rd.next h hb hB
theorem BxR.take {w : World} {B : Nat} {A : Option Addr} {l : List Bx} (h : BxR w B A l) (n : Nat) : BxR w B A (l.take n) := by
  have := Rd.take h n
  rwa [← List.map_take] at this
theorem BxR.at2 {w : World} {B b off : Nat} {l : List Bx} (h : BxR w B (some ⟨b, off, none⟩) l) {k : Nat} (hk : k < l.length) : b < B ∧ w.cell? ⟨b, off + k * 7, none⟩ = some (.int .i64 l[k].h) ∧ w.cell? ⟨b, off + k * 7 + 1, none⟩ = some (.int .u32 l[k].f.id) ∧ w.cell? ⟨b, off + k * 7 + 2, none⟩ = some (.bool l[k].f.ext) ∧ w.cell? ⟨b, off + k * 7 + 3, none⟩ = some (.bool l[k].f.rem) ∧ w.cell? ⟨b, off + k * 7 + 4, none⟩ = some (.int .i64 l[k].f.dlc) ∧ w.cell? ⟨b, off + k * 7 + 5, none⟩ = some (.string l[k].f.data) ∧ w.cell? ⟨b, off + k * 7 + 6, none⟩ = some (.int .i64 l[k].s) := by
  obtain ⟨b, off, e, hb, h⟩ := h.at_ hk
  cases e
  exact ⟨hb, h⟩
theorem BxR.all {w : World} {B b off : Nat} {l : List Bx} (h : BxR w B (some ⟨b, off, none⟩) l) (hB : B ≤ w.heap.size) {k : Nat} (hk : k < l.length) (s : InW w) : s.W.cell? ⟨b, off + k * 7, none⟩ = some (.int .i64 l[k].h) ∧ s.W.cell? ⟨b, off + k * 7 + 1, none⟩ = some (.int .u32 l[k].f.id) ∧ s.W.cell? ⟨b, off + k * 7 + 2, none⟩ = some (.bool l[k].f.ext) ∧ s.W.cell? ⟨b, off + k * 7 + 3, none⟩ = some (.bool l[k].f.rem) ∧ s.W.cell? ⟨b, off + k * 7 + 4, none⟩ = some (.int .i64 l[k].f.dlc) ∧ s.W.cell? ⟨b, off + k * 7 + 5, none⟩ = some (.string l[k].f.data) ∧ s.W.cell? ⟨b, off + k * 7 + 6, none⟩ = some (.int .i64 l[k].s) := by
  obtain ⟨hb, c0, c1, c2, c3, c4, c5, c6⟩ := h.at2 hk
  have hb : b < w.heap.size := by omega
  exact ⟨s.cell hb c0, s.cell hb c1, s.cell hb c2, s.cell hb c3, s.cell hb c4, s.cell hb c5, s.cell hb c6⟩
/-- A box of one, just laid: what it holds later. -/
theorem Bx_box {W w1 : World} {B : Nat} {t : TypeId} {x : Bx} (hB : B = W.heap.size) (h : Below (B + 1) (W.alloc (.cells #[.int .i64 x.h, .int .u32 x.f.id, .bool x.f.ext, .bool x.f.rem, .int .i64 x.f.dlc, .string x.f.data, .int .i64 x.s] t)) w1) : w1.cell? ⟨B, 0, none⟩ = some (.int .i64 x.h) ∧ w1.cell? ⟨B, 1, none⟩ = some (.int .u32 x.f.id) ∧ w1.cell? ⟨B, 2, none⟩ = some (.bool x.f.ext) ∧ w1.cell? ⟨B, 3, none⟩ = some (.bool x.f.rem) ∧ w1.cell? ⟨B, 4, none⟩ = some (.int .i64 x.f.dlc) ∧ w1.cell? ⟨B, 5, none⟩ = some (.string x.f.data) ∧ w1.cell? ⟨B, 6, none⟩ = some (.int .i64 x.s) := ⟨cellBelow h (by omega) (by subst hB; simp [go_sem]), cellBelow h (by omega) (by subst hB; simp [go_sem]), cellBelow h (by omega) (by subst hB; simp [go_sem]), cellBelow h (by omega) (by subst hB; simp [go_sem]), cellBelow h (by omega) (by subst hB; simp [go_sem]), cellBelow h (by omega) (by subst hB; simp [go_sem]), cellBelow h (by omega) (by subst hB; simp [go_sem])⟩
theorem Bx_boxs {w1 : World} {B : Nat} {x : Bx} (hb : B < w1.heap.size) (h : w1.cell? ⟨B, 0, none⟩ = some (.int .i64 x.h) ∧ w1.cell? ⟨B, 1, none⟩ = some (.int .u32 x.f.id) ∧ w1.cell? ⟨B, 2, none⟩ = some (.bool x.f.ext) ∧ w1.cell? ⟨B, 3, none⟩ = some (.bool x.f.rem) ∧ w1.cell? ⟨B, 4, none⟩ = some (.int .i64 x.f.dlc) ∧ w1.cell? ⟨B, 5, none⟩ = some (.string x.f.data) ∧ w1.cell? ⟨B, 6, none⟩ = some (.int .i64 x.s)) (s : InW w1) : s.W.cell? ⟨B, 0, none⟩ = some (.int .i64 x.h) ∧ s.W.cell? ⟨B, 1, none⟩ = some (.int .u32 x.f.id) ∧ s.W.cell? ⟨B, 2, none⟩ = some (.bool x.f.ext) ∧ s.W.cell? ⟨B, 3, none⟩ = some (.bool x.f.rem) ∧ s.W.cell? ⟨B, 4, none⟩ = some (.int .i64 x.f.dlc) ∧ s.W.cell? ⟨B, 5, none⟩ = some (.string x.f.data) ∧ s.W.cell? ⟨B, 6, none⟩ = some (.int .i64 x.s) := by
  obtain ⟨c0, c1, c2, c3, c4, c5, c6⟩ := h
  exact ⟨s.cell hb c0, s.cell hb c1, s.cell hb c2, s.cell hb c3, s.cell hb c4, s.cell hb c5, s.cell hb c6⟩
theorem Bx_boxn {w1 w2 : World} {B : Nat} {x : Bx} (hb : B < w1.heap.size) (h : w1.cell? ⟨B, 0, none⟩ = some (.int .i64 x.h) ∧ w1.cell? ⟨B, 1, none⟩ = some (.int .u32 x.f.id) ∧ w1.cell? ⟨B, 2, none⟩ = some (.bool x.f.ext) ∧ w1.cell? ⟨B, 3, none⟩ = some (.bool x.f.rem) ∧ w1.cell? ⟨B, 4, none⟩ = some (.int .i64 x.f.dlc) ∧ w1.cell? ⟨B, 5, none⟩ = some (.string x.f.data) ∧ w1.cell? ⟨B, 6, none⟩ = some (.int .i64 x.s)) (q : Below w1.heap.size w1 w2) : w2.cell? ⟨B, 0, none⟩ = some (.int .i64 x.h) ∧ w2.cell? ⟨B, 1, none⟩ = some (.int .u32 x.f.id) ∧ w2.cell? ⟨B, 2, none⟩ = some (.bool x.f.ext) ∧ w2.cell? ⟨B, 3, none⟩ = some (.bool x.f.rem) ∧ w2.cell? ⟨B, 4, none⟩ = some (.int .i64 x.f.dlc) ∧ w2.cell? ⟨B, 5, none⟩ = some (.string x.f.data) ∧ w2.cell? ⟨B, 6, none⟩ = some (.int .i64 x.s) := by
  obtain ⟨c0, c1, c2, c3, c4, c5, c6⟩ := h
  exact ⟨cellBelow q hb c0, cellBelow q hb c1, cellBelow q hb c2, cellBelow q hb c3, cellBelow q hb c4, cellBelow q hb c5, cellBelow q hb c6⟩
theorem Bx_cells {W : World} {g o : Nat} {x : Bx} (h : World.rangeAt W g o (bxc x)) : W.cell? ⟨g, o, none⟩ = some (.int .i64 x.h) ∧ W.cell? ⟨g, o + 1, none⟩ = some (.int .u32 x.f.id) ∧ W.cell? ⟨g, o + 2, none⟩ = some (.bool x.f.ext) ∧ W.cell? ⟨g, o + 3, none⟩ = some (.bool x.f.rem) ∧ W.cell? ⟨g, o + 4, none⟩ = some (.int .i64 x.f.dlc) ∧ W.cell? ⟨g, o + 5, none⟩ = some (.string x.f.data) ∧ W.cell? ⟨g, o + 6, none⟩ = some (.int .i64 x.s) := ⟨h 0 _ rfl, h 1 _ rfl, h 2 _ rfl, h 3 _ rfl, h 4 _ rfl, h 5 _ rfl, h 6 _ rfl⟩
theorem bxc_one (x : Bx) : ∀ v ∈ bxc x, v.oneCell' = true := bxc_ones [x] _ (by simp)

/-- The first place; -1: none. -/
def idxBx (p : Bx → Bool) (l : List Bx) : Int := if l.all (fun f => !p f) then -1 else ((l.findIdx p : Nat) : Int)

theorem idxBx_nonneg (p : Bx → Bool) (l : List Bx) : 0 ≤ idxBx p l ↔ l.any p = true := by
  unfold idxBx
  by_cases h : l.all (fun f => !p f) = true
  · rw [if_pos h]
    have : l.any p = false := by
      rw [List.any_eq_false]
      intro x hx
      have := List.all_eq_true.1 h x hx
      simpa using this
    simp [this]
  · rw [if_neg h]
    have h' : l.all (fun f => !p f) = false := by simpa using h
    obtain ⟨x, hx, hp⟩ := List.all_eq_false.1 h'
    have : l.any p = true := List.any_eq_true.2 ⟨x, hx, by simpa using hp⟩
    simp [this]

end Go.Proofs.YtjfgapljfbkfiaaGreatDoor

/- box.Right. -/
namespace Go.Proofs.YtjfgapljfbkfiaaGreatDoor
open Go.ChangeShapes Go.WideShapes Go.ChangeAt Go.RowKit
open FP (Fr)

/-- May the box at k be, in a row of which seq came? -/
def okBx (l : List Bx) (seq : Int) (k : Nat) (x : Bx) : Bool :=
  FP.rightB x.f && (decide (0 ≤ x.h) && (decide (x.h ≤ 1000000) && (decide (0 ≤ x.s) && (decide (x.s < seq) && (!(l.take k).any (fun y => y.s == x.s) && (decide (k = 0) || match l[(k - 1) / 2]? with | none => true | some y => !aheadB x y))))))
def okTo (l : List Bx) (seq : Int) (n : Nat) : Prop := ∀ k (h : k < l.length), k < n → okBx l seq k l[k] = true
def rightBx (l : List Bx) (seq cap : Int) : Bool :=
  decide (1 ≤ cap) && (decide (cap ≤ 8) && (decide ((l.length : Int) ≤ cap) && (decide (0 ≤ seq) && (decide (seq ≤ 1099511627776) && (List.range l.length).all fun k => match l[k]? with | none => true | some x => okBx l seq k x))))
theorem rightBx_all {l : List Bx} {seq : Int} : ((List.range l.length).all fun k => match l[k]? with | none => true | some x => okBx l seq k x) = true ↔ okTo l seq l.length := by
  rw [List.all_eq_true]
  constructor
  · intro h k hk _
    have := h k (List.mem_range.2 hk)
    rw [List.getElem?_eq_getElem hk] at this
    exact this
  · intro h k hk
    have hk := List.mem_range.1 hk
    rw [List.getElem?_eq_getElem hk]
    exact h k hk hk
theorem rightBx_iff {l : List Bx} {seq cap : Int} : rightBx l seq cap = true ↔ 1 ≤ cap ∧ cap ≤ 8 ∧ (l.length : Int) ≤ cap ∧ 0 ≤ seq ∧ seq ≤ 1099511627776 ∧ okTo l seq l.length := by
  unfold rightBx
  simp only [Bool.and_eq_true, decide_eq_true_eq, rightBx_all]
theorem rightBx_false {l : List Bx} {seq cap : Int} (h : ¬ (1 ≤ cap ∧ cap ≤ 8 ∧ (l.length : Int) ≤ cap ∧ 0 ≤ seq ∧ seq ≤ 1099511627776 ∧ okTo l seq l.length)) : rightBx l seq cap = false := by
  rw [← Bool.not_eq_true, rightBx_iff]; exact h
theorem rightBx_bad {l : List Bx} {seq cap : Int} {k : Nat} (hk : k < l.length) (h : okBx l seq k l[k] = false) : rightBx l seq cap = false := by
  apply rightBx_false
  rintro ⟨_, _, _, _, _, h6⟩
  rw [h6 k hk hk] at h
  cases h

theorem okTo_succ {l : List Bx} {seq : Int} {k : Nat} (hlt : k < l.length) (h : okTo l seq k) (hx : okBx l seq k l[k] = true) : okTo l seq (k + 1) := fun j hj hk => by
  by_cases e : j = k
  · subst e; exact hx
  · exact h j hj (by omega)
theorem okBx_mk {l : List Bx} {seq : Int} {k : Nat} {x : Bx} (hR : FP.rightB x.f = true) (i1 : 0 ≤ x.h) (i2 : x.h ≤ 1000000) (i3 : 0 ≤ x.s) (i4 : x.s < seq) (hC : (l.take k).any (fun y => y.s == x.s) = false)
    (h : k = 0 ∨ ∃ (p : Nat) (hp : p < l.length), p = (k - 1) / 2 ∧ aheadB x l[p] = false) : okBx l seq k x = true := by
  unfold okBx
  rw [hR, hC, decide_eq_true i1, decide_eq_true i2, decide_eq_true i3, decide_eq_true i4]
  rcases h with h | ⟨p, hp, rfl, h⟩
  · simp [h]
  · rw [List.getElem?_eq_getElem hp]
    simp [h]
theorem okBx_any {l : List Bx} {seq : Int} {k : Nat} {x : Bx} (h : (l.take k).any (fun y => y.s == x.s) = true) : okBx l seq k x = false := by
  unfold okBx
  rw [h]
  simp
theorem okBx_ahead {l : List Bx} {seq : Int} {k p : Nat} {x : Bx} (hk : k ≠ 0) (hp : p < l.length) (e : p = (k - 1) / 2) (h : aheadB x l[p] = true) : okBx l seq k x = false := by
  unfold okBx
  rw [← e, List.getElem?_eq_getElem hp]
  simp [h, hk]

end Go.Proofs.YtjfgapljfbkfiaaGreatDoor

/- The methods of box's queue. -/
namespace Go.Proofs.YtjfgapljfbkfiaaGreatDoor
open Go.ChangeShapes Go.WideShapes Go.ChangeAt Go.RowKit
open FP (Fr)

section
variable {B : Nat} {w : World} {bq : Nat} {A : Option Addr} {c : Nat} {l : List Bx} {W W' : World}
end

def swapL (l : List Bx) (i k : Nat) : List Bx := match l[i]?, l[k]? with
  | some x, some y => (l.set i y).set k x
  | _, _ => l
theorem swapL_len (l : List Bx) (i k : Nat) : (swapL l i k).length = l.length := by
  unfold swapL
  split <;> simp
theorem swapL_eq {l : List Bx} {i k : Nat} (hi : i < l.length) (hk : k < l.length) : swapL l i k = (l.set i l[k]).set k l[i] := by
  unfold swapL
  rw [List.getElem?_eq_getElem hi, List.getElem?_eq_getElem hk]

/-- What the loads of an exchange ask. -/
def swR (g i k : Nat) (x y : Bx) : Nat → World → Prop
  | 7, W => W.rangeAt g (k * 7) (bxc y)
  | 11, W => W.rangeAt g (i * 7) (bxc x)
  | _, _ => True
theorem swR_other {g i k : Nat} {x y : Bx} {j : Nat} {W : World} (h7 : j ≠ 7) (h11 : j ≠ 11) : swR g i k x y j W := by
  unfold swR
  split <;> simp_all
theorem swKeeps {ops : Array Oper} {g i k : Nat} {x y : Bx} {j : Nat} {w w' : World} (hj : j ∉ [0, 1, 2, 3, 4, 5, 6, 7, 8, 9, 10, 11, 12, 14]) (h7 : mayAhead .any ops 7 j = false) (h11 : mayAhead .any ops 11 j = false) :
    keeps .any ops [0, 1, 2, 3, 4, 5, 6, 7, 8, 9, 10, 11, 12, 14] (swR g i k x y) j w w' := ⟨fun h => absurd h hj, fun _ m _ hm => by
  by_cases a : m = 7
  · subst a; rw [h7] at hm; cases hm
  · by_cases b : m = 11
    · subst b; rw [h11] at hm; cases hm
    · exact swR_other a b⟩

end Go.Proofs.YtjfgapljfbkfiaaGreatDoor

/- The queue's Push and Pop. -/
namespace Go.Proofs.YtjfgapljfbkfiaaGreatDoor
open Go.ChangeShapes Go.WideShapes Go.ChangeAt Go.RowKit
open FP (Fr)

/-- What Push's load asks. -/
def puR (bq : Nat) (v : Value) : Nat → World → Prop
  | 3, W => W.cell? ⟨bq, 0, none⟩ = some v
  | _, _ => True
theorem puR_other {bq : Nat} {v : Value} {j : Nat} {W : World} (h : j ≠ 3) : puR bq v j W := by
  unfold puR
  split <;> simp_all
theorem puKeeps {ops : Array Oper} {bq : Nat} {v : Value} {j : Nat} {w w' : World} (hj : j ∉ [0, 1, 2, 3, 4, 5, 8]) (h3 : mayAhead .any ops 3 j = false ∨ w'.cell? ⟨bq, 0, none⟩ = some v) :
    keeps .any ops [0, 1, 2, 3, 4, 5, 8] (puR bq v) j w w' := ⟨fun h => absurd h hj, fun _ m _ hm => by
  by_cases a : m = 3
  · subst a
    rcases h3 with h3 | h3
    · rw [h3] at hm; cases hm
    · exact h3
  · exact puR_other a⟩
theorem rd_heaps {W : World} {x : Nat} {b : Bx} {t : TypeId} {fz : Nat × Nat} (h : W.heap[x]? = some (.cells #[.int .i64 b.h, .int .u32 b.f.id, .bool b.f.ext, .bool b.f.rem, .int .i64 b.f.dlc, .string b.f.data, .int .i64 b.s] t fz)) : Rd W W.heap.size (some ⟨x, 0, none⟩) 7 [bxc b] := fun _ =>
  ⟨x, 0, rfl, heap_lt h, fun k row j u a c => by
    have hk : k = 0 := by have := (List.getElem?_eq_some_iff.1 a).1; simp at this; omega
    subst hk
    simp only [List.getElem?_cons_zero, Option.some.injEq] at a
    subst a
    have h2 : W.cell? ⟨x, 0 + 0 * 7 + j, none⟩ = (bxc b).toArray[0 + 0 * 7 + j]? := by simp [World.cell?, h, bxc]
    rw [h2]
    simpa using c⟩
end Go.Proofs.YtjfgapljfbkfiaaGreatDoor

/- The plain law of heaps of boxes: what up and down do; the order in which boxes win. -/
namespace Go.Proofs.YtjfgapljfbkfiaaGreatDoor
open FP (Fr)

namespace HP
open PP (bl)
/-- Ahead, of frames that may be. -/
def kB (x y : Bx) : Bool := bl (fieldF x.f) (fieldF y.f) || (!bl (fieldF y.f) (fieldF x.f) && decide (x.s < y.s))
theorem ahead_kB {x y : Bx} (hx : FP.rightB x.f = true) (hy : FP.rightB y.f = true) : aheadB x y = kB x y := by
  unfold aheadB kB
  rw [PP.lessB_bl hx hy, PP.lessB_bl hy hx]

theorem kB_cases (x y : Bx) : (fieldF x.f = fieldF y.f ∧ kB x y = decide (x.s < y.s)) ∨ (fieldF x.f ≠ fieldF y.f ∧ kB x y = bl (fieldF x.f) (fieldF y.f) ∧ bl (fieldF x.f) (fieldF y.f) = !bl (fieldF y.f) (fieldF x.f)) := by
  unfold kB
  by_cases h : fieldF x.f = fieldF y.f
  · left; rw [h, PP.bl_irrefl]; simp
  · right
    have := PP.bl_total (PP.fld_of x.f) (PP.fld_of y.f) h
    refine ⟨h, ?_, this⟩
    rw [this]
    cases bl (fieldF y.f) (fieldF x.f) <;> simp
theorem kB_irrefl (x : Bx) : kB x x = false := by
  unfold kB; rw [PP.bl_irrefl]; simp
theorem kB_asymm {x y : Bx} (h : kB x y = true) : kB y x = false := by
  rcases kB_cases x y with ⟨e, h1⟩ | ⟨e, h1, h2⟩ <;> rcases kB_cases y x with ⟨e', h1'⟩ | ⟨e', h1', h2'⟩
  · rw [h1] at h; rw [h1']; simp at *; omega
  · exact absurd e.symm e'
  · exact absurd e'.symm e
  · rw [h1] at h; rw [h1', h2', h]; rfl
/-- What is not ahead of what is not ahead of a third one, is not ahead of that. -/
theorem kB_ntrans {x y z : Bx} (h : kB x y = false) (h' : kB y z = false) : kB x z = false := by
  rcases kB_cases x y with ⟨e, h1⟩ | ⟨e, h1, h2⟩ <;> rcases kB_cases y z with ⟨e', h1'⟩ | ⟨e', h1', h2'⟩
  · rcases kB_cases x z with ⟨e2, h3⟩ | ⟨e2, _⟩
    · rw [h3]; rw [h1] at h; rw [h1'] at h'; simp at *; omega
    · exact absurd (e.trans e') e2
  · rcases kB_cases x z with ⟨e2, _⟩ | ⟨_, h3, _⟩
    · exact absurd (e.symm.trans e2) e'
    · rw [h3, e, ← h1', h']
  · rcases kB_cases x z with ⟨e2, _⟩ | ⟨_, h3, _⟩
    · exact absurd (e2.trans e'.symm) e
    · rw [h3, ← e', ← h1, h]
  · have hzy : bl (fieldF z.f) (fieldF y.f) = true := by rw [h1', h2'] at h'; simpa using h'
    have hyx : bl (fieldF y.f) (fieldF x.f) = true := by rw [h1, h2] at h; simpa using h
    have hzx := PP.bl_trans _ _ _ hzy hyx
    rcases kB_cases x z with ⟨e2, _⟩ | ⟨_, h3, h4⟩
    · rw [e2, PP.bl_irrefl] at hzx; cases hzx
    · rw [h3, h4, hzx]; rfl
theorem kB_total {x y : Bx} (h : x.s ≠ y.s) : kB x y = true ∨ kB y x = true := by
  rcases kB_cases x y with ⟨e, h1⟩ | ⟨e, h1, h2⟩ <;> rcases kB_cases y x with ⟨e', h1'⟩ | ⟨e', h1', h2'⟩
  · rw [h1, h1']; simp; omega
  · exact absurd e.symm e'
  · exact absurd e'.symm e
  · rw [h1, h1', h2']; cases bl (fieldF x.f) (fieldF y.f) <;> simp

/-- l at k, anything where there is none. -/
def at' (l : List Bx) (k : Nat) : Bx := (l[k]?).getD ⟨0, ⟨0, false, false, 0, ⟨#[]⟩⟩, 0⟩
theorem at_lt {l : List Bx} {k : Nat} (h : k < l.length) : at' l k = l[k] := by unfold at'; rw [List.getElem?_eq_getElem h]; rfl
theorem at_swap {l : List Bx} {i k : Nat} (hi : i < l.length) (hk : k < l.length) (m : Nat) : at' (swapL l i k) m = if m = k then at' l i else if m = i then at' l k else at' l m := by
  rw [swapL_eq hi hk, at_lt hi, at_lt hk]
  unfold at'
  by_cases h : m = k
  · subst h
    rw [if_pos rfl, List.getElem?_set_self (by simpa using hk)]
    rfl
  · rw [if_neg h, List.getElem?_set_ne (Ne.symm h)]
    by_cases h2 : m = i
    · subst h2
      rw [if_pos rfl, List.getElem?_set_self hi]
      rfl
    · rw [if_neg h2, List.getElem?_set_ne (Ne.symm h2)]

theorem perm_set_set (l : List Bx) (i k : Nat) (hi : i < l.length) (hk : k < l.length) : ((l.set i l[k]).set k l[i]).Perm l := by
  letI : DecidableEq Bx := fun _ _ => Classical.propDecidable _
  rw [List.perm_iff_count]
  intro a
  rw [List.count_set (by simpa using hk), List.count_set hi]
  by_cases e : i = k
  · subst e
    simp
    have : 0 < l.count l[i] := List.count_pos_iff.2 (List.getElem_mem hi)
    split
    · rename_i h; have h : l[i] = a := by simpa using h
      subst h; omega
    · omega
  · rw [List.getElem_set_ne e]
    have h1 : 0 < l.count l[i] := List.count_pos_iff.2 (List.getElem_mem hi)
    have h2 : 0 < l.count l[k] := List.count_pos_iff.2 (List.getElem_mem hk)
    by_cases a1 : l[i] = a <;> by_cases a2 : l[k] = a
    · subst a1; simp [a2] <;> omega
    · subst a1; simp [a2] <;> omega
    · subst a2; simp [a1]
    · simp [a1, a2]
theorem swapL_perm (l : List Bx) (i k : Nat) : (swapL l i k).Perm l := by
  by_cases hi : i < l.length
  · by_cases hk : k < l.length
    · rw [swapL_eq hi hk]; exact perm_set_set l i k hi hk
    · unfold swapL; rw [List.getElem?_eq_none (by omega : l.length ≤ k)]; split <;> simp_all
  · unfold swapL; rw [List.getElem?_eq_none (by omega : l.length ≤ i)]

theorem ext_at {l m : List Bx} (hl : l.length = m.length) (h : ∀ k, k < l.length → at' l k = at' m k) : l = m := by
  apply List.ext_getElem hl
  intro k h1 h2
  have := h k h1
  rwa [at_lt h1, at_lt h2] at this

/-- A heap, as far as children of what is not ahead of lo, of the first n. -/
def Hp (l : List Bx) (lo n : Nat) : Prop := ∀ k, 0 < k → k < n → lo ≤ (k - 1) / 2 → kB (at' l k) (at' l ((k - 1) / 2)) = false

/-- A heap but for j, which may be ahead of those above it. -/
structure UpI (l : List Bx) (j : Nat) : Prop where
  lt : j < l.length
  a : ∀ k, 0 < k → k < l.length → k ≠ j → kB (at' l k) (at' l ((k - 1) / 2)) = false
  b : ∀ k, 0 < k → k < l.length → (k - 1) / 2 = j → 0 < j → kB (at' l k) (at' l ((j - 1) / 2)) = false
theorem UpI.stop {l : List Bx} {j : Nat} (h : UpI l j) (hs : j = 0 ∨ kB (at' l j) (at' l ((j - 1) / 2)) = false) : Hp l 0 l.length := fun k h0 hk _ => by
  by_cases e : k = j
  · subst e
    rcases hs with h | h
    · omega
    · exact h
  · exact h.a k h0 hk e
theorem UpI.step {l : List Bx} {j i : Nat} (h : UpI l j) (hi : i = (j - 1) / 2) (h0 : 0 < j) (ha : kB (at' l j) (at' l i) = true) : UpI (swapL l i j) i := by
  have hij : i < j := by omega
  have hil : i < l.length := by have := h.lt; omega
  refine ⟨by rw [swapL_len]; exact hil, fun k hk0 hk hki => ?_, fun k hk0 hk hki hi0 => ?_⟩
  · rw [swapL_len] at hk
    rw [at_swap hil h.lt, at_swap hil h.lt, if_neg hki]
    by_cases e : k = j
    · subst e
      rw [if_pos rfl, if_neg (by omega), if_pos hi.symm]
      exact kB_asymm ha
    · rw [if_neg e]
      by_cases e2 : (k - 1) / 2 = j
      · rw [if_pos e2]
        have := h.b k hk0 hk e2 h0
        rwa [← hi] at this
      · rw [if_neg e2]
        by_cases e3 : (k - 1) / 2 = i
        · rw [if_pos e3]
          have h1 := h.a k hk0 hk e
          rw [e3] at h1
          exact kB_ntrans h1 (kB_asymm ha)
        · rw [if_neg e3]
          exact h.a k hk0 hk e
  · rw [swapL_len] at hk
    rw [at_swap hil h.lt, at_swap hil h.lt, if_neg (by omega : (i - 1) / 2 ≠ j), if_neg (by omega : (i - 1) / 2 ≠ i)]
    by_cases e : k = j
    · subst e
      rw [if_pos rfl]
      exact h.a i hi0 hil (by omega)
    · rw [if_neg e, if_neg (by omega)]
      have h1 := h.a k hk0 hk e
      rw [hki] at h1
      exact kB_ntrans h1 (h.a i hi0 hil (by omega))

/-- A heap from lo on but for i, below which something may be ahead of it; of the first n. -/
structure DnI (l : List Bx) (lo n i : Nat) : Prop where
  le : n ≤ l.length
  low : lo ≤ i
  a : ∀ k, 0 < k → k < n → lo ≤ (k - 1) / 2 → (k - 1) / 2 ≠ i → kB (at' l k) (at' l ((k - 1) / 2)) = false
  b : ∀ k, 0 < k → k < n → (k - 1) / 2 = i → 0 < i → lo ≤ (i - 1) / 2 → kB (at' l k) (at' l ((i - 1) / 2)) = false
theorem DnI.stop {l : List Bx} {lo n i : Nat} (h : DnI l lo n i) (hs : ∀ k, 0 < k → k < n → (k - 1) / 2 = i → kB (at' l k) (at' l i) = false) : Hp l lo n := fun k h0 hk hl => by
  by_cases e : (k - 1) / 2 = i
  · rw [e]; exact hs k h0 hk e
  · exact h.a k h0 hk hl e
theorem DnI.step {l : List Bx} {lo n i j : Nat} (h : DnI l lo n i) (hj : (j - 1) / 2 = i) (h0 : 0 < j) (hjn : j < n) (ha : kB (at' l j) (at' l i) = true)
    (hb : ∀ k, 0 < k → k < n → (k - 1) / 2 = i → kB (at' l k) (at' l j) = false) : DnI (swapL l i j) lo n j := by
  have hij : i < j := by omega
  have hle := h.le
  have hjl : j < l.length := by omega
  have hil : i < l.length := by omega
  have hlo := h.low
  refine ⟨by rw [swapL_len]; exact h.le, by omega, fun k hk0 hk hkl hki => ?_, fun k hk0 hk hki hi0 hjl' => ?_⟩
  · rw [at_swap hil hjl, at_swap hil hjl, if_neg hki]
    by_cases e : (k - 1) / 2 = i
    · rw [if_pos e]
      by_cases e2 : k = j
      · subst e2
        rw [if_pos rfl]
        exact kB_asymm ha
      · rw [if_neg e2, if_neg (by omega)]
        exact hb k hk0 hk e
    · rw [if_neg e]
      by_cases e2 : k = i
      · subst e2
        rw [if_neg (by omega), if_pos rfl]
        exact h.b j h0 hjn hj hk0 hkl
      · rw [if_neg (by intro e3; subst e3; exact e hj), if_neg e2]
        exact h.a k hk0 hk hkl e
  · rw [at_swap hil hjl, at_swap hil hjl, hj, if_neg (by omega : i ≠ j), if_pos rfl, if_neg (by omega), if_neg (by omega)]
    have := h.a k hk0 hk (by omega) (by omega)
    rwa [hki] at this

/-- The first one of a heap: none is ahead of it. -/
theorem Hp.first {l : List Bx} {n : Nat} (h : Hp l 0 n) : ∀ k, k < n → kB (at' l k) (at' l 0) = false := by
  intro k
  induction k using Nat.strongRecOn with
  | _ k ih =>
    intro hk
    by_cases e : k = 0
    · subst e; exact kB_irrefl _
    · exact kB_ntrans (h k (by omega) hk (Nat.zero_le _)) (ih _ (by omega) (by omega))
theorem Hp.mono {l m : List Bx} {lo n n' : Nat} (h : Hp l lo n) (hn : n' ≤ n) (he : ∀ k, k < n' → at' m k = at' l k) : Hp m lo n' := fun k h0 hk hl => by
  rw [he k hk, he _ (by omega)]
  exact h k h0 (by omega) hl
end HP
end Go.Proofs.YtjfgapljfbkfiaaGreatDoor

/- container/heap over box's queue: up, Push. -/
namespace Go.Proofs.YtjfgapljfbkfiaaGreatDoor
open Go.ChangeShapes Go.WideShapes Go.ChangeAt Go.RowKit
open FP (Fr)
open HP (kB at' Hp UpI DnI)

/-- Boxes whose frames may be. -/
def GoodB (l : List Bx) : Prop := ∀ x ∈ l, FP.rightB x.f = true ∧ x.f.id < 4294967296
theorem GoodB.perm {l m : List Bx} (h : GoodB l) (p : m.Perm l) : GoodB m := fun x hx => h x (p.mem_iff.1 hx)
theorem GoodB.id {l : List Bx} (h : GoodB l) : ∀ x ∈ l, x.f.id < 4294967296 := fun x hx => (h x hx).2
theorem GoodB.ahead {l : List Bx} (h : GoodB l) {i k : Nat} (hi : i < l.length) (hk : k < l.length) : aheadB l[i] l[k] = kB (at' l i) (at' l k) := by
  rw [HP.at_lt hi, HP.at_lt hk]
  exact HP.ahead_kB (h _ (List.getElem_mem hi)).1 (h _ (List.getElem_mem hk)).1

end Go.Proofs.YtjfgapljfbkfiaaGreatDoor

/- container/heap over box's queue: down. -/
namespace Go.Proofs.YtjfgapljfbkfiaaGreatDoor
open Go.ChangeShapes Go.WideShapes Go.ChangeAt Go.RowKit
open FP (Fr)
open HP (kB at' Hp UpI DnI)

theorem at_beyond {l : List Bx} {n i j : Nat} (hi : i < n) (hj : j < n) (hn : n ≤ l.length) : ∀ k, n ≤ k → at' (swapL l i j) k = at' l k := fun k hk => by
  rw [HP.at_swap (by omega) (by omega), if_neg (by omega), if_neg (by omega)]

end Go.Proofs.YtjfgapljfbkfiaaGreatDoor

/- container/heap over box's queue: Push, Pop, Init. -/
namespace Go.Proofs.YtjfgapljfbkfiaaGreatDoor
open Go.ChangeShapes Go.WideShapes Go.ChangeAt Go.RowKit
open FP (Fr)
open HP (kB at' Hp UpI DnI)

theorem Own.cut {W : World} {base : Nat} {e : TypeId} {sz : Nat} {A : Option Addr} {c : Nat} {R S : List (List Value)} (h : Own W base e sz A c (R ++ S)) (hs : ∀ r ∈ R, r.length = sz) : Own W base e sz A c R := by
  have hl : R.flatten.length = R.length * sz := by
    clear h
    induction R with
    | nil => simp
    | cons c cs ih => rw [List.flatten_cons, List.length_append, List.length_cons, ih (fun r hr => hs r (by simp [hr])), hs c (by simp), Nat.add_mul]; omega
  obtain ⟨h1, h2⟩ := h
  refine ⟨hl, ?_⟩
  rcases h2 with ⟨hv, h0⟩ | ⟨g, cap, cur, hv, hb, hg, hnc, hcm, hcs, ht⟩
  · rw [List.length_append] at h0
    left
    simp only [Value.slice.injEq] at hv
    obtain ⟨rfl, _, rfl⟩ := hv
    exact ⟨by rw [show R.length = 0 by omega], by omega⟩
  · right
    simp only [Value.slice.injEq] at hv
    obtain ⟨rfl, _, rfl⟩ := hv
    rw [List.length_append] at hnc ht
    refine ⟨g, c, cur, rfl, hb, hg, by omega, hcm, hcs, ?_⟩
    rw [List.flatten_append] at ht
    have h3 := congrArg (List.take (R.length * sz)) ht
    rw [List.take_take, Nat.min_eq_left (Nat.mul_le_mul_right _ (by omega)), List.take_append_of_le_length (by omega)] at h3
    rw [h3]
    exact List.take_of_length_le (by omega)

theorem at_app {l : List Bx} {x : Bx} {k : Nat} (h : k < l.length) : at' (l ++ [x]) k = at' l k := by
  unfold at'
  rw [List.getElem?_append_left h]

theorem pop_dn {l : List Bx} {n : Nat} (hn : l.length = n + 1) (hp : Hp l 0 l.length) : DnI (swapL l 0 n) 0 n 0 := by
  have h0 : 0 < l.length := by omega
  have hnl : n < l.length := by omega
  refine ⟨by rw [swapL_len]; omega, Nat.le_refl _, fun k hk0 hk _ hki => ?_, fun k _ _ _ h _ => absurd h (by omega)⟩
  rw [HP.at_swap h0 hnl, HP.at_swap h0 hnl, if_neg (by omega), if_neg (by omega), if_neg (by omega), if_neg hki]
  exact hp k hk0 (by omega) (Nat.zero_le _)

end Go.Proofs.YtjfgapljfbkfiaaGreatDoor

/- slices.Clone, DeleteFunc of boxes. -/
namespace Go.Proofs.YtjfgapljfbkfiaaGreatDoor
open Go.ChangeShapes Go.WideShapes Go.ChangeAt Go.RowKit
open FP (Fr)
/-- What the rounds of DeleteFunc keep: the first i stay, of the first j; the rest is as it was. -/
structure DelBx (p : Bx → Bool) (l : List Bx) (i j : Nat) (m : List Bx) : Prop where
  len : m.length = l.length
  jl : j ≤ l.length
  ij : i ≤ j
  kept : m.take i = (l.take j).filter fun x => !p x
  rest : m.drop j = l.drop j
theorem DelBx.at_ {p : Bx → Bool} {l m : List Bx} {i j : Nat} (h : DelBx p l i j m) (hj : j < l.length) : m[j]'(by rw [h.len]; exact hj) = l[j] := by
  have h1 : m[j]? = l[j]? := by
    have := congrArg (fun x => x[0]?) h.rest
    simpa [List.getElem?_drop] using this
  rw [List.getElem?_eq_getElem hj, List.getElem?_eq_getElem (by rw [h.len]; exact hj)] at h1
  exact Option.some.inj h1
theorem DelBx.skip {p : Bx → Bool} {l m : List Bx} {i j : Nat} (h : DelBx p l i j m) (hj : j < l.length) (hp : p l[j] = true) : DelBx p l i (j + 1) m :=
  ⟨h.len, hj, by have := h.ij; omega, by rw [List.take_succ_eq_append_getElem hj, List.filter_append, h.kept]; simp [hp], by
    have := congrArg (List.drop 1) h.rest
    simpa [List.drop_drop, Nat.add_comm] using this⟩
theorem DelBx.keep {p : Bx → Bool} {l m : List Bx} {i j : Nat} (h : DelBx p l i j m) (hj : j < l.length) (hp : p l[j] = false) : DelBx p l (i + 1) (j + 1) (m.set i l[j]) := by
  have hi := h.ij
  have hil : i < m.length := by rw [h.len]; omega
  refine ⟨by simp [h.len], hj, by omega, ?_, ?_⟩
  · rw [List.take_succ_eq_append_getElem hj, List.filter_append, ← h.kept, List.take_succ_eq_append_getElem (by simpa using hil)]
    simp [hp, List.take_set_of_le]
  · have := congrArg (List.drop 1) h.rest
    rw [List.drop_set_of_lt (by omega)]
    simpa [List.drop_drop, Nat.add_comm] using this
theorem delBx_start {p : Bx → Bool} {l : List Bx} (h : 0 ≤ idxBx p l) : ∃ i : Nat, idxBx p l = i ∧ i < l.length ∧ DelBx p l i (i + 1) l := by
  have ha := (idxBx_nonneg p l).1 h
  unfold idxBx at h ⊢
  have hn : ¬ (l.all (fun f => !p f)) = true := by
    intro hc
    rw [if_pos hc] at h
    omega
  rw [if_neg hn]
  have hlt : l.findIdx p < l.length := List.findIdx_lt_length_of_exists (List.any_eq_true.1 ha)
  refine ⟨_, rfl, hlt, rfl, hlt, by omega, ?_, rfl⟩
  rw [List.take_succ_eq_append_getElem hlt, List.filter_append]
  have h1 : (l.take (l.findIdx p)).filter (fun x => !p x) = l.take (l.findIdx p) := by
    rw [List.filter_eq_self]
    intro x hx
    rw [List.mem_take_iff_getElem] at hx
    obtain ⟨k, hk, rfl⟩ := hx
    have := List.not_of_lt_findIdx (p := p) (xs := l) (i := k) (by omega)
    simpa using this
  have h2 : p (l[l.findIdx p]) = true := List.findIdx_getElem
  rw [h1]
  simp [h2]
theorem delBx_none {p : Bx → Bool} {l : List Bx} (h : idxBx p l < 0) : idxBx p l = -1 ∧ (l.filter fun x => !p x) = l := by
  have hn : ¬ l.any p = true := fun hc => by have := (idxBx_nonneg p l).2 hc; omega
  have ha : l.all (fun f => !p f) = true := by
    rw [List.all_eq_true]
    intro x hx
    cases hpx : p x
    · rfl
    · exact absurd (List.any_eq_true.2 ⟨x, hx, hpx⟩) hn
  refine ⟨by unfold idxBx; rw [if_pos ha], ?_⟩
  rw [List.filter_eq_self]
  exact List.all_eq_true.1 ha

end Go.Proofs.YtjfgapljfbkfiaaGreatDoor

/- box.New, Put. -/
namespace Go.Proofs.YtjfgapljfbkfiaaGreatDoor
open Go.ChangeShapes Go.WideShapes Go.ChangeAt Go.RowKit
open FP (Fr)
open HP (kB at' Hp UpI DnI)

theorem right_good {l : List Bx} {seq cap : Int} (h : rightBx l seq cap = true) (hid : ∀ x ∈ l, x.f.id < 4294967296) : GoodB l := fun x hx => by
  obtain ⟨k, hk, rfl⟩ := List.mem_iff_getElem.1 hx
  have := (rightBx_iff.1 h).2.2.2.2.2 k hk hk
  unfold okBx at this
  simp only [Bool.and_eq_true] at this
  exact ⟨this.1, hid _ hx⟩
theorem right_heap {l : List Bx} {seq cap : Int} (h : rightBx l seq cap = true) (hid : ∀ x ∈ l, x.f.id < 4294967296) : Hp l 0 l.length := fun k h0 hk _ => by
  have g := right_good h hid
  have hp : (k - 1) / 2 < l.length := by omega
  have := (rightBx_iff.1 h).2.2.2.2.2 k hk hk
  unfold okBx at this
  rw [List.getElem?_eq_getElem hp] at this
  simp only [Bool.and_eq_true, Bool.or_eq_true, decide_eq_true_eq, Bool.not_eq_true'] at this
  rcases this.2.2.2.2.2.2 with h | h
  · omega
  · rw [g.ahead hk hp] at h
    exact h

end Go.Proofs.YtjfgapljfbkfiaaGreatDoor
