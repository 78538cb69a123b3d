/- Package box: rows of boxes; ahead; slices.IndexFunc, ContainsFunc of boxes. -/
import Derived.Test.YtkfedgjepiljiaaDoorMgFrR
import Derived.Deep.MidRow
namespace Go.Proofs.YtkfedgjepiljiaaDoor
open Go.ChangeShapes Go.WideShapes Go.ChangeAt Go.RowKit
open FP (Fr)

structure Bx where
  h : Int
  f : Fr
  s : Int

def aheadB (a b : Bx) : Bool := lessB a.f b.f || (!lessB b.f a.f && decide (a.s < b.s))

/-! ### rows of api.Box -/
def bxc (x : Bx) : List Value := [.int .i64 x.h, .int .u32 x.f.id, .bool x.f.ext, .bool x.f.rem, .int .i64 x.f.dlc, .string x.f.data, .int .i64 x.s]
theorem bxc_len (x : Bx) : (bxc x).length = 7 := rfl
theorem bxc_rows (l : List Bx) : ∀ r ∈ l.map bxc, r.length = 7 := by intro r hr; obtain ⟨x, _, rfl⟩ := List.mem_map.1 hr; rfl
theorem bxc_ones (l : List Bx) : ∀ r ∈ l.map bxc, ∀ u ∈ r, u.oneCell' = true := by
  intro r hr u hu
  obtain ⟨x, _, rfl⟩ := List.mem_map.1 hr
  revert u
  simp [bxc, Value.oneCell']
def BxR (w : World) (B : Nat) (A : Option Addr) (l : List Bx) : Prop := Rd w B A 7 (l.map bxc)
theorem BxR.at_ {w : World} {B : Nat} {A : Option Addr} {l : List Bx} (h : BxR w B A l) {k : Nat} (hk : k < l.length) :
    ∃ b off, A = some ⟨b, off, none⟩ ∧ b < B ∧ w.cell? ⟨b, off + k * 7, none⟩ = some (.int .i64 l[k].h) ∧ w.cell? ⟨b, off + k * 7 + 1, none⟩ = some (.int .u32 l[k].f.id) ∧ w.cell? ⟨b, off + k * 7 + 2, none⟩ = some (.bool l[k].f.ext) ∧ w.cell? ⟨b, off + k * 7 + 3, none⟩ = some (.bool l[k].f.rem) ∧ w.cell? ⟨b, off + k * 7 + 4, none⟩ = some (.int .i64 l[k].f.dlc) ∧ w.cell? ⟨b, off + k * 7 + 5, none⟩ = some (.string l[k].f.data) ∧ w.cell? ⟨b, off + k * 7 + 6, none⟩ = some (.int .i64 l[k].s) := by
  obtain ⟨b, off, e, hb, hc⟩ := h (by rw [List.length_map]; omega)
  have hx : (l.map bxc)[k]? = some (bxc l[k]) := by simp [hk]
  exact ⟨b, off, e, hb, hc k _ 0 _ hx rfl, hc k _ 1 _ hx rfl, hc k _ 2 _ hx rfl, hc k _ 3 _ hx rfl, hc k _ 4 _ hx rfl, hc k _ 5 _ hx rfl, hc k _ 6 _ hx rfl⟩
theorem BxR.below {w w' : World} {B : Nat} {A : Option Addr} {l : List Bx} (h : BxR w B A l) (hb : Below B w w') : BxR w' B A l := Rd.below h hb
theorem BxR.next {w w' : World} {B : Nat} {A : Option Addr} {l : List Bx} (h : BxR w B A l) (hb : Below B w w') (hB : B ≤ w'.heap.size) : BxR w' w'.heap.size A l := Rd.next h hb hB
theorem BxR.take {w : World} {B : Nat} {A : Option Addr} {l : List Bx} (h : BxR w B A l) (n : Nat) : BxR w B A (l.take n) := by
  have := Rd.take h n
  rwa [← List.map_take] at this
theorem BxR.at2 {w : World} {B b off : Nat} {l : List Bx} (h : BxR w B (some ⟨b, off, none⟩) l) {k : Nat} (hk : k < l.length) : b < B ∧ w.cell? ⟨b, off + k * 7, none⟩ = some (.int .i64 l[k].h) ∧ w.cell? ⟨b, off + k * 7 + 1, none⟩ = some (.int .u32 l[k].f.id) ∧ w.cell? ⟨b, off + k * 7 + 2, none⟩ = some (.bool l[k].f.ext) ∧ w.cell? ⟨b, off + k * 7 + 3, none⟩ = some (.bool l[k].f.rem) ∧ w.cell? ⟨b, off + k * 7 + 4, none⟩ = some (.int .i64 l[k].f.dlc) ∧ w.cell? ⟨b, off + k * 7 + 5, none⟩ = some (.string l[k].f.data) ∧ w.cell? ⟨b, off + k * 7 + 6, none⟩ = some (.int .i64 l[k].s) := by
  obtain ⟨b, off, e, hb, h⟩ := h.at_ hk
  cases e
  exact ⟨hb, h⟩
theorem BxR.all {w : World} {B b off : Nat} {l : List Bx} (h : BxR w B (some ⟨b, off, none⟩) l) (hB : B ≤ w.heap.size) {k : Nat} (hk : k < l.length) (s : InW w) : s.W.cell? ⟨b, off + k * 7, none⟩ = some (.int .i64 l[k].h) ∧ s.W.cell? ⟨b, off + k * 7 + 1, none⟩ = some (.int .u32 l[k].f.id) ∧ s.W.cell? ⟨b, off + k * 7 + 2, none⟩ = some (.bool l[k].f.ext) ∧ s.W.cell? ⟨b, off + k * 7 + 3, none⟩ = some (.bool l[k].f.rem) ∧ s.W.cell? ⟨b, off + k * 7 + 4, none⟩ = some (.int .i64 l[k].f.dlc) ∧ s.W.cell? ⟨b, off + k * 7 + 5, none⟩ = some (.string l[k].f.data) ∧ s.W.cell? ⟨b, off + k * 7 + 6, none⟩ = some (.int .i64 l[k].s) := by
  obtain ⟨hb, c0, c1, c2, c3, c4, c5, c6⟩ := h.at2 hk
  have hb : b < w.heap.size := by omega
  exact ⟨s.cell hb c0, s.cell hb c1, s.cell hb c2, s.cell hb c3, s.cell hb c4, s.cell hb c5, s.cell hb c6⟩
/-- A box of one, just laid: what it holds later. -/
theorem Bx_box {W w1 : World} {B : Nat} {t : TypeId} {x : Bx} (hB : B = W.heap.size) (h : Below (B + 1) (W.alloc (.cells #[.int .i64 x.h, .int .u32 x.f.id, .bool x.f.ext, .bool x.f.rem, .int .i64 x.f.dlc, .string x.f.data, .int .i64 x.s] t)) w1) : w1.cell? ⟨B, 0, none⟩ = some (.int .i64 x.h) ∧ w1.cell? ⟨B, 1, none⟩ = some (.int .u32 x.f.id) ∧ w1.cell? ⟨B, 2, none⟩ = some (.bool x.f.ext) ∧ w1.cell? ⟨B, 3, none⟩ = some (.bool x.f.rem) ∧ w1.cell? ⟨B, 4, none⟩ = some (.int .i64 x.f.dlc) ∧ w1.cell? ⟨B, 5, none⟩ = some (.string x.f.data) ∧ w1.cell? ⟨B, 6, none⟩ = some (.int .i64 x.s) := ⟨cellBelow h (by omega) (by subst hB; simp [go_sem]), cellBelow h (by omega) (by subst hB; simp [go_sem]), cellBelow h (by omega) (by subst hB; simp [go_sem]), cellBelow h (by omega) (by subst hB; simp [go_sem]), cellBelow h (by omega) (by subst hB; simp [go_sem]), cellBelow h (by omega) (by subst hB; simp [go_sem]), cellBelow h (by omega) (by subst hB; simp [go_sem])⟩
theorem Bx_boxs {w1 : World} {B : Nat} {x : Bx} (hb : B < w1.heap.size) (h : w1.cell? ⟨B, 0, none⟩ = some (.int .i64 x.h) ∧ w1.cell? ⟨B, 1, none⟩ = some (.int .u32 x.f.id) ∧ w1.cell? ⟨B, 2, none⟩ = some (.bool x.f.ext) ∧ w1.cell? ⟨B, 3, none⟩ = some (.bool x.f.rem) ∧ w1.cell? ⟨B, 4, none⟩ = some (.int .i64 x.f.dlc) ∧ w1.cell? ⟨B, 5, none⟩ = some (.string x.f.data) ∧ w1.cell? ⟨B, 6, none⟩ = some (.int .i64 x.s)) (s : InW w1) : s.W.cell? ⟨B, 0, none⟩ = some (.int .i64 x.h) ∧ s.W.cell? ⟨B, 1, none⟩ = some (.int .u32 x.f.id) ∧ s.W.cell? ⟨B, 2, none⟩ = some (.bool x.f.ext) ∧ s.W.cell? ⟨B, 3, none⟩ = some (.bool x.f.rem) ∧ s.W.cell? ⟨B, 4, none⟩ = some (.int .i64 x.f.dlc) ∧ s.W.cell? ⟨B, 5, none⟩ = some (.string x.f.data) ∧ s.W.cell? ⟨B, 6, none⟩ = some (.int .i64 x.s) := by
  obtain ⟨c0, c1, c2, c3, c4, c5, c6⟩ := h
  exact ⟨s.cell hb c0, s.cell hb c1, s.cell hb c2, s.cell hb c3, s.cell hb c4, s.cell hb c5, s.cell hb c6⟩
theorem Bx_boxn {w1 w2 : World} {B : Nat} {x : Bx} (hb : B < w1.heap.size) (h : w1.cell? ⟨B, 0, none⟩ = some (.int .i64 x.h) ∧ w1.cell? ⟨B, 1, none⟩ = some (.int .u32 x.f.id) ∧ w1.cell? ⟨B, 2, none⟩ = some (.bool x.f.ext) ∧ w1.cell? ⟨B, 3, none⟩ = some (.bool x.f.rem) ∧ w1.cell? ⟨B, 4, none⟩ = some (.int .i64 x.f.dlc) ∧ w1.cell? ⟨B, 5, none⟩ = some (.string x.f.data) ∧ w1.cell? ⟨B, 6, none⟩ = some (.int .i64 x.s)) (q : Below w1.heap.size w1 w2) : w2.cell? ⟨B, 0, none⟩ = some (.int .i64 x.h) ∧ w2.cell? ⟨B, 1, none⟩ = some (.int .u32 x.f.id) ∧ w2.cell? ⟨B, 2, none⟩ = some (.bool x.f.ext) ∧ w2.cell? ⟨B, 3, none⟩ = some (.bool x.f.rem) ∧ w2.cell? ⟨B, 4, none⟩ = some (.int .i64 x.f.dlc) ∧ w2.cell? ⟨B, 5, none⟩ = some (.string x.f.data) ∧ w2.cell? ⟨B, 6, none⟩ = some (.int .i64 x.s) := by
  obtain ⟨c0, c1, c2, c3, c4, c5, c6⟩ := h
  exact ⟨cellBelow q hb c0, cellBelow q hb c1, cellBelow q hb c2, cellBelow q hb c3, cellBelow q hb c4, cellBelow q hb c5, cellBelow q hb c6⟩
theorem Bx_cells {W : World} {g o : Nat} {x : Bx} (h : World.rangeAt W g o (bxc x)) : W.cell? ⟨g, o, none⟩ = some (.int .i64 x.h) ∧ W.cell? ⟨g, o + 1, none⟩ = some (.int .u32 x.f.id) ∧ W.cell? ⟨g, o + 2, none⟩ = some (.bool x.f.ext) ∧ W.cell? ⟨g, o + 3, none⟩ = some (.bool x.f.rem) ∧ W.cell? ⟨g, o + 4, none⟩ = some (.int .i64 x.f.dlc) ∧ W.cell? ⟨g, o + 5, none⟩ = some (.string x.f.data) ∧ W.cell? ⟨g, o + 6, none⟩ = some (.int .i64 x.s) := ⟨h 0 _ rfl, h 1 _ rfl, h 2 _ rfl, h 3 _ rfl, h 4 _ rfl, h 5 _ rfl, h 6 _ rfl⟩
theorem bxc_one (x : Bx) : ∀ v ∈ bxc x, v.oneCell' = true := bxc_ones [x] _ (by simp)

/-- The first place; -1: none. -/
def idxBx (p : Bx → Bool) (l : List Bx) : Int := if l.all (fun f => !p f) then -1 else ((l.findIdx p : Nat) : Int)

set_option maxRecDepth 100000 in
set_option maxHeartbeats 2000000 in
theorem indexBx_any (fid : Nat) (cap : Array Value) (p : Bx → Bool) (hp : ∀ (args : Array Value) (w : World), (callFunc fid args).run Tryd.prog w = .ok (.enter fid args) w) (l : List Bx) (A : Option Addr) (c : Nat) (w : World) (hr : BxR w w.heap.size A l) (hl : l.length ≤ 1000)
    (hc : Hid (∀ f ∈ l, ∀ w', Below w.heap.size w w' → Calls Tryd.prog fid (#[.agg #[.int .i64 f.h, .int .u32 f.f.id, .bool f.f.ext, .bool f.f.rem, .int .i64 f.f.dlc, .string f.f.data, .int .i64 f.s]] ++ cap) w' fun e w'' => e = .returned (.bool (p f)) ∧ Below w'.heap.size w' w'')) :
    Calls Tryd.prog 63 #[.slice A l.length c, .func (.func fid) #[] cap] w fun e w' => e = .returned (.int .i64 (idxBx p l)) ∧ Below w.heap.size w w' := by
  go_enter Tryd.func63, Tryd.ntmps63
  go_wp2
  go_loopw [8] (fun i W => ∃ k : Nat, k ≤ l.length ∧ i = .int .i64 k ∧ Hid (∀ f ∈ l.take k, p f = false) ∧ Below w.heap.size w W) (fun i _ => l.length - (intOf i).toNat)
  case atStart => exact ⟨0, Nat.zero_le _, rfl, hide (by simp), Below.refl _ _⟩
  case round =>
    obtain ⟨k, hk, rfl, hinv, q⟩ := hrel
    by_cases hlt : k < l.length
    · obtain ⟨b, off, rfl, hbs, c0, c1, c2, c3, c4, c5, c6⟩ := (hr.below q).at_ hlt
      have C := hide (hc.out l[k] (List.getElem_mem hlt) wr q)
      rcases hpk : p l[k] with _ | _
      · have hT := hide (show ∀ f ∈ l.take (k + 1), p f = false by
          intro f hf
          rw [List.take_succ_eq_append_getElem hlt, List.mem_append] at hf
          rcases hf with hf | hf
          · exact hinv.out f hf
          · rw [List.mem_singleton.1 hf]; exact hpk)
        rw [hpk] at C
        clear hpk
        go_wp2_with fail
        (with_reducible refine C.out.mono ?_)
        rintro e1 w1 ⟨rfl, q1⟩
        go_wp2
        go_roundw
        case rel => exact ⟨k + 1, by omega, by go_num, hT, below_next q q.size q1⟩
        case measure => simp [intOf]; omega
      · have hE := hide (show idxBx p l = (k : Int) by
          unfold idxBx
          rw [if_neg (by
            rw [List.all_eq_true]
            intro h
            have := h l[k] (List.getElem_mem hlt)
            simp [hpk] at this)]
          congr 1
          rw [List.findIdx_eq hlt]
          exact ⟨hpk, fun j hj => by
            have := hinv.out l[j] (by rw [List.mem_take_iff_getElem]; exact ⟨j, by omega, rfl⟩)
            simp [this]⟩)
        rw [hpk] at C
        clear hpk
        go_wp2_with fail
        (with_reducible refine C.out.mono ?_)
        rintro e1 w1 ⟨rfl, q1⟩
        go_wp2
        go_ret
        exact ⟨by rw [hE.out]; rfl, below_next q q.size q1⟩
    · have hE := hide (show idxBx p l = -1 by
        unfold idxBx
        rw [if_pos]
        rw [List.all_eq_true]
        intro f hf
        have h2 := hinv.out f (by rw [List.take_of_length_le (by omega)]; exact hf)
        simp [h2])
      go_wp2
      go_ret
      exact ⟨by rw [hE.out]; rfl, q⟩
theorem idxBx_nonneg (p : Bx → Bool) (l : List Bx) : 0 ≤ idxBx p l ↔ l.any p = true := by
  unfold idxBx
  by_cases h : l.all (fun f => !p f) = true
  · rw [if_pos h]
    have : l.any p = false := by
      rw [List.any_eq_false]
      intro x hx
      have := List.all_eq_true.1 h x hx
      simpa using this
    simp [this]
  · rw [if_neg h]
    have h' : l.all (fun f => !p f) = false := by simpa using h
    obtain ⟨x, hx, hp⟩ := List.all_eq_false.1 h'
    have : l.any p = true := List.any_eq_true.2 ⟨x, hx, by simpa using hp⟩
    simp [this]

set_option maxRecDepth 100000 in
theorem containsBx_any (fid : Nat) (cap : Array Value) (p : Bx → Bool) (hp : ∀ (args : Array Value) (w : World), (callFunc fid args).run Tryd.prog w = .ok (.enter fid args) w) (l : List Bx) (A : Option Addr) (c : Nat) (w : World) (hr : BxR w w.heap.size A l) (hl : l.length ≤ 1000)
    (hc : Hid (∀ f ∈ l, ∀ w', Below w.heap.size w w' → Calls Tryd.prog fid (#[.agg #[.int .i64 f.h, .int .u32 f.f.id, .bool f.f.ext, .bool f.f.rem, .int .i64 f.f.dlc, .string f.f.data, .int .i64 f.s]] ++ cap) w' fun e w'' => e = .returned (.bool (p f)) ∧ Below w'.heap.size w' w'')) :
    Calls Tryd.prog 50 #[.slice A l.length c, .func (.func fid) #[] cap] w fun e w' => e = .returned (.bool (l.any p)) ∧ Below w.heap.size w w' := by
  have I := hide (indexBx_any fid cap p hp l A c w hr hl hc)
  have H := idxBx_nonneg p l
  generalize idxBx p l = X at *
  rcases hb : l.any p with _ | _
  · have hx : X < 0 := by
      rcases Int.lt_or_le X 0 with h | h
      · exact h
      · rw [H.1 h] at hb; cases hb
    clear H hb hr hp hc
    go_enter Tryd.func50, Tryd.ntmps50
    go_wp2_with fail
    (with_reducible refine I.out.mono ?_)
    rintro e1 w1 ⟨rfl, q1⟩
    go_wp2
    go_ret
    refine ⟨?_, q1⟩
    refine ret_bool ?_
    (simp <;> omega)
  · have hx : 0 ≤ X := H.2 hb
    clear H hb hr hp hc
    go_enter Tryd.func50, Tryd.ntmps50
    go_wp2_with fail
    (with_reducible refine I.out.mono ?_)
    rintro e1 w1 ⟨rfl, q1⟩
    go_wp2
    go_ret
    refine ⟨?_, q1⟩
    refine ret_bool ?_
    (simp <;> omega)


theorem slBox : SlT Tryd.prog 27 60 7 48 := SlT.mk Tryd.underlying27 (z := .agg #[.int .i64 0, .int .u32 0, .bool false, .bool false, .int .i64 0, .string ⟨#[]⟩, .int .i64 0]) (by kernel_rfl) rfl (by decide)

set_option maxRecDepth 100000 in
set_option maxHeartbeats 2000000 in
theorem ahead_any (x y : Bx) (w : World) (hx : x.f.id < 4294967296) (hy : y.f.id < 4294967296) :
    Calls Tryd.prog 51 #[.agg #[.int .i64 x.h, .int .u32 x.f.id, .bool x.f.ext, .bool x.f.rem, .int .i64 x.f.dlc, .string x.f.data, .int .i64 x.s], .agg #[.int .i64 y.h, .int .u32 y.f.id, .bool y.f.ext, .bool y.f.rem, .int .i64 y.f.dlc, .string y.f.data, .int .i64 y.s]] w fun e w' => e = .returned (.bool (aheadB x y)) ∧ Below w.heap.size w w' := by
  have L1 := hide (fun W => Less_any x.f y.f W hx hy)
  have L2 := hide (fun W => Less_any y.f x.f W hy hx)
  have q0 : Below w.heap.size w ((w.alloc (.cells #[.int .i64 x.h, .int .u32 x.f.id, .bool x.f.ext, .bool x.f.rem, .int .i64 x.f.dlc, .string x.f.data, .int .i64 x.s] 60)).alloc (.cells #[.int .i64 y.h, .int .u32 y.f.id, .bool y.f.ext, .bool y.f.rem, .int .i64 y.f.dlc, .string y.f.data, .int .i64 y.s] 60)) := ((Below.refl _ _).alloc (Nat.le_refl _) _).alloc (by simp) _
  have hA : aheadB x y = (lessB x.f y.f || (!lessB y.f x.f && decide (x.s < y.s))) := rfl
  rw [hA]
  obtain ⟨h, ⟨id, ext, rem, dlc, data⟩, s⟩ := x
  obtain ⟨h', ⟨id', ext', rem', dlc', data'⟩, s'⟩ := y
  dsimp only at *
  generalize lessB ⟨id, ext, rem, dlc, data⟩ ⟨id', ext', rem', dlc', data'⟩ = B1 at *
  generalize lessB ⟨id', ext', rem', dlc', data'⟩ ⟨id, ext, rem, dlc, data⟩ = B2 at *
  clear hA hx hy
  cases B1
  · cases B2
    · go_enter Tryd.func51, Tryd.ntmps51
      go_wp2_with fail
      (with_reducible refine (L1.out _).mono ?_)
      rintro e1 w1 ⟨rfl, q1⟩
      have q1' := below_next q0 q0.size q1
      obtain ⟨hc, hz1⟩ := bcell q1
      have z0 : w.heap.size < w1.heap.size := by simp at hz1; omega
      have z1 : w.heap.size + 1 < w1.heap.size := by simp at hz1; omega
      go_wp2_with fail
      (with_reducible refine (L2.out _).mono ?_)
      rintro e2 w2 ⟨rfl, q2⟩
      have q2' := below_next q1' q1'.size q2
      obtain ⟨hc2, hz2⟩ := bcell q2
      go_wp2
      all_goals
        go_ret
        exact ⟨rfl, q2'⟩
    · go_enter Tryd.func51, Tryd.ntmps51
      go_wp2_with fail
      (with_reducible refine (L1.out _).mono ?_)
      rintro e1 w1 ⟨rfl, q1⟩
      have q1' := below_next q0 q0.size q1
      obtain ⟨hc, hz1⟩ := bcell q1
      go_wp2_with fail
      (with_reducible refine (L2.out _).mono ?_)
      rintro e2 w2 ⟨rfl, q2⟩
      have q2' := below_next q1' q1'.size q2
      go_wp2
      go_ret
      exact ⟨rfl, q2'⟩
  · go_enter Tryd.func51, Tryd.ntmps51
    go_wp2_with fail
    (with_reducible refine (L1.out _).mono ?_)
    rintro e1 w1 ⟨rfl, q1⟩
    have q1' := below_next q0 q0.size q1
    go_wp2
    go_ret
    exact ⟨rfl, q1'⟩
end Go.Proofs.YtkfedgjepiljiaaDoor
