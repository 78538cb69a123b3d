/- What each call of package box makes of any boxes, said in one way for each. -/
import Derived.Test.YtkfedgjepiljiaaDoorMgBcD
import Derived.Test.YtkfedgjepiljiaaDoorOrdL
namespace Go.Proofs.YtkfedgjepiljiaaDoor
open Go.ChangeShapes Go.WideShapes Go.ChangeAt Go.RowKit
open FP (Fr)
open HP (kB at' Hp)

/-- Boxes in a block. -/
structure Bo (W : World) (B : Nat) (A : Option Addr) (c n : Nat) (seq cap : Int) (l : List Bx) : Prop where
  box : W.heap[B]? = some (.cells #[.slice A n c, .int .i64 seq, .int .i64 cap] 29 (0, 0))
  len : l.length = n
  le : n ≤ c
  rd : BxR W W.heap.size A l
section
variable {W W' : World} {B : Nat} {A : Option Addr} {c n : Nat} {seq cap : Int} {l : List Bx}
theorem Bo.below (h : Bo W B A c n seq cap l) (hb : Below W.heap.size W W') : Bo W' B A c n seq cap l := ⟨heap_below h.box hb, h.len, h.le, BxR.next h.rd hb hb.size⟩
theorem Bo.new (hl : l.length = n) (hc : n ≤ c) (hr : BxR W W.heap.size A l) : Bo (W.alloc (.cells #[.slice A n c, .int .i64 seq, .int .i64 cap] 29)) W.heap.size A c n seq cap l :=
  have q : Below W.heap.size W (W.alloc (.cells #[.slice A n c, .int .i64 seq, .int .i64 cap] 29)) := (Below.refl _ _).alloc (Nat.le_refl _) _
  ⟨World.alloc_heap_new W _, hl, hc, BxR.next hr q q.size⟩
theorem Bo.lt (h : Bo W B A c n seq cap l) : B < W.heap.size := heap_lt h.box
theorem Bo.cells (h : Bo W B A c n seq cap l) : W.cell? ⟨B, 0, none⟩ = some (.slice A n c) ∧ W.cell? ⟨B, 1, none⟩ = some (.int .i64 seq) ∧ W.cell? ⟨B, 2, none⟩ = some (.int .i64 cap) := three_cells h.box
end

def badPut (l : List Bx) (seq cap handle : Int) (f : Fr) : Prop := rightBx l seq cap = false ∨ handle < 0 ∨ 1000000 < handle ∨ FP.rightB f = false ∨ 1099511627776 ≤ seq
def PutBx (l : List Bx) (seq cap handle : Int) (f : Fr) (lp : List Bx) (sp cp r : Int) : Prop :=
  (badPut l seq cap handle f ∧ lp = [] ∧ r = 1) ∨ (¬ badPut l seq cap handle f ∧ cap ≤ (l.length : Int) ∧ lp = [] ∧ r = 20) ∨ (¬ badPut l seq cap handle f ∧ (l.length : Int) < cap ∧ r = 0 ∧ lp.Perm (l ++ [⟨handle, f, seq⟩]) ∧ rightBx lp (seq + 1) cap = true ∧ sp = seq + 1 ∧ cp = cap)
def TakeP (l : List Bx) (seq cap : Int) (lt : List Bx) (st ct : Int) (y : Bx) (r : Int) : Prop :=
  (rightBx l seq cap = false ∧ lt = [] ∧ y = zBx ∧ r = 1) ∨ (rightBx l seq cap = true ∧ l.length = 0 ∧ lt = [] ∧ y = zBx ∧ r = 21) ∨ (rightBx l seq cap = true ∧ 0 < l.length ∧ r = 0 ∧ y = at' l 0 ∧ (lt ++ [at' l 0]).Perm l ∧ rightBx lt seq cap = true ∧ st = seq ∧ ct = cap)
def DropP (l : List Bx) (seq cap handle : Int) (ld : List Bx) (sd cd k r : Int) : Prop :=
  (rightBx l seq cap = false ∧ ld = [] ∧ k = 0 ∧ r = 1) ∨ (rightBx l seq cap = true ∧ r = 0 ∧ k = (l.length : Int) - ld.length ∧ ld.Perm (stay handle l) ∧ rightBx ld seq cap = true ∧ sd = seq ∧ cd = cap)

theorem right_put {l lp : List Bx} {seq cap handle : Int} {f : Fr} (hR : rightBx l seq cap = true) (h0 : 0 ≤ handle) (h1 : handle ≤ 1000000) (hf : FP.rightB f = true) (hs : seq < 1099511627776) (hc : (l.length : Int) < cap) (hp : lp.Perm (l ++ [⟨handle, f, seq⟩])) (hh : Hp lp 0 lp.length) : rightBx lp (seq + 1) cap = true := by
  obtain ⟨a1, a2, a3, a4, a5, a6, a7, a8⟩ := right_iff.1 hR
  refine right_iff.2 ⟨a1, a2, ?_, by omega, by omega, fun x hx => ?_, ne_perm hp ?_, hh⟩
  · have := hp.length_eq; rw [List.length_append] at this; simp only [List.length_cons, List.length_nil] at this; omega
  · rcases List.mem_append.1 (hp.mem_iff.1 hx) with hx | hx
    · obtain ⟨b1, b2, b3, b4, b5⟩ := a6 x hx
      exact ⟨b1, b2, b3, b4, by omega⟩
    · rw [List.mem_singleton.1 hx]
      exact ⟨hf, h0, h1, a4, by show seq < seq + 1; omega⟩
  · rw [List.pairwise_append]
    refine ⟨a7, List.pairwise_singleton _ _, fun a ha b hb => ?_⟩
    rw [List.mem_singleton.1 hb]
    have := (a6 a ha).2.2.2.2
    show a.s ≠ seq
    omega
theorem right_sub {l m : List Bx} {seq cap : Int} (hR : rightBx l seq cap = true) {l' : List Bx} (hs : List.Sublist l' l) (hp : m.Perm l') (hh : Hp m 0 m.length) : rightBx m seq cap = true := by
  obtain ⟨a1, a2, a3, a4, a5, a6, a7, a8⟩ := right_iff.1 hR
  have h1 := hs.length_le
  have h2 := hp.length_eq
  exact right_iff.2 ⟨a1, a2, by omega, a4, a5, fun x hx => a6 x (hs.subset (hp.mem_iff.1 hx)), ne_perm hp (a7.sublist hs), hh⟩
theorem right_take {l m : List Bx} {x : Bx} {seq cap : Int} (hR : rightBx l seq cap = true) (hp : (m ++ [x]).Perm l) (hh : Hp m 0 m.length) : rightBx m seq cap = true := by
  obtain ⟨a1, a2, a3, a4, a5, a6, a7, a8⟩ := right_iff.1 hR
  have h2 := hp.length_eq
  rw [List.length_append] at h2
  simp only [List.length_cons, List.length_nil] at h2
  have a7' := ne_perm hp a7
  exact right_iff.2 ⟨a1, a2, by omega, a4, a5, fun y hy => a6 y (hp.mem_iff.1 (List.mem_append_left _ hy)), (List.pairwise_append.1 a7').1, hh⟩

section
variable {l : List Bx} {A : Option Addr} {c n : Nat} {seq cap : Int} {w : World} (hr : BxR w w.heap.size A l) (hl : l.length = n) (h12 : l.length ≤ 12) (hc : n ≤ c) (hid : ∀ x ∈ l, x.f.id < 4294967296)
include hr hl h12 hc hid
theorem put_u {handle : Int} {f : Fr} (hf : f.id < 4294967296) :
    Calls Tryd.prog 23 #[.agg #[.slice A n c, .int .i64 seq, .int .i64 cap], .int .i64 handle, .agg #[.int .u32 f.id, .bool f.ext, .bool f.rem, .int .i64 f.dlc, .string f.data]] w fun e w' => ∃ A' c' n' lp sp cp r, e = .returned (.tuple #[.agg #[.slice A' n' c', .int .i64 sp, .int .i64 cp], .int .i64 r]) ∧ lp.length = n' ∧ n' ≤ c' ∧ BxR w' w'.heap.size A' lp ∧ PutBx l seq cap handle f lp sp cp r ∧ Below w.heap.size w w' := by
  subst hl
  by_cases hb : badPut l seq cap handle f
  · refine (put_bad l A c seq cap handle f w hr (by omega) hc hid hf hb).mono ?_
    rintro e w' ⟨he, q⟩
    exact ⟨none, 0, 0, [], 0, 0, 1, he, rfl, Nat.le_refl _, Rd.nil, .inl ⟨hb, rfl, rfl⟩, q⟩
  · have hb' := hb
    unfold badPut at hb'
    simp only [not_or, Bool.not_eq_false, Int.not_lt, Int.not_le] at hb'
    obtain ⟨b1, b2, b3, b4, b5⟩ := hb'
    by_cases hlc : (l.length : Int) < cap
    · refine (put_ok l A c seq cap handle f w hr hc hid hf b1 b2 b3 b4 b5 hlc).mono ?_
      rintro e w' ⟨A', c', lp, he, o, hp, hh, q⟩
      exact ⟨A', c', lp.length, lp, seq + 1, cap, 0, he, rfl, by have := o.le; rwa [List.length_map] at this, o.rd (bxc_rows _), .inr (.inr ⟨hb, hlc, rfl, hp, right_put b1 b2 b3 b4 b5 hlc hp hh, rfl, rfl⟩), q⟩
    · refine (put_busy l A c seq cap handle f w hr hc hid hf b1 b2 b3 b4 b5 (by omega)).mono ?_
      rintro e w' ⟨he, q⟩
      exact ⟨none, 0, 0, [], 0, 0, 20, he, rfl, Nat.le_refl _, Rd.nil, .inr (.inl ⟨hb, by omega, rfl, rfl⟩), q⟩
theorem take_u :
    Calls Tryd.prog 19 #[.agg #[.slice A n c, .int .i64 seq, .int .i64 cap]] w fun e w' => ∃ A' c' n' lt st ct y r, e = .returned (.tuple #[.agg #[.slice A' n' c', .int .i64 st, .int .i64 ct], .agg #[.int .i64 y.h, .int .u32 y.f.id, .bool y.f.ext, .bool y.f.rem, .int .i64 y.f.dlc, .string y.f.data, .int .i64 y.s], .int .i64 r]) ∧ lt.length = n' ∧ n' ≤ c' ∧ BxR w' w'.heap.size A' lt ∧ TakeP l seq cap lt st ct y r ∧ Below w.heap.size w w' := by
  subst hl
  rcases hR : rightBx l seq cap with _ | _
  · refine (take_bad l A c seq cap 1 w hr (by omega) hc hid (by unfold bestA; rw [if_pos hR]) rfl).mono ?_
    rintro e w' ⟨he, q⟩
    exact ⟨none, 0, 0, [], 0, 0, zBx, 1, he, rfl, Nat.le_refl _, Rd.nil, .inl ⟨hR, rfl, rfl, rfl⟩, q⟩
  · by_cases h0 : l.length = 0
    · refine (take_bad l A c seq cap 21 w hr (by omega) hc hid (by unfold bestA; rw [if_neg (by rw [hR]; simp), if_pos h0]) rfl).mono ?_
      rintro e w' ⟨he, q⟩
      exact ⟨none, 0, 0, [], 0, 0, zBx, 21, he, rfl, Nat.le_refl _, Rd.nil, .inr (.inl ⟨hR, h0, rfl, rfl, rfl⟩), q⟩
    · refine (take_ok l A c seq cap w hr hc hid hR (by omega)).mono ?_
      rintro e w' ⟨A', c', m, he, o, hp, hh, q⟩
      exact ⟨A', c', m.length, m, seq, cap, at' l 0, 0, he, rfl, by have := o.le; rwa [List.length_map] at this, o.rd (bxc_rows _), .inr (.inr ⟨hR, by omega, rfl, rfl, hp, right_take hR hp hh, rfl, rfl⟩), q⟩
theorem best_u :
    Calls Tryd.prog 33 #[.agg #[.slice A n c, .int .i64 seq, .int .i64 cap]] w fun e w' => ∃ x r, e = .returned (.tuple #[.agg #[.int .i64 x.h, .int .u32 x.f.id, .bool x.f.ext, .bool x.f.rem, .int .i64 x.f.dlc, .string x.f.data, .int .i64 x.s], .int .i64 r]) ∧ (x, r) = bestA l seq cap ∧ Below w.heap.size w w' := by
  subst hl
  refine (best_any l A c seq cap w hr (by omega) hc hid).mono ?_
  rintro e w' ⟨he, q⟩
  exact ⟨_, _, he, rfl, q⟩
theorem right_u : Calls Tryd.prog 36 #[.agg #[.slice A n c, .int .i64 seq, .int .i64 cap]] w fun e w' => e = .returned (.bool (rightBx l seq cap)) ∧ Below w.heap.size w w' := by
  subst hl
  exact bxRight_any l A c seq cap w hr (by omega) hc hid
end
section
variable {W0 : World} {B : Nat} {A : Option Addr} {c n : Nat} {seq cap : Int} {l : List Bx} {R : Bool} (S : Bo W0 B A c n seq cap l) (h12 : l.length ≤ 12) (hid : ∀ x ∈ l, x.f.id < 4294967296) (hR : R = rightBx l seq cap)
include S h12 hid hR
theorem right_v (W : World) (q : Below W0.heap.size W0 W) : Calls Tryd.prog 36 #[.agg #[.slice A n c, .int .i64 seq, .int .i64 cap]] W fun e w' => e = .returned (.bool R) ∧ Below W.heap.size W w' := by
  rw [hR]
  exact right_u (S.below q).rd (S.below q).len h12 (S.below q).le hid
theorem right_s (s : InW W0) : Calls Tryd.prog 36 #[.agg #[.slice A n c, .int .i64 seq, .int .i64 cap]] s.W fun e w' => e = .returned (.bool R) ∧ Below s.W.heap.size s.W w' := right_v S h12 hid hR s.W s.h
end
theorem Bo.cells_s {W : World} {B : Nat} {A : Option Addr} {c n : Nat} {seq cap : Int} {l : List Bx} (h : Bo W B A c n seq cap l) (s : InW W) : s.W.cell? ⟨B, 0, none⟩ = some (.slice A n c) ∧ s.W.cell? ⟨B, 1, none⟩ = some (.int .i64 seq) ∧ s.W.cell? ⟨B, 2, none⟩ = some (.int .i64 cap) := three_cells (h.below s.h).box

def NewP (size nc r : Int) : Prop := (1 ≤ size ∧ size ≤ 8 ∧ nc = size ∧ r = 0) ∨ (¬ (1 ≤ size ∧ size ≤ 8) ∧ r = 1)
theorem new_u (size : Int) (w : World) : Calls Tryd.prog 15 #[.int .i64 size] w fun e w' => ∃ nc r, e = .returned (.tuple #[.agg #[.slice none 0 0, .int .i64 0, .int .i64 nc], .int .i64 r]) ∧ NewP size nc r ∧ Below w.heap.size w w' := by
  refine (bxNew_any size w).mono ?_
  rintro e w' ⟨he, q⟩
  by_cases h : 1 ≤ size ∧ size ≤ 8
  · rw [if_pos h] at he
    exact ⟨size, 0, he, .inl ⟨h.1, h.2, rfl, rfl⟩, q⟩
  · rw [if_neg h] at he
    exact ⟨0, 1, he, .inr ⟨h, rfl⟩, q⟩

section
variable {l lp lt ld : List Bx} {seq cap handle sp kp st kt sd kd k r : Int} {f : Fr} {x y : Bx}
theorem put_no (h : PutBx l seq cap handle f lp sp kp r) (hR : rightBx l seq cap = false) : lp = [] ∧ r = 1 := by
  rcases h with ⟨_, a, b⟩ | ⟨h, _⟩ | ⟨h, _⟩
  · exact ⟨a, b⟩
  · exact absurd (.inl hR) h
  · exact absurd (.inl hR) h
theorem take_no (h : TakeP l seq cap lt st kt y r) (hR : rightBx l seq cap = false) : lt = [] ∧ y = zBx ∧ r = 1 := by
  rcases h with ⟨_, a⟩ | ⟨h, _⟩ | ⟨h, _⟩
  · exact a
  · rw [hR] at h; cases h
  · rw [hR] at h; cases h
theorem drop_no (h : DropP l seq cap handle ld sd kd k r) (hR : rightBx l seq cap = false) : ld = [] ∧ k = 0 ∧ r = 1 := by
  rcases h with ⟨_, a⟩ | ⟨h, _⟩
  · exact a
  · rw [hR] at h; cases h
theorem best_no (h : (x, r) = bestA l seq cap) (hR : rightBx l seq cap = false) : x = zBx ∧ r = 1 := by
  unfold bestA at h
  rw [if_pos hR] at h
  simpa using h
theorem drop_yes (h : DropP l seq cap handle ld sd kd k r) (hR : rightBx l seq cap = true) : r = 0 ∧ k = (l.length : Int) - ld.length ∧ ld.Perm (stay handle l) ∧ rightBx ld seq cap = true ∧ sd = seq ∧ kd = cap := by
  rcases h with ⟨h, _⟩ | ⟨_, a⟩
  · rw [hR] at h; cases h
  · exact a
theorem take_none (h : TakeP l seq cap lt st kt y r) (hR : rightBx l seq cap = true) (h0 : l.length = 0) : r = 21 := by
  rcases h with ⟨h, _⟩ | ⟨_, _, _, _, a⟩ | ⟨_, h, _⟩
  · rw [hR] at h; cases h
  · exact a
  · omega
theorem best_none (h : (x, r) = bestA l seq cap) (hR : rightBx l seq cap = true) (h0 : l.length = 0) : r = 21 := by
  unfold bestA at h
  rw [if_neg (by rw [hR]; simp), if_pos h0] at h
  simp only [Prod.mk.injEq] at h
  exact h.2
theorem take_some (h : TakeP l seq cap lt st kt y r) (hR : rightBx l seq cap = true) (h0 : 0 < l.length) : r = 0 ∧ y = at' l 0 ∧ (lt ++ [at' l 0]).Perm l ∧ rightBx lt seq cap = true ∧ st = seq ∧ kt = cap := by
  rcases h with ⟨h, _⟩ | ⟨_, h, _⟩ | ⟨_, _, a⟩
  · rw [hR] at h; cases h
  · omega
  · exact a
theorem best_some (h : (x, r) = bestA l seq cap) (hR : rightBx l seq cap = true) (h0 : 0 < l.length) : x = at' l 0 ∧ r = 0 := by
  unfold bestA at h
  rw [if_neg (by rw [hR]; simp), if_neg (by omega)] at h
  simpa using h
theorem put_badly (h : PutBx l seq cap handle f lp sp kp r) (hb : badPut l seq cap handle f) : lp = [] ∧ r = 1 := by
  rcases h with ⟨_, a, b⟩ | ⟨h, _⟩ | ⟨h, _⟩
  · exact ⟨a, b⟩
  · exact absurd hb h
  · exact absurd hb h
theorem put_full (h : PutBx l seq cap handle f lp sp kp r) (hb : ¬ badPut l seq cap handle f) (hc : cap ≤ (l.length : Int)) : lp = [] ∧ r = 20 := by
  rcases h with ⟨h, _⟩ | ⟨_, _, a⟩ | ⟨_, h, _⟩
  · exact absurd h hb
  · exact a
  · omega
theorem put_yes (h : PutBx l seq cap handle f lp sp kp r) (hb : ¬ badPut l seq cap handle f) (hc : (l.length : Int) < cap) : r = 0 ∧ lp.Perm (l ++ [⟨handle, f, seq⟩]) ∧ rightBx lp (seq + 1) cap = true ∧ sp = seq + 1 ∧ kp = cap := by
  rcases h with ⟨h, _⟩ | ⟨_, h, _⟩ | ⟨_, _, a⟩
  · exact absurd h hb
  · omega
  · exact a
/-- When a row is right, no Put is refused but for these. -/
theorem badPut_iff (hR : rightBx l seq cap = true) : badPut l seq cap handle f ↔ handle < 0 ∨ 1000000 < handle ∨ FP.rightB f = false ∨ 1099511627776 ≤ seq := by
  unfold badPut
  rw [hR]
  simp
end

theorem cells7 {W : World} {B : Nat} {a b c d e f g : Value} {t : TypeId} {fz : Nat × Nat} (h : W.heap[B]? = some (.cells #[a, b, c, d, e, f, g] t fz)) :
    W.cell? ⟨B, 0, none⟩ = some a ∧ W.cell? ⟨B, 1, none⟩ = some b ∧ W.cell? ⟨B, 2, none⟩ = some c ∧ W.cell? ⟨B, 3, none⟩ = some d ∧ W.cell? ⟨B, 4, none⟩ = some e ∧ W.cell? ⟨B, 5, none⟩ = some f ∧ W.cell? ⟨B, 6, none⟩ = some g := by
  simp [World.cell?, h]

section
variable {W : World} {B : Nat} {A : Option Addr} {c n : Nat} {seq cap : Int} {l : List Bx}
theorem sorted_u (S : Bo W B A c n seq cap l) (hR : rightBx l seq cap = true) : Calls Tryd.prog 25 #[.slice A n c] W fun e w' => ∃ A' c', e = .returned (.slice A' n c') ∧ BxR w' w'.heap.size A' (sortB l) ∧ n ≤ c' ∧ Below W.heap.size W w' := by
  obtain ⟨hg, _, _, h8⟩ := right_goodP hR
  have h := sorted9_any l A c W S.rd (by omega) hg
  unfold RowB1 at h
  rw [sortB_len, S.len] at h
  exact h
end
theorem BxR.head_s {W : World} {A : Option Addr} {b0 : Bx} {r : List Bx} (h : BxR W W.heap.size A (b0 :: r)) : ∃ b off, A = some ⟨b, off, none⟩ ∧ ∀ s : InW W, s.W.cell? ⟨b, off, none⟩ = some (.int .i64 b0.h) ∧ s.W.cell? ⟨b, off + 1, none⟩ = some (.int .u32 b0.f.id) ∧ s.W.cell? ⟨b, off + 2, none⟩ = some (.bool b0.f.ext) ∧ s.W.cell? ⟨b, off + 3, none⟩ = some (.bool b0.f.rem) ∧ s.W.cell? ⟨b, off + 4, none⟩ = some (.int .i64 b0.f.dlc) ∧ s.W.cell? ⟨b, off + 5, none⟩ = some (.string b0.f.data) ∧ s.W.cell? ⟨b, off + 6, none⟩ = some (.int .i64 b0.s) := by
  obtain ⟨b, off, rfl, hb, c0, c1, c2, c3, c4, c5, c6⟩ := h.at_ (k := 0) (by simp)
  simp only [Nat.zero_mul, Nat.add_zero, List.getElem_cons_zero] at c0 c1 c2 c3 c4 c5 c6
  exact ⟨b, off, rfl, fun s => ⟨s.cell hb c0, s.cell hb c1, s.cell hb c2, s.cell hb c3, s.cell hb c4, s.cell hb c5, s.cell hb c6⟩⟩
/-- What stands behind the head, and is left when it is taken. -/
theorem take_perm {l lt r : List Bx} {b : Bx} (h : (lt ++ [b]).Perm l) (h2 : (r ++ [b]).Perm l) : lt.Perm r := (List.perm_append_right_iff [b]).1 (h.trans h2.symm)
theorem stay_sorted (handle : Int) (l : List Bx) : (stay handle (sortB l)).Perm (stay handle l) := (sortB_perm l).filter _
theorem stay_id {handle : Int} {l ld : List Bx} (h : ∀ x ∈ l, x.f.id < 4294967296) (hp : ld.Perm (stay handle l)) : ∀ x ∈ ld, x.f.id < 4294967296 := fun x hx => h x (List.mem_filter.1 (hp.mem_iff.1 hx)).1
theorem take_id {l lt : List Bx} {y : Bx} (h : ∀ x ∈ l, x.f.id < 4294967296) (hp : (lt ++ [y]).Perm l) : ∀ x ∈ lt, x.f.id < 4294967296 := fun x hx => h x (hp.mem_iff.1 (List.mem_append_left _ hx))
theorem put_id {l lp : List Bx} {x0 : Bx} (h : ∀ x ∈ l, x.f.id < 4294967296) (hx0 : x0.f.id < 4294967296) (hp : lp.Perm (l ++ [x0])) : ∀ x ∈ lp, x.f.id < 4294967296 := fun x hx => by
  rcases List.mem_append.1 (hp.mem_iff.1 hx) with hx | hx
  · exact h x hx
  · rw [List.mem_singleton.1 hx]; exact hx0
end Go.Proofs.YtkfedgjepiljiaaDoor

/- Rows of a slice and stores into boxes beside them. Nothing of the program's text. -/
namespace Go.Proofs.YtkfedgjepiljiaaDoor
open Go.ChangeShapes Go.WideShapes Go.ChangeAt Go.RowKit

/-- A row of n does not lie in block x. -/
def Off (A : Option Addr) (n x : Nat) : Prop := n = 0 ∨ ∀ g off, A = some ⟨g, off, none⟩ → g ≠ x
theorem off_set {w : World} {A : Option Addr} {sz : Nat} {R : List (List Value)} {x : Nat} (h : Rd w w.heap.size A sz R) (ho : Off A R.length x) (vs : List Value) (o : Nat) : Rd (w.setCells x o vs) (w.setCells x o vs).heap.size A sz R := by
  rcases ho with ho | ho
  · intro hn
    omega
  · exact rd_setCells ho _ _ _ h
theorem off_new {w : World} {B : Nat} {A : Option Addr} {sz : Nat} {R : List (List Value)} {x : Nat} (h : Rd w B A sz R) (hx : B ≤ x) : Off A R.length x := by
  by_cases hn : 0 < R.length
  · obtain ⟨g, off, e, hb, _⟩ := h hn
    refine .inr fun g2 off2 e2 => ?_
    rw [e] at e2
    cases e2
    omega
  · exact .inl (by omega)
theorem off_fresh {N n x : Nat} {A : Option Addr} (h : ∀ g off, A = some ⟨g, off, none⟩ → N ≤ g) (hx : x < N) : Off A n x := .inr fun g off e => by have := h g off e; omega
theorem off_len {A : Option Addr} {n m x : Nat} (h : Off A n x) (hm : n = 0 → m = 0) : Off A m x := h.elim (fun e => .inl (hm e)) .inr
def Fresh (N : Nat) (A : Option Addr) : Prop := ∀ g off, A = some ⟨g, off, none⟩ → N ≤ g
theorem Fresh.mono {N M : Nat} {A : Option Addr} (h : Fresh N A) (hm : M ≤ N) : Fresh M A := fun g off e => Nat.le_trans hm (h g off e)
theorem fresh_own {W : World} {base : Nat} {e : TypeId} {sz : Nat} {A : Option Addr} {c : Nat} {R : List (List Value)} (h : Own W base e sz A c R) : Fresh base A := own_blk h
theorem splat_go : ∀ (xs : List Value) (n : Nat) (pre suf : List Value), pre.length = n → suf.length = xs.length → List.foldl (fun (cs : Array Value) (x : Value × Nat) => cs.setIfInBounds x.2 x.1) (pre ++ suf).toArray (xs.zipIdx n) = (pre ++ xs).toArray
  | [], _, pre, suf, _, h => by
    cases suf with
    | nil => rfl
    | cons => simp at h
  | x :: xs, n, pre, suf, hp, h => by
    cases suf with
    | nil => simp at h
    | cons s suf =>
      rw [List.zipIdx_cons, List.foldl_cons]
      have e : (pre ++ s :: suf).toArray.setIfInBounds n x = ((pre ++ [x]) ++ suf).toArray := by
        subst hp
        simp
      show List.foldl _ ((pre ++ s :: suf).toArray.setIfInBounds n x) _ = _
      rw [e, splat_go xs (n + 1) (pre ++ [x]) suf (by simp [hp]) (by simpa using h)]
      simp
theorem splat_any (z : Array Value) (xs : List Value) (h : z.size = xs.length) : List.foldl (fun (cs : Array Value) (x : Value × Nat) => cs.setIfInBounds x.2 x.1) z xs.zipIdx = xs.toArray :=
  splat_go xs 0 [] z.toList rfl (by simpa using h)
section
variable {P : Program} {ops : Array Oper} {Q : Exit → Act → World → Prop} {md : Region.Mode} {L : List Nat} {l : List (Nat × (World → Prop))}
theorem wpAnyL_three {i k m : Nat} {fuel : Nat} {listed : Array Bool} {a : Act} {w : World} (hr : Region.ready md ops listed = [i, k, m])
    (h : wpOp P ops Q i (fun a' w' => keepsL md ops L l i w w' ∧ wpAnyL P md ops Q L l fuel (listed.setIfInBounds i true) a' w') a w)
    (h' : wpOp P ops Q k (fun a' w' => keepsL md ops L l k w w' ∧ wpAnyL P md ops Q L l fuel (listed.setIfInBounds k true) a' w') a w)
    (h'' : wpOp P ops Q m (fun a' w' => keepsL md ops L l m w w' ∧ wpAnyL P md ops Q L l fuel (listed.setIfInBounds m true) a' w') a w) : wpAnyL P md ops Q L l (fuel + 1) listed a w :=
  ⟨fun h0 => absurd (hr.symm.trans h0) (by simp), hr ▸ fun j hj => by
    simp only [List.mem_cons, List.not_mem_nil, or_false] at hj
    rcases hj with rfl | rfl | rfl
    · exact h
    · exact h'
    · exact h''⟩
end
theorem own_not {W : World} {base : Nat} {e : TypeId} {sz : Nat} {A : Option Addr} {c n : Nat} {r : List (List Value)} (h : Own W base e sz A c r) {x : Nat} (hx : x < base) : (Value.slice A n c).ownBlock ≠ some x := fun he => by
  have he' : (Value.slice A r.length c).ownBlock = some x := by rw [← he]; cases A <;> rfl
  have := (World.ownsRow.lt h x he').1
  omega

/-- A row of n does not lie in the block that grows. -/
def OffB (A : Option Addr) (n : Nat) (row : Option Nat) : Prop := n = 0 ∨ ∀ g off, A = some ⟨g, off, none⟩ → row ≠ some g
theorem offB_old {W w : World} {B : Nat} {A : Option Addr} {sz : Nat} {R : List (List Value)} {base : Nat} {e : TypeId} {sz2 : Nat} {E : Option Addr} {n c : Nat} {rows : List (List Value)} (h : Rd w B A sz R) (ho : Own W base e sz2 E c rows) (hb : B ≤ base) : OffB A R.length (Value.slice E n c).ownBlock := by
  by_cases hn : 0 < R.length
  · obtain ⟨g, off, e, hlt, _⟩ := h hn
    refine .inr fun g2 off2 e2 => ?_
    rw [e] at e2
    cases e2
    exact own_not ho (by omega)
  · exact .inl (by omega)
theorem offB_new {W : World} {N m : Nat} {A : Option Addr} {base : Nat} {e : TypeId} {sz2 : Nat} {E : Option Addr} {n c : Nat} {rows : List (List Value)} (h : Fresh N A) (ho : Own W base e sz2 E c rows) (hN : W.heap.size ≤ N) : OffB A m (Value.slice E n c).ownBlock :=
  .inr fun g off e => own_ne ho (by have := h g off e; omega)
theorem offB_ty {W : World} {b1 b2 e1 e2 s1 s2 m n c1 c2 : Nat} {A E : Option Addr} {R1 R2 : List (List Value)} (h : Own W b1 e1 s1 A c1 R1) (ho : Own W b2 e2 s2 E c2 R2) (hte : e1 ≠ e2) : OffB A m (Value.slice E n c2).ownBlock := by
  refine .inr fun g off hA hx => ?_
  subst hA
  rcases h.2 with ⟨hv, _⟩ | ⟨g1, cap, cur, hv, _, hgh, _⟩
  · simp only [Value.slice.injEq] at hv
    exact absurd hv.1 (by simp)
  · simp only [Value.slice.injEq, Option.some.injEq] at hv
    obtain ⟨hv, _, _⟩ := hv
    cases hv
    rcases ho.2 with ⟨hv', _⟩ | ⟨g2, cap', cur', hv', _, hgh', _⟩
    · simp only [Value.slice.injEq] at hv'
      obtain ⟨rfl, _, _⟩ := hv'
      simp [Value.ownBlock] at hx
    · simp only [Value.slice.injEq] at hv'
      obtain ⟨rfl, _, _⟩ := hv'
      simp only [Value.ownBlock, Option.some.injEq] at hx
      subst hx
      rw [hgh] at hgh'
      injection hgh' with hgh'
      injection hgh' with _ h2 _
      exact hte h2
theorem off_lenB {A : Option Addr} {n m : Nat} {row : Option Nat} (h : OffB A n row) (hm : n = 0 → m = 0) : OffB A m row := h.elim (fun e => .inl (hm e)) .inr
theorem rd_grown2 {w w' : World} {A : Option Addr} {sz : Nat} {R : List (List Value)} {row : Option Nat} (h : Rd w w.heap.size A sz R) (hg : w.grownBy w' row) (ho : OffB A R.length row) : Rd w' w'.heap.size A sz R := by
  rcases ho with ho | ho
  · intro hn; omega
  · exact Rd.grown h hg (Nat.le_refl _) fun b off e he => ho b off e he.symm
end Go.Proofs.YtkfedgjepiljiaaDoor
