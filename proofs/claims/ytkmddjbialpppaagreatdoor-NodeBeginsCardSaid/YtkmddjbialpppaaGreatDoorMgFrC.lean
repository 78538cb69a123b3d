import Derived.Test.YtkmddjbialpppaaGreatDoorFrB
import Derived.Test.YtkmddjbialpppaaGreatDoorMgCoZ
import Derived.Test.YtkmddjbialpppaaGreatDoorMgFin
import Derived.Test.YtkmddjbialpppaaGreatDoorMgPrA
import Derived.Deep.MidRow
namespace Go.Proofs.YtkmddjbialpppaaGreatDoor
open Go.ChangeShapes Go.WideShapes Go.ChangeAt Go.RowKit
open FP (bit aY numOf Fr dT gY bT cC)
def headE (f : Fr) : Int := if FP.rightB f = true then 0 else 1
end Go.Proofs.YtkmddjbialpppaaGreatDoor
namespace Go.Proofs.YtkmddjbialpppaaGreatDoor
open Go.ChangeShapes Go.WideShapes Go.ChangeAt Go.RowKit
open FP (Fr)
structure Bx where
  h : Int
  f : Fr
  s : Int
def iZ (a b : Bx) : Bool := gH a.f b.f || (!gH b.f a.f && decide (a.s < b.s))
def bxc (x : Bx) : List Value := [.int .i64 x.h, .int .u32 x.f.id, .bool x.f.ext, .bool x.f.rem, .int .i64 x.f.dlc, .string x.f.data, .int .i64 x.s]
def BxR (w : World) (B : Nat) (A : Option Addr) (l : List Bx) : Prop := Rd w B A 7 (l.map bxc)
theorem BxR.at_ {w : World} {B : Nat} {A : Option Addr} {l : List Bx} (h : BxR w B A l) {k : Nat} (hk : k < l.length) :
    ∃ b off, A = some ⟨b, off, none⟩ ∧ b < B ∧ w.cell? ⟨b, off + k * 7, none⟩ = some (.int .i64 l[k].h) ∧ w.cell? ⟨b, off + k * 7 + 1, none⟩ = some (.int .u32 l[k].f.id) ∧ w.cell? ⟨b, off + k * 7 + 2, none⟩ = some (.bool l[k].f.ext) ∧ w.cell? ⟨b, off + k * 7 + 3, none⟩ = some (.bool l[k].f.rem) ∧ w.cell? ⟨b, off + k * 7 + 4, none⟩ = some (.int .i64 l[k].f.dlc) ∧ w.cell? ⟨b, off + k * 7 + 5, none⟩ = some (.string l[k].f.data) ∧ w.cell? ⟨b, off + k * 7 + 6, none⟩ = some (.int .i64 l[k].s) := by
  obtain ⟨b, off, e, hb, hc⟩ := h (by rw [List.length_map]; omega)
  have hx : (l.map bxc)[k]? = some (bxc l[k]) := by simp [hk]
  exact ⟨b, off, e, hb, hc k _ 0 _ hx rfl, hc k _ 1 _ hx rfl, hc k _ 2 _ hx rfl, hc k _ 3 _ hx rfl, hc k _ 4 _ hx rfl, hc k _ 5 _ hx rfl, hc k _ 6 _ hx rfl⟩
theorem BxR.below {w w' : World} {B : Nat} {A : Option Addr} {l : List Bx} (h : BxR w B A l) (hb : Below B w w') : BxR w' B A l := Rd.below h hb
theorem BxR.take {w : World} {B : Nat} {A : Option Addr} {l : List Bx} (h : BxR w B A l) (n : Nat) : BxR w B A (l.take n) := by
  have := Rd.take h n
  rwa [← List.map_take] at this
theorem BxR.at2 {w : World} {B b off : Nat} {l : List Bx} (h : BxR w B (some ⟨b, off, none⟩) l) {k : Nat} (hk : k < l.length) : b < B ∧ w.cell? ⟨b, off + k * 7, none⟩ = some (.int .i64 l[k].h) ∧ w.cell? ⟨b, off + k * 7 + 1, none⟩ = some (.int .u32 l[k].f.id) ∧ w.cell? ⟨b, off + k * 7 + 2, none⟩ = some (.bool l[k].f.ext) ∧ w.cell? ⟨b, off + k * 7 + 3, none⟩ = some (.bool l[k].f.rem) ∧ w.cell? ⟨b, off + k * 7 + 4, none⟩ = some (.int .i64 l[k].f.dlc) ∧ w.cell? ⟨b, off + k * 7 + 5, none⟩ = some (.string l[k].f.data) ∧ w.cell? ⟨b, off + k * 7 + 6, none⟩ = some (.int .i64 l[k].s) := by
  obtain ⟨b, off, e, hb, h⟩ := h.at_ hk
  cases e
  exact ⟨hb, h⟩
theorem BxR.all {w : World} {B b off : Nat} {l : List Bx} (h : BxR w B (some ⟨b, off, none⟩) l) (hB : B ≤ w.heap.size) {k : Nat} (hk : k < l.length) (s : InW w) : s.W.cell? ⟨b, off + k * 7, none⟩ = some (.int .i64 l[k].h) ∧ s.W.cell? ⟨b, off + k * 7 + 1, none⟩ = some (.int .u32 l[k].f.id) ∧ s.W.cell? ⟨b, off + k * 7 + 2, none⟩ = some (.bool l[k].f.ext) ∧ s.W.cell? ⟨b, off + k * 7 + 3, none⟩ = some (.bool l[k].f.rem) ∧ s.W.cell? ⟨b, off + k * 7 + 4, none⟩ = some (.int .i64 l[k].f.dlc) ∧ s.W.cell? ⟨b, off + k * 7 + 5, none⟩ = some (.string l[k].f.data) ∧ s.W.cell? ⟨b, off + k * 7 + 6, none⟩ = some (.int .i64 l[k].s) := by
  obtain ⟨hb, c0, c1, c2, c3, c4, c5, c6⟩ := h.at2 hk
  have hb : b < w.heap.size := by omega
  exact ⟨s.cell hb c0, s.cell hb c1, s.cell hb c2, s.cell hb c3, s.cell hb c4, s.cell hb c5, s.cell hb c6⟩
theorem Bx_box {W w1 : World} {B : Nat} {t : TypeId} {x : Bx} (hB : B = W.heap.size) (h : Below (B + 1) (W.alloc (.cells #[.int .i64 x.h, .int .u32 x.f.id, .bool x.f.ext, .bool x.f.rem, .int .i64 x.f.dlc, .string x.f.data, .int .i64 x.s] t)) w1) : w1.cell? ⟨B, 0, none⟩ = some (.int .i64 x.h) ∧ w1.cell? ⟨B, 1, none⟩ = some (.int .u32 x.f.id) ∧ w1.cell? ⟨B, 2, none⟩ = some (.bool x.f.ext) ∧ w1.cell? ⟨B, 3, none⟩ = some (.bool x.f.rem) ∧ w1.cell? ⟨B, 4, none⟩ = some (.int .i64 x.f.dlc) ∧ w1.cell? ⟨B, 5, none⟩ = some (.string x.f.data) ∧ w1.cell? ⟨B, 6, none⟩ = some (.int .i64 x.s) := ⟨aT h (by omega) (by subst hB; simp [go_sem]), aT h (by omega) (by subst hB; simp [go_sem]), aT h (by omega) (by subst hB; simp [go_sem]), aT h (by omega) (by subst hB; simp [go_sem]), aT h (by omega) (by subst hB; simp [go_sem]), aT h (by omega) (by subst hB; simp [go_sem]), aT h (by omega) (by subst hB; simp [go_sem])⟩
theorem Bx_boxs {w1 : World} {B : Nat} {x : Bx} (hb : B < w1.heap.size) (h : w1.cell? ⟨B, 0, none⟩ = some (.int .i64 x.h) ∧ w1.cell? ⟨B, 1, none⟩ = some (.int .u32 x.f.id) ∧ w1.cell? ⟨B, 2, none⟩ = some (.bool x.f.ext) ∧ w1.cell? ⟨B, 3, none⟩ = some (.bool x.f.rem) ∧ w1.cell? ⟨B, 4, none⟩ = some (.int .i64 x.f.dlc) ∧ w1.cell? ⟨B, 5, none⟩ = some (.string x.f.data) ∧ w1.cell? ⟨B, 6, none⟩ = some (.int .i64 x.s)) (s : InW w1) : s.W.cell? ⟨B, 0, none⟩ = some (.int .i64 x.h) ∧ s.W.cell? ⟨B, 1, none⟩ = some (.int .u32 x.f.id) ∧ s.W.cell? ⟨B, 2, none⟩ = some (.bool x.f.ext) ∧ s.W.cell? ⟨B, 3, none⟩ = some (.bool x.f.rem) ∧ s.W.cell? ⟨B, 4, none⟩ = some (.int .i64 x.f.dlc) ∧ s.W.cell? ⟨B, 5, none⟩ = some (.string x.f.data) ∧ s.W.cell? ⟨B, 6, none⟩ = some (.int .i64 x.s) := by
  obtain ⟨c0, c1, c2, c3, c4, c5, c6⟩ := h
  exact ⟨s.cell hb c0, s.cell hb c1, s.cell hb c2, s.cell hb c3, s.cell hb c4, s.cell hb c5, s.cell hb c6⟩
theorem Bx_boxn {w1 w2 : World} {B : Nat} {x : Bx} (hb : B < w1.heap.size) (h : w1.cell? ⟨B, 0, none⟩ = some (.int .i64 x.h) ∧ w1.cell? ⟨B, 1, none⟩ = some (.int .u32 x.f.id) ∧ w1.cell? ⟨B, 2, none⟩ = some (.bool x.f.ext) ∧ w1.cell? ⟨B, 3, none⟩ = some (.bool x.f.rem) ∧ w1.cell? ⟨B, 4, none⟩ = some (.int .i64 x.f.dlc) ∧ w1.cell? ⟨B, 5, none⟩ = some (.string x.f.data) ∧ w1.cell? ⟨B, 6, none⟩ = some (.int .i64 x.s)) (q : Below w1.heap.size w1 w2) : w2.cell? ⟨B, 0, none⟩ = some (.int .i64 x.h) ∧ w2.cell? ⟨B, 1, none⟩ = some (.int .u32 x.f.id) ∧ w2.cell? ⟨B, 2, none⟩ = some (.bool x.f.ext) ∧ w2.cell? ⟨B, 3, none⟩ = some (.bool x.f.rem) ∧ w2.cell? ⟨B, 4, none⟩ = some (.int .i64 x.f.dlc) ∧ w2.cell? ⟨B, 5, none⟩ = some (.string x.f.data) ∧ w2.cell? ⟨B, 6, none⟩ = some (.int .i64 x.s) := by
  obtain ⟨c0, c1, c2, c3, c4, c5, c6⟩ := h
  exact ⟨aT q hb c0, aT q hb c1, aT q hb c2, aT q hb c3, aT q hb c4, aT q hb c5, aT q hb c6⟩
def idxBx (p : Bx → Bool) (l : List Bx) : Int := if l.all (fun f => !p f) then -1 else ((l.findIdx p : Nat) : Int)
set_option maxRecDepth 100000 in
set_option maxHeartbeats 2000000 in
theorem indexBx_any (fid : Nat) (cap : Array Value) (p : Bx → Bool) (hp : ∀ (args : Array Value) (w : World), (callFunc fid args).run Tryz.prog w = .ok (.enter fid args) w) (l : List Bx) (A : Option Addr) (c : Nat) (w : World) (hr : BxR w w.heap.size A l) (hl : l.length ≤ 1000)
    (hc : Hid (∀ f ∈ l, ∀ w', Below w.heap.size w w' → Calls Tryz.prog fid (#[.agg #[.int .i64 f.h, .int .u32 f.f.id, .bool f.f.ext, .bool f.f.rem, .int .i64 f.f.dlc, .string f.f.data, .int .i64 f.s]] ++ cap) w' fun e w'' => e = .returned (.bool (p f)) ∧ Below w'.heap.size w' w'')) :
    Calls Tryz.prog 181 #[.slice A l.length c, .func (.func fid) #[] cap] w fun e w' => e = .returned (.int .i64 (idxBx p l)) ∧ Below w.heap.size w w' := by
  go_enter Tryz.func181, Tryz.ntmps181
  go_wp2
  go_loopw [8] (fun i W => ∃ k : Nat, k ≤ l.length ∧ i = .int .i64 k ∧ Hid (∀ f ∈ l.take k, p f = false) ∧ Below w.heap.size w W) (fun i _ => l.length - (intOf i).toNat)
  case atStart => exact ⟨0, Nat.zero_le _, rfl, aA (by simp), Below.refl _ _⟩
  case round =>
    obtain ⟨k, hk, rfl, hinv, q⟩ := hrel
    by_cases hlt : k < l.length
    · obtain ⟨b, off, rfl, hbs, c0, c1, c2, c3, c4, c5, c6⟩ := (hr.below q).at_ hlt
      have C := aA (hc.out l[k] (List.getElem_mem hlt) wr q)
      rcases hpk : p l[k] with _ | _
      · have hT := aA (show ∀ f ∈ l.take (k + 1), p f = false by
          intro f hf
          rw [List.take_succ_eq_append_getElem hlt, List.mem_append] at hf
          rcases hf with hf | hf
          · exact hinv.out f hf
          · rw [List.mem_singleton.1 hf]; exact hpk)
        rw [hpk] at C
        clear hpk
        go_wp2_with fail
        (with_reducible refine C.out.mono ?_)
        rintro e1 w1 ⟨rfl, q1⟩
        go_wp2
        go_roundw
        case rel => exact ⟨k + 1, by omega, by go_num, hT, aC q q.size q1⟩
        case measure => simp [intOf]; omega
      · have hE := aA (show idxBx p l = (k : Int) by
          unfold idxBx
          rw [if_neg (by
            rw [List.all_eq_true]
            intro h
            have := h l[k] (List.getElem_mem hlt)
            simp [hpk] at this)]
          congr 1
          rw [List.findIdx_eq hlt]
          exact ⟨hpk, fun j hj => by
            have := hinv.out l[j] (by rw [List.mem_take_iff_getElem]; exact ⟨j, by omega, rfl⟩)
            simp [this]⟩)
        rw [hpk] at C
        clear hpk
        go_wp2_with fail
        (with_reducible refine C.out.mono ?_)
        rintro e1 w1 ⟨rfl, q1⟩
        go_wp2
        go_ret
        exact ⟨by rw [hE.out]; rfl, aC q q.size q1⟩
    · have hE := aA (show idxBx p l = -1 by
        unfold idxBx
        rw [if_pos]
        rw [List.all_eq_true]
        intro f hf
        have h2 := hinv.out f (by rw [List.take_of_length_le (by omega)]; exact hf)
        simp [h2])
      go_wp2
      go_ret
      exact ⟨by rw [hE.out]; rfl, q⟩
theorem idxBx_nonneg (p : Bx → Bool) (l : List Bx) : 0 ≤ idxBx p l ↔ l.any p = true := by
  unfold idxBx
  by_cases h : l.all (fun f => !p f) = true
  · rw [if_pos h]
    have : l.any p = false := by
      rw [List.any_eq_false]
      intro x hx
      have := List.all_eq_true.1 h x hx
      simpa using this
    simp [this]
  · rw [if_neg h]
    have h' : l.all (fun f => !p f) = false := by simpa using h
    obtain ⟨x, hx, hp⟩ := List.all_eq_false.1 h'
    have : l.any p = true := List.any_eq_true.2 ⟨x, hx, by simpa using hp⟩
    simp [this]
set_option maxRecDepth 100000 in
theorem containsBx_any (fid : Nat) (cap : Array Value) (p : Bx → Bool) (hp : ∀ (args : Array Value) (w : World), (callFunc fid args).run Tryz.prog w = .ok (.enter fid args) w) (l : List Bx) (A : Option Addr) (c : Nat) (w : World) (hr : BxR w w.heap.size A l) (hl : l.length ≤ 1000)
    (hc : Hid (∀ f ∈ l, ∀ w', Below w.heap.size w w' → Calls Tryz.prog fid (#[.agg #[.int .i64 f.h, .int .u32 f.f.id, .bool f.f.ext, .bool f.f.rem, .int .i64 f.f.dlc, .string f.f.data, .int .i64 f.s]] ++ cap) w' fun e w'' => e = .returned (.bool (p f)) ∧ Below w'.heap.size w' w'')) :
    Calls Tryz.prog 142 #[.slice A l.length c, .func (.func fid) #[] cap] w fun e w' => e = .returned (.bool (l.any p)) ∧ Below w.heap.size w w' := by
  have I := aA (indexBx_any fid cap p hp l A c w hr hl hc)
  have H := idxBx_nonneg p l
  generalize idxBx p l = X at *
  rcases hb : l.any p with _ | _
  · have hx : X < 0 := by
      rcases Int.lt_or_le X 0 with h | h
      · exact h
      · rw [H.1 h] at hb; cases hb
    clear H hb hr hp hc
    go_enter Tryz.func142, Tryz.ntmps142
    go_wp2_with fail
    (with_reducible refine I.out.mono ?_)
    rintro e1 w1 ⟨rfl, q1⟩
    go_wp2
    go_ret
    refine ⟨?_, q1⟩
    refine aV ?_
    (simp <;> omega)
  · have hx : 0 ≤ X := H.2 hb
    clear H hb hr hp hc
    go_enter Tryz.func142, Tryz.ntmps142
    go_wp2_with fail
    (with_reducible refine I.out.mono ?_)
    rintro e1 w1 ⟨rfl, q1⟩
    go_wp2
    go_ret
    refine ⟨?_, q1⟩
    refine aV ?_
    (simp <;> omega)
set_option maxRecDepth 100000 in
set_option maxHeartbeats 2000000 in
theorem ahead_any (x y : Bx) (w : World) (hx : x.f.id < 4294967296) (hy : y.f.id < 4294967296) :
    Calls Tryz.prog 143 #[.agg #[.int .i64 x.h, .int .u32 x.f.id, .bool x.f.ext, .bool x.f.rem, .int .i64 x.f.dlc, .string x.f.data, .int .i64 x.s], .agg #[.int .i64 y.h, .int .u32 y.f.id, .bool y.f.ext, .bool y.f.rem, .int .i64 y.f.dlc, .string y.f.data, .int .i64 y.s]] w fun e w' => e = .returned (.bool (iZ x y)) ∧ Below w.heap.size w w' := by
  have L1 := aA (fun W => Less_any x.f y.f W hx hy)
  have L2 := aA (fun W => Less_any y.f x.f W hy hx)
  have q0 : Below w.heap.size w ((w.alloc (.cells #[.int .i64 x.h, .int .u32 x.f.id, .bool x.f.ext, .bool x.f.rem, .int .i64 x.f.dlc, .string x.f.data, .int .i64 x.s] 222)).alloc (.cells #[.int .i64 y.h, .int .u32 y.f.id, .bool y.f.ext, .bool y.f.rem, .int .i64 y.f.dlc, .string y.f.data, .int .i64 y.s] 222)) := ((Below.refl _ _).alloc (Nat.le_refl _) _).alloc (by simp) _
  have hA : iZ x y = (gH x.f y.f || (!gH y.f x.f && decide (x.s < y.s))) := rfl
  rw [hA]
  obtain ⟨h, ⟨id, ext, rem, dlc, data⟩, s⟩ := x
  obtain ⟨h', ⟨id', ext', rem', dlc', data'⟩, s'⟩ := y
  dsimp only at *
  generalize gH ⟨id, ext, rem, dlc, data⟩ ⟨id', ext', rem', dlc', data'⟩ = B1 at *
  generalize gH ⟨id', ext', rem', dlc', data'⟩ ⟨id, ext, rem, dlc, data⟩ = B2 at *
  clear hA hx hy
  cases B1
  · cases B2
    · go_enter Tryz.func143, Tryz.ntmps143
      go_wp2_with fail
      (with_reducible refine (L1.out _).mono ?_)
      rintro e1 w1 ⟨rfl, q1⟩
      have q1' := aC q0 q0.size q1
      obtain ⟨hc, hz1⟩ := bcell q1
      have z0 : w.heap.size < w1.heap.size := by simp at hz1; omega
      have z1 : w.heap.size + 1 < w1.heap.size := by simp at hz1; omega
      go_wp2_with fail
      (with_reducible refine (L2.out _).mono ?_)
      rintro e2 w2 ⟨rfl, q2⟩
      have q2' := aC q1' q1'.size q2
      obtain ⟨hc2, hz2⟩ := bcell q2
      go_wp2
      all_goals
        go_ret
        exact ⟨rfl, q2'⟩
    · go_enter Tryz.func143, Tryz.ntmps143
      go_wp2_with fail
      (with_reducible refine (L1.out _).mono ?_)
      rintro e1 w1 ⟨rfl, q1⟩
      have q1' := aC q0 q0.size q1
      obtain ⟨hc, hz1⟩ := bcell q1
      go_wp2_with fail
      (with_reducible refine (L2.out _).mono ?_)
      rintro e2 w2 ⟨rfl, q2⟩
      have q2' := aC q1' q1'.size q2
      go_wp2
      go_ret
      exact ⟨rfl, q2'⟩
  · go_enter Tryz.func143, Tryz.ntmps143
    go_wp2_with fail
    (with_reducible refine (L1.out _).mono ?_)
    rintro e1 w1 ⟨rfl, q1⟩
    have q1' := aC q0 q0.size q1
    go_wp2
    go_ret
    exact ⟨rfl, q1'⟩
def jA (l : List Bx) (seq : Int) (k : Nat) (x : Bx) : Bool :=
  FP.rightB x.f && (decide (0 ≤ x.h) && (decide (x.h ≤ 1000000) && (decide (0 ≤ x.s) && (decide (x.s < seq) && (!(l.take k).any (fun y => y.s == x.s) && (decide (k = 0) || match l[(k - 1) / 2]? with | none => true | some y => !iZ x y))))))
def okTo (l : List Bx) (seq : Int) (n : Nat) : Prop := ∀ k (h : k < l.length), k < n → jA l seq k l[k] = true
def fI (l : List Bx) (seq cap : Int) : Bool :=
  decide (1 ≤ cap) && (decide (cap ≤ 8) && (decide ((l.length : Int) ≤ cap) && (decide (0 ≤ seq) && (decide (seq ≤ 1099511627776) && (List.range l.length).all fun k => match l[k]? with | none => true | some x => jA l seq k x))))
theorem rightBx_all {l : List Bx} {seq : Int} : ((List.range l.length).all fun k => match l[k]? with | none => true | some x => jA l seq k x) = true ↔ okTo l seq l.length := by
  rw [List.all_eq_true]
  constructor
  · intro h k hk _
    have := h k (List.mem_range.2 hk)
    rw [List.getElem?_eq_getElem hk] at this
    exact this
  · intro h k hk
    have hk := List.mem_range.1 hk
    rw [List.getElem?_eq_getElem hk]
    exact h k hk hk
theorem gP {l : List Bx} {seq cap : Int} : fI l seq cap = true ↔ 1 ≤ cap ∧ cap ≤ 8 ∧ (l.length : Int) ≤ cap ∧ 0 ≤ seq ∧ seq ≤ 1099511627776 ∧ okTo l seq l.length := by
  unfold fI
  simp only [Bool.and_eq_true, decide_eq_true_eq, rightBx_all]
theorem jR {l : List Bx} {seq cap : Int} (h : ¬ (1 ≤ cap ∧ cap ≤ 8 ∧ (l.length : Int) ≤ cap ∧ 0 ≤ seq ∧ seq ≤ 1099511627776 ∧ okTo l seq l.length)) : fI l seq cap = false := by
  rw [← Bool.not_eq_true, gP]; exact h
theorem rightBx_bad {l : List Bx} {seq cap : Int} {k : Nat} (hk : k < l.length) (h : jA l seq k l[k] = false) : fI l seq cap = false := by
  apply jR
  rintro ⟨_, _, _, _, _, h6⟩
  rw [h6 k hk hk] at h
  cases h
theorem okTo_succ {l : List Bx} {seq : Int} {k : Nat} (hlt : k < l.length) (h : okTo l seq k) (hx : jA l seq k l[k] = true) : okTo l seq (k + 1) := fun j hj hk => by
  by_cases e : j = k
  · subst e; exact hx
  · exact h j hj (by omega)
theorem okBx_mk {l : List Bx} {seq : Int} {k : Nat} {x : Bx} (hR : FP.rightB x.f = true) (i1 : 0 ≤ x.h) (i2 : x.h ≤ 1000000) (i3 : 0 ≤ x.s) (i4 : x.s < seq) (hC : (l.take k).any (fun y => y.s == x.s) = false)
    (h : k = 0 ∨ ∃ (p : Nat) (hp : p < l.length), p = (k - 1) / 2 ∧ iZ x l[p] = false) : jA l seq k x = true := by
  unfold jA
  rw [hR, hC, decide_eq_true i1, decide_eq_true i2, decide_eq_true i3, decide_eq_true i4]
  rcases h with h | ⟨p, hp, rfl, h⟩
  · simp [h]
  · rw [List.getElem?_eq_getElem hp]
    simp [h]
theorem okBx_any {l : List Bx} {seq : Int} {k : Nat} {x : Bx} (h : (l.take k).any (fun y => y.s == x.s) = true) : jA l seq k x = false := by
  unfold jA
  rw [h]
  simp
theorem okBx_ahead {l : List Bx} {seq : Int} {k p : Nat} {x : Bx} (hk : k ≠ 0) (hp : p < l.length) (e : p = (k - 1) / 2) (h : iZ x l[p] = true) : jA l seq k x = false := by
  unfold jA
  rw [← e, List.getElem?_eq_getElem hp]
  simp [h, hk]
set_option maxRecDepth 100000 in
theorem right1_anyQ (x : Bx) (s : Int) (bb : Nat) (w : World) (hb : bb < w.heap.size) (hc : w.cell? ⟨bb, 6, none⟩ = some (.int .i64 s)) :
    Calls Tryz.prog 141 #[.agg #[.int .i64 x.h, .int .u32 x.f.id, .bool x.f.ext, .bool x.f.rem, .int .i64 x.f.dlc, .string x.f.data, .int .i64 x.s], .pointer (some ⟨bb, 0, none⟩)] w fun e w' => e = .returned (.bool (x.s == s)) ∧ Below w.heap.size w w' := by
  obtain ⟨h, ⟨id, ext, rem, dlc, data⟩, s'⟩ := x
  dsimp only at *
  have q0 : Below w.heap.size w (w.alloc (.cells #[.int .i64 h, .int .u32 id, .bool ext, .bool rem, .int .i64 dlc, .string data, .int .i64 s'] 222)) := (Below.refl _ _).alloc (Nat.le_refl _) _
  go_enter Tryz.func141, Tryz.ntmps141
  go_wp2
  go_ret
  exact ⟨rfl, q0⟩
set_option maxRecDepth 100000 in
set_option maxHeartbeats 4000000 in
theorem bxRight_any (l : List Bx) (A : Option Addr) (c : Nat) (seq cap : Int) (w : World) (hr : BxR w w.heap.size A l) (hl : l.length ≤ 1000) (hcl : l.length ≤ c) (hid : ∀ x ∈ l, x.f.id < 4294967296) :
    Calls Tryz.prog 88 #[.agg #[.slice A l.length c, .int .i64 seq, .int .i64 cap]] w fun e w' => e = .returned (.bool (fI l seq cap)) ∧ Below w.heap.size w w' := by
  have q0 : Below w.heap.size w (w.alloc (.cells #[.slice A l.length c, .int .i64 seq, .int .i64 cap] 42)) := (Below.refl _ _).alloc (Nat.le_refl _) _
  have HID := aA hid
  clear hid
  by_cases hout : 1 ≤ cap ∧ cap ≤ 8 ∧ (l.length : Int) ≤ cap ∧ 0 ≤ seq ∧ seq ≤ 1099511627776
  · obtain ⟨o1, o2, o3, o4, o5⟩ := hout
    go_enter Tryz.func88, Tryz.ntmps88
    go_wp2
    have hr0 : BxR (w.alloc (.cells #[.slice A l.length c, .int .i64 seq, .int .i64 cap] 42)) (w.heap.size + 1) A l := (hr.below q0).more (Nat.le_succ _)
    have HR := aA hr0
    clear hr hr0
    go_loopw [35] (fun i W => ∃ k : Nat, k ≤ l.length ∧ i = .int .i64 k ∧ Hid (okTo l seq k) ∧ Below (w.heap.size + 1) (w.alloc (.cells #[.slice A l.length c, .int .i64 seq, .int .i64 cap] 42)) W) (fun i _ => l.length - (intOf i).toNat)
    case atStart => exact ⟨0, Nat.zero_le _, rfl, aA (fun _ _ h => absurd h (by omega)), Below.refl _ _⟩
    case round =>
      obtain ⟨k, hk, rfl, hinv, q⟩ := hrel
      have zq : w.heap.size + 1 ≤ wr.heap.size := by have := q.size; simpa using this
      have zw : w.heap.size < wr.heap.size := by omega
      have qf : Below w.heap.size w wr := q0.trans (q.mono (by simp))
      by_cases hlt : k < l.length
      · have b0 : wr.cell? ⟨w.heap.size, 0, none⟩ = some (.slice A l.length c) := aT q (by omega) (by simp [go_sem])
        have b1 : wr.cell? ⟨w.heap.size, 1, none⟩ = some (.int .i64 seq) := aT q (by omega) (by simp [go_sem])
        have rd := HR.out.below q
        obtain ⟨b, off, rfl, hbs, c0, c1, c2, c3, c4, c5, c6⟩ := rd.at_ hlt
        have hbr : b < wr.heap.size := by omega
        have qa : Below w.heap.size w (wr.alloc (.cells #[.int .i64 l[k].h, .int .u32 l[k].f.id, .bool l[k].f.ext, .bool l[k].f.rem, .int .i64 l[k].f.dlc, .string l[k].f.data, .int .i64 l[k].s] 222)) := qf.alloc qf.size _
        have qb : Below (w.heap.size + 1) (w.alloc (.cells #[.slice (some ⟨b, off, none⟩) l.length c, .int .i64 seq, .int .i64 cap] 42)) (wr.alloc (.cells #[.int .i64 l[k].h, .int .u32 l[k].f.id, .bool l[k].f.ext, .bool l[k].f.rem, .int .i64 l[k].f.dlc, .string l[k].f.data, .int .i64 l[k].s] 222)) := q.alloc (by omega) _
        have RR := aA (fun W => eL l[k].f W (HID.out _ (List.getElem_mem hlt)))
        have hrun := run_to (P := Tryz.prog) 40 222 Tryz.underlying40 7 (fun W => by kernel_rfl) (some ⟨b, off, none⟩) l.length c k k rfl (by omega)
        have hkl : (l.take k).length = k := by rw [List.length_take]; omega
        have CF := aA (fun W (hW : Below (wr.heap.size + 1) (wr.alloc (.cells #[.int .i64 l[k].h, .int .u32 l[k].f.id, .bool l[k].f.ext, .bool l[k].f.rem, .int .i64 l[k].f.dlc, .string l[k].f.data, .int .i64 l[k].s] 222)) W) => by
          have hz : wr.heap.size + 1 ≤ W.heap.size := by have := hW.size; simpa using this
          have hcell : W.cell? ⟨wr.heap.size, 6, none⟩ = some (.int .i64 l[k].s) := aT hW (by omega) (by simp [go_sem])
          have := containsBx_any 141 #[.pointer (some ⟨wr.heap.size, 0, none⟩)] (fun y => y.s == l[k].s) (fun _ _ => rfl) (l.take k) (some ⟨b, off, none⟩) c W (((rd.below ((Below.refl _ _).alloc (by omega) _)).below (hW.mono (by omega))).take k |>.more (by omega)) (by omega)
            (aA (fun f _ w' hw' => right1_anyQ f l[k].s wr.heap.size w' (by have := hw'.size; omega) (aT hw' (by omega) hcell)))
          rw [hkl] at this
          exact this)
        have HB := aA (show jA l seq k l[k] = false → fI l seq cap = false from fun h => rightBx_bad hlt h)
        have hkl := aA hkl
        rcases hR : FP.rightB l[k].f with _ | _
        · have HF := aA (HB.out (by unfold jA; rw [hR]; rfl))
          rw [hR] at RR
          clear rd hR CF hrun
          go_wp2_with fail
          (with_reducible refine (RR.out _).mono ?_)
          rintro e1 w1 ⟨rfl, q1⟩
          obtain ⟨hc1, hz1⟩ := bcell q1
          have z0 : w.heap.size < w1.heap.size := by simp at hz1; omega
          have z1 : wr.heap.size < w1.heap.size := by simp at hz1; omega
          have q1' := aC qa qa.size q1
          go_wp2
          all_goals
            go_ret
            exact ⟨by rw [HF.out]; rfl, q1'⟩
        · rw [hR] at RR
          by_cases hin : 0 ≤ l[k].h ∧ l[k].h ≤ 1000000 ∧ 0 ≤ l[k].s ∧ l[k].s < seq
          · obtain ⟨i1, i2, i3, i4⟩ := hin
            rcases hC : (l.take k).any (fun y => y.s == l[k].s) with _ | _
            · rw [hC] at CF
              go_wp2_with fail
              (with_reducible refine (RR.out _).mono ?_)
              rintro e1 w1 ⟨rfl, q1⟩
              obtain ⟨hc1, hz1⟩ := bcell q1
              have z0 : w.heap.size < w1.heap.size := by simp at hz1; omega
              have z1 : wr.heap.size < w1.heap.size := by simp at hz1; omega
              have q1' := aC qa qa.size q1
              have q1b := aC qb (by have := qb.size; simpa using this) q1
              go_wp2_with fail
              (with_reducible refine (CF.out _ (by simpa using q1)).mono ?_)
              rintro e2 w2 ⟨rfl, q2⟩
              have q2b := aC q1b (by have := q1b.size; simpa using this) q2
              have q2' := aC q1' q1'.size q2
              have zz : w1.heap.size ≤ w2.heap.size := q2.size
              have z20 : w.heap.size < w2.heap.size := by omega
              have z21 : wr.heap.size < w2.heap.size := by omega
              obtain ⟨hc2, _⟩ := bcell q2
              have BX1 := Bx_box (x := l[k]) rfl (by simpa using q1)
              have BX2 := Bx_boxn (x := l[k]) z1 BX1 q2
              have mb := fun s : InW w2 => Bx_boxs (x := l[k]) z21 BX2 s
              have m1 := fun s : InW w2 => s.cell z20 (aT q2b (by omega) (show (w.alloc (.cells #[.slice (some ⟨b, off, none⟩) l.length c, .int .i64 seq, .int .i64 cap] 42)).cell? ⟨w.heap.size, 0, none⟩ = some (.slice (some ⟨b, off, none⟩) l.length c) by simp [go_sem]))
              by_cases hk0 : k = 0
              · have hd : decide ((0 : Int) < (k : Int)) = false := by rw [decide_eq_false_iff_not]; omega
                have hd' : decide (0 < k) = false := by rw [decide_eq_false_iff_not]; omega
                have HS := aA (okTo_succ hlt hinv.out (okBx_mk hR i1 i2 i3 i4 hC (.inl hk0)))
                clear hk0 BX1 BX2 hC hR
                go_wp2_with fail
                refine bF (by kernel_rfl) (by kernel_rfl) ?_
                repeat (go_big_quiet_step (fail))
                refine wpQuiet_nil ?_
                rintro _ ⟨s, rfl⟩
                have q3b := aC q2b (by have := q2b.size; simpa using this) s.h
                clear mb m1
                go_wp2
                go_roundw
                case rel => exact ⟨k + 1, by omega, by go_num, HS.out, q3b⟩
                case measure => simp [intOf]; omega
              · obtain ⟨p, hp⟩ : ∃ p : Nat, p = (k - 1) / 2 := ⟨_, rfl⟩
                have hd : decide ((0 : Int) < (k : Int)) = true := by rw [decide_eq_true_eq]; omega
                have hd' : decide (0 < k) = true := by rw [decide_eq_true_eq]; omega
                have hpl : p < l.length := by omega
                have mp := BxR.all (HR.out.below q2b) (by have := q2b.size; simpa using this) hpl
                have AH := aA (fun W => ahead_any l[k] l[p] W (HID.out _ (List.getElem_mem hlt)) (HID.out _ (List.getElem_mem hpl)))
                have hpi : (p : Int) < (l.length : Int) := by omega
                have hp0 : (0 : Int) ≤ (p : Int) := by omega
                rcases hA : iZ l[k] l[p] with _ | _
                · rw [hA] at AH
                  have HS := aA (okTo_succ hlt hinv.out (okBx_mk hR i1 i2 i3 i4 hC (.inr ⟨p, hpl, hp, hA⟩)))
                  have hw1 : IntKind.i64.wrap ((k : Int) - 1) = (k : Int) - 1 := IntWalk.i64_in _ (by omega)
                  have hw3 : ((k : Int) - 1).tdiv 2 = (p : Int) := by rw [Int.tdiv_eq_ediv_of_nonneg (by omega)]; omega
                  have hw2 : IntKind.i64.wrap (p : Int) = (p : Int) := IntWalk.i64_in _ (by omega)
                  clear hk0 BX1 BX2 hC hR hp hA
                  go_wp2_with fail
                  refine bF (by kernel_rfl) (by kernel_rfl) ?_
                  repeat (go_big_quiet_step (first | (go_at_call 143; exact cO (AH.out _))))
                  refine wpQuiet_nil ?_
                  rintro _ ⟨s, rfl⟩
                  have q3b := aC q2b (by have := q2b.size; simpa using this) s.h
                  clear mb m1 mp hw1 hw2 hw3
                  go_wp2
                  go_roundw
                  case rel => exact ⟨k + 1, by omega, by go_num, HS.out, q3b⟩
                  case measure => simp [intOf]; omega
                · rw [hA] at AH
                  have HF := aA (HB.out (okBx_ahead hk0 hpl hp hA))
                  have hw1 : IntKind.i64.wrap ((k : Int) - 1) = (k : Int) - 1 := IntWalk.i64_in _ (by omega)
                  have hw3 : ((k : Int) - 1).tdiv 2 = (p : Int) := by rw [Int.tdiv_eq_ediv_of_nonneg (by omega)]; omega
                  have hw2 : IntKind.i64.wrap (p : Int) = (p : Int) := IntWalk.i64_in _ (by omega)
                  clear hk0 BX1 BX2 hC hR hp hA
                  go_wp2_with fail
                  refine bF (by kernel_rfl) (by kernel_rfl) ?_
                  repeat (go_big_quiet_step (first | (go_at_call 143; exact cO (AH.out _))))
                  refine wpQuiet_nil ?_
                  rintro _ ⟨s, rfl⟩
                  have q3' := aC q2' q2'.size s.h
                  clear mb m1 mp hw1 hw2 hw3
                  go_wp2
                  go_ret
                  exact ⟨by rw [HF.out]; rfl, q3'⟩
            · have HF := aA (HB.out (okBx_any hC))
              rw [hC] at CF
              clear hC hR
              go_wp2_with fail
              (with_reducible refine (RR.out _).mono ?_)
              rintro e1 w1 ⟨rfl, q1⟩
              obtain ⟨hc1, hz1⟩ := bcell q1
              have z0 : w.heap.size < w1.heap.size := by simp at hz1; omega
              have z1 : wr.heap.size < w1.heap.size := by simp at hz1; omega
              have q1' := aC qa qa.size q1
              go_wp2_with fail
              (with_reducible refine (CF.out _ (by simpa using q1)).mono ?_)
              rintro e2 w2 ⟨rfl, q2⟩
              have q2' := aC q1' q1'.size q2
              go_wp2
              go_ret
              exact ⟨by rw [HF.out]; rfl, q2'⟩
          · have HF := aA (HB.out (by
              unfold jA
              rw [hR, ← Bool.not_eq_true]
              simp only [Bool.and_eq_true, decide_eq_true_eq]
              rintro ⟨_, h1, h2, h3, h4, _⟩
              exact hin ⟨h1, h2, h3, h4⟩))
            rcases (show l[k].h < 0 ∨ 1000000 < l[k].h ∨ l[k].s < 0 ∨ seq ≤ l[k].s by omega) with h | h | h | h
            all_goals
              clear rd hR CF hrun hin
              go_wp2_with fail
              (with_reducible refine (RR.out _).mono ?_)
              rintro e1 w1 ⟨rfl, q1⟩
              obtain ⟨hc1, hz1⟩ := bcell q1
              have z0 : w.heap.size < w1.heap.size := by simp at hz1; omega
              have z1 : wr.heap.size < w1.heap.size := by simp at hz1; omega
              have q1' := aC qa qa.size q1
              go_wp2
              all_goals
                go_ret
                exact ⟨by rw [HF.out]; rfl, q1'⟩
      · have HT := aA (gP.2 ⟨o1, o2, o3, o4, o5, fun j h _ => hinv.out j h (by omega)⟩)
        go_wp2
        go_ret
        exact ⟨by rw [HT.out]; rfl, qf⟩
  · have HF := aA (jR (l := l) (seq := seq) (cap := cap) (fun h => hout ⟨h.1, h.2.1, h.2.2.1, h.2.2.2.1, h.2.2.2.2.1⟩))
    rcases (show cap < 1 ∨ 8 < cap ∨ cap < (l.length : Int) ∨ seq < 0 ∨ 1099511627776 < seq by omega) with h | h | h | h | h
    all_goals
      clear hout
      go_enter Tryz.func88, Tryz.ntmps88
      go_wp2
      all_goals
        go_ret
        exact ⟨by rw [HF.out]; rfl, q0⟩
end Go.Proofs.YtkmddjbialpppaaGreatDoor
