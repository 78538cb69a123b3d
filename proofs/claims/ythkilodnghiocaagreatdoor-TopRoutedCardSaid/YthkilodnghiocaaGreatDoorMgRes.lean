/- Results that lie in blocks of the call's own, whole. Nothing of the program's text. -/
import Derived.Test.YthkilodnghiocaaGreatDoorOwS
import Derived.Laws.Rows
import Derived.Test.YthkilodnghiocaaGreatDoorOrdL
namespace Go.Proofs.YthkilodnghiocaaGreatDoor
open Go.ChangeShapes Go.WideShapes Go.ChangeAt Go.RowKit

theorem results_cell_tmp {P : Program} {fn : Func} {p q : Tmp} {ty : TypeId} (h : fn.results = #[.cell p ty, .tmp q]) (tmps : Array Value) (w : World) (g : Nat) (t : TypeId) (cs : Array Value) (fr : Nat × Nat) (d : TypeDesc) (v : Value)
    (hp : tmps.getD p undef = .pointer (some ⟨g, 0, none⟩)) (hq : tmps.getD q undef = v) (hg : w.heap[g]? = some (.cells cs t fr))
    (hu : P.underlying ty = some d) (hd : (match d with | .struct _ | .array _ _ => true | _ => false) = true) (hi : (P.info? ty).map (·.size) = some cs.size) :
    (results fn tmps).run P w = .ok (.tuple #[.agg cs, v]) w := by
  have hp' : tmps[p]?.getD undef = .pointer (some ⟨g, 0, none⟩) := by simpa using hp
  have hq' : tmps[q]?.getD undef = v := by simpa using hq
  simp [results, h, hp', hq', asAddr, run_loadVar_row w g t ty cs fr d hg hu hd hi]
theorem results_cell_tmp2 {P : Program} {fn : Func} {p q r : Tmp} {ty : TypeId} (h : fn.results = #[.cell p ty, .tmp q, .tmp r]) (tmps : Array Value) (w : World) (g : Nat) (t : TypeId) (cs : Array Value) (fr : Nat × Nat) (d : TypeDesc) (v u : Value)
    (hp : tmps.getD p undef = .pointer (some ⟨g, 0, none⟩)) (hq : tmps.getD q undef = v) (hr : tmps.getD r undef = u) (hg : w.heap[g]? = some (.cells cs t fr))
    (hu : P.underlying ty = some d) (hd : (match d with | .struct _ | .array _ _ => true | _ => false) = true) (hi : (P.info? ty).map (·.size) = some cs.size) :
    (results fn tmps).run P w = .ok (.tuple #[.agg cs, v, u]) w := by
  have hp' : tmps[p]?.getD undef = .pointer (some ⟨g, 0, none⟩) := by simpa using hp
  have hq' : tmps[q]?.getD undef = v := by simpa using hq
  have hr' : tmps[r]?.getD undef = u := by simpa using hr
  simp [results, h, hp', hq', hr', asAddr, run_loadVar_row w g t ty cs fr d hg hu hd hi]
theorem results_cell2_tmp {P : Program} {fn : Func} {p p2 q : Tmp} {ty ty2 : TypeId} (h : fn.results = #[.cell p ty, .cell p2 ty2, .tmp q]) (tmps : Array Value) (w : World) (g g2 : Nat) (t t2 : TypeId) (cs cs2 : Array Value) (fr fr2 : Nat × Nat) (d d2 : TypeDesc) (v : Value)
    (hp : tmps.getD p undef = .pointer (some ⟨g, 0, none⟩)) (hp2 : tmps.getD p2 undef = .pointer (some ⟨g2, 0, none⟩)) (hq : tmps.getD q undef = v) (hg : w.heap[g]? = some (.cells cs t fr)) (hg2 : w.heap[g2]? = some (.cells cs2 t2 fr2))
    (hu : P.underlying ty = some d) (hd : (match d with | .struct _ | .array _ _ => true | _ => false) = true) (hi : (P.info? ty).map (·.size) = some cs.size)
    (hu2 : P.underlying ty2 = some d2) (hd2 : (match d2 with | .struct _ | .array _ _ => true | _ => false) = true) (hi2 : (P.info? ty2).map (·.size) = some cs2.size) :
    (results fn tmps).run P w = .ok (.tuple #[.agg cs, .agg cs2, v]) w := by
  have hp' : tmps[p]?.getD undef = .pointer (some ⟨g, 0, none⟩) := by simpa using hp
  have hpp : tmps[p2]?.getD undef = .pointer (some ⟨g2, 0, none⟩) := by simpa using hp2
  have hq' : tmps[q]?.getD undef = v := by simpa using hq
  simp [results, h, hp', hpp, hq', asAddr, run_loadVar_row w g t ty cs fr d hg hu hd hi, run_loadVar_row w g2 t2 ty2 cs2 fr2 d2 hg2 hu2 hd2 hi2]
end Go.Proofs.YthkilodnghiocaaGreatDoor

/- Rows of paths and of strings; rings of strings. -/
namespace Go.Proofs.YthkilodnghiocaaGreatDoor
open Go.ChangeShapes Go.WideShapes Go.ChangeAt Go.RowKit

structure Pth where
  frm : Int
  dst : Int
  st : Int
  A : Option Addr
  n : Nat
  c : Nat
  cap : Int
  best : Bool
/-! ### rows of api.Path -/
def ptc (x : Pth) : List Value := [.int .i64 x.frm, .int .i64 x.dst, .int .i64 x.st, .slice x.A x.n x.c, .int .i64 x.cap, .bool x.best]
theorem ptc_len (x : Pth) : (ptc x).length = 6 := rfl
theorem ptc_rows (l : List Pth) : ∀ r ∈ l.map ptc, r.length = 6 := by intro r hr; obtain ⟨x, _, rfl⟩ := List.mem_map.1 hr; rfl
theorem ptc_ones (l : List Pth) : ∀ r ∈ l.map ptc, ∀ u ∈ r, u.oneCell' = true := by
  intro r hr u hu
  obtain ⟨x, _, rfl⟩ := List.mem_map.1 hr
  revert u
  simp [ptc, Value.oneCell']
def PtR (w : World) (B : Nat) (A : Option Addr) (l : List Pth) : Prop := Rd w B A 6 (l.map ptc)
theorem PtR.at_ {w : World} {B : Nat} {A : Option Addr} {l : List Pth} (h : PtR w B A l) {k : Nat} (hk : k < l.length) :
    ∃ b off, A = some ⟨b, off, none⟩ ∧ b < B ∧ w.cell? ⟨b, off + k * 6, none⟩ = some (.int .i64 l[k].frm) ∧ w.cell? ⟨b, off + k * 6 + 1, none⟩ = some (.int .i64 l[k].dst) ∧ w.cell? ⟨b, off + k * 6 + 2, none⟩ = some (.int .i64 l[k].st) ∧ w.cell? ⟨b, off + k * 6 + 3, none⟩ = some (.slice l[k].A l[k].n l[k].c) ∧ w.cell? ⟨b, off + k * 6 + 4, none⟩ = some (.int .i64 l[k].cap) ∧ w.cell? ⟨b, off + k * 6 + 5, none⟩ = some (.bool l[k].best) := by
  obtain ⟨b, off, e, hb, hc⟩ := h (by rw [List.length_map]; omega)
  have hx : (l.map ptc)[k]? = some (ptc l[k]) := by simp [hk]
  exact ⟨b, off, e, hb, hc k _ 0 _ hx rfl, hc k _ 1 _ hx rfl, hc k _ 2 _ hx rfl, hc k _ 3 _ hx rfl, hc k _ 4 _ hx rfl, hc k _ 5 _ hx rfl⟩
theorem PtR.below {w w' : World} {B : Nat} {A : Option Addr} {l : List Pth} (h : PtR w B A l) (hb : Below B w w') : PtR w' B A l := Rd.below h hb
theorem PtR.next {w w' : World} {B : Nat} {A : Option Addr} {l : List Pth} (h : PtR w B A l) (hb : Below B w w') (hB : B ≤ w'.heap.size) : PtR w' w'.heap.size A l := Rd.next h hb hB
theorem PtR.take {w : World} {B : Nat} {A : Option Addr} {l : List Pth} (h : PtR w B A l) (n : Nat) : PtR w B A (l.take n) := by
  have := Rd.take h n
  rwa [← List.map_take] at this
theorem PtR.at2 {w : World} {B b off : Nat} {l : List Pth} (h : PtR w B (some ⟨b, off, none⟩) l) {k : Nat} (hk : k < l.length) : b < B ∧ w.cell? ⟨b, off + k * 6, none⟩ = some (.int .i64 l[k].frm) ∧ w.cell? ⟨b, off + k * 6 + 1, none⟩ = some (.int .i64 l[k].dst) ∧ w.cell? ⟨b, off + k * 6 + 2, none⟩ = some (.int .i64 l[k].st) ∧ w.cell? ⟨b, off + k * 6 + 3, none⟩ = some (.slice l[k].A l[k].n l[k].c) ∧ w.cell? ⟨b, off + k * 6 + 4, none⟩ = some (.int .i64 l[k].cap) ∧ w.cell? ⟨b, off + k * 6 + 5, none⟩ = some (.bool l[k].best) := by
  obtain ⟨b, off, e, hb, h⟩ := h.at_ hk
  cases e
  exact ⟨hb, h⟩
theorem PtR.all {w : World} {B b off : Nat} {l : List Pth} (h : PtR w B (some ⟨b, off, none⟩) l) (hB : B ≤ w.heap.size) {k : Nat} (hk : k < l.length) (s : InW w) : s.W.cell? ⟨b, off + k * 6, none⟩ = some (.int .i64 l[k].frm) ∧ s.W.cell? ⟨b, off + k * 6 + 1, none⟩ = some (.int .i64 l[k].dst) ∧ s.W.cell? ⟨b, off + k * 6 + 2, none⟩ = some (.int .i64 l[k].st) ∧ s.W.cell? ⟨b, off + k * 6 + 3, none⟩ = some (.slice l[k].A l[k].n l[k].c) ∧ s.W.cell? ⟨b, off + k * 6 + 4, none⟩ = some (.int .i64 l[k].cap) ∧ s.W.cell? ⟨b, off + k * 6 + 5, none⟩ = some (.bool l[k].best) := by
  obtain ⟨hb, c0, c1, c2, c3, c4, c5⟩ := h.at2 hk
  have hb : b < w.heap.size := by omega
  exact ⟨s.cell hb c0, s.cell hb c1, s.cell hb c2, s.cell hb c3, s.cell hb c4, s.cell hb c5⟩
/-- A box of one, just laid: what it holds later. -/
theorem Pt_box {W w1 : World} {B : Nat} {t : TypeId} {x : Pth} (hB : B = W.heap.size) (h : Below (B + 1) (W.alloc (.cells #[.int .i64 x.frm, .int .i64 x.dst, .int .i64 x.st, .slice x.A x.n x.c, .int .i64 x.cap, .bool x.best] t)) w1) : w1.cell? ⟨B, 0, none⟩ = some (.int .i64 x.frm) ∧ w1.cell? ⟨B, 1, none⟩ = some (.int .i64 x.dst) ∧ w1.cell? ⟨B, 2, none⟩ = some (.int .i64 x.st) ∧ w1.cell? ⟨B, 3, none⟩ = some (.slice x.A x.n x.c) ∧ w1.cell? ⟨B, 4, none⟩ = some (.int .i64 x.cap) ∧ w1.cell? ⟨B, 5, none⟩ = some (.bool x.best) := ⟨cellBelow h (by omega) (by subst hB; simp [go_sem]), cellBelow h (by omega) (by subst hB; simp [go_sem]), cellBelow h (by omega) (by subst hB; simp [go_sem]), cellBelow h (by omega) (by subst hB; simp [go_sem]), cellBelow h (by omega) (by subst hB; simp [go_sem]), cellBelow h (by omega) (by subst hB; simp [go_sem])⟩
theorem Pt_boxs {w1 : World} {B : Nat} {x : Pth} (hb : B < w1.heap.size) (h : w1.cell? ⟨B, 0, none⟩ = some (.int .i64 x.frm) ∧ w1.cell? ⟨B, 1, none⟩ = some (.int .i64 x.dst) ∧ w1.cell? ⟨B, 2, none⟩ = some (.int .i64 x.st) ∧ w1.cell? ⟨B, 3, none⟩ = some (.slice x.A x.n x.c) ∧ w1.cell? ⟨B, 4, none⟩ = some (.int .i64 x.cap) ∧ w1.cell? ⟨B, 5, none⟩ = some (.bool x.best)) (s : InW w1) : s.W.cell? ⟨B, 0, none⟩ = some (.int .i64 x.frm) ∧ s.W.cell? ⟨B, 1, none⟩ = some (.int .i64 x.dst) ∧ s.W.cell? ⟨B, 2, none⟩ = some (.int .i64 x.st) ∧ s.W.cell? ⟨B, 3, none⟩ = some (.slice x.A x.n x.c) ∧ s.W.cell? ⟨B, 4, none⟩ = some (.int .i64 x.cap) ∧ s.W.cell? ⟨B, 5, none⟩ = some (.bool x.best) := by
  obtain ⟨c0, c1, c2, c3, c4, c5⟩ := h
  exact ⟨s.cell hb c0, s.cell hb c1, s.cell hb c2, s.cell hb c3, s.cell hb c4, s.cell hb c5⟩
theorem Pt_boxn {w1 w2 : World} {B : Nat} {x : Pth} (hb : B < w1.heap.size) (h : w1.cell? ⟨B, 0, none⟩ = some (.int .i64 x.frm) ∧ w1.cell? ⟨B, 1, none⟩ = some (.int .i64 x.dst) ∧ w1.cell? ⟨B, 2, none⟩ = some (.int .i64 x.st) ∧ w1.cell? ⟨B, 3, none⟩ = some (.slice x.A x.n x.c) ∧ w1.cell? ⟨B, 4, none⟩ = some (.int .i64 x.cap) ∧ w1.cell? ⟨B, 5, none⟩ = some (.bool x.best)) (q : Below w1.heap.size w1 w2) : w2.cell? ⟨B, 0, none⟩ = some (.int .i64 x.frm) ∧ w2.cell? ⟨B, 1, none⟩ = some (.int .i64 x.dst) ∧ w2.cell? ⟨B, 2, none⟩ = some (.int .i64 x.st) ∧ w2.cell? ⟨B, 3, none⟩ = some (.slice x.A x.n x.c) ∧ w2.cell? ⟨B, 4, none⟩ = some (.int .i64 x.cap) ∧ w2.cell? ⟨B, 5, none⟩ = some (.bool x.best) := by
  obtain ⟨c0, c1, c2, c3, c4, c5⟩ := h
  exact ⟨cellBelow q hb c0, cellBelow q hb c1, cellBelow q hb c2, cellBelow q hb c3, cellBelow q hb c4, cellBelow q hb c5⟩
theorem Pt_cells {W : World} {g o : Nat} {x : Pth} (h : World.rangeAt W g o (ptc x)) : W.cell? ⟨g, o, none⟩ = some (.int .i64 x.frm) ∧ W.cell? ⟨g, o + 1, none⟩ = some (.int .i64 x.dst) ∧ W.cell? ⟨g, o + 2, none⟩ = some (.int .i64 x.st) ∧ W.cell? ⟨g, o + 3, none⟩ = some (.slice x.A x.n x.c) ∧ W.cell? ⟨g, o + 4, none⟩ = some (.int .i64 x.cap) ∧ W.cell? ⟨g, o + 5, none⟩ = some (.bool x.best) := ⟨h 0 _ rfl, h 1 _ rfl, h 2 _ rfl, h 3 _ rfl, h 4 _ rfl, h 5 _ rfl⟩
theorem ptc_one (x : Pth) : ∀ v ∈ ptc x, v.oneCell' = true := ptc_ones [x] _ (by simp)

/-- The first place; -1: none. -/
def idxPt (p : Pth → Bool) (l : List Pth) : Int := if l.all (fun f => !p f) then -1 else ((l.findIdx p : Nat) : Int)

set_option maxRecDepth 100000 in
set_option maxHeartbeats 2000000 in
theorem indexPt_any (fid : Nat) (cap : Array Value) (p : Pth → Bool) (hp : ∀ (args : Array Value) (w : World), (callFunc fid args).run Tryz.prog w = .ok (.enter fid args) w) (l : List Pth) (A : Option Addr) (c : Nat) (w : World) (hr : PtR w w.heap.size A l) (hl : l.length ≤ 1000)
    (hc : Hid (∀ f ∈ l, ∀ w', Below w.heap.size w w' → Calls Tryz.prog fid (#[.agg #[.int .i64 f.frm, .int .i64 f.dst, .int .i64 f.st, .slice f.A f.n f.c, .int .i64 f.cap, .bool f.best]] ++ cap) w' fun e w'' => e = .returned (.bool (p f)) ∧ Below w'.heap.size w' w'')) :
    Calls Tryz.prog 15 #[.slice A l.length c, .func (.func fid) #[] cap] w fun e w' => e = .returned (.int .i64 (idxPt p l)) ∧ Below w.heap.size w w' := by
  go_enter Tryz.func15, Tryz.ntmps15
  go_wp2
  go_loopw [8] (fun i W => ∃ k : Nat, k ≤ l.length ∧ i = .int .i64 k ∧ Hid (∀ f ∈ l.take k, p f = false) ∧ Below w.heap.size w W) (fun i _ => l.length - (intOf i).toNat)
  case atStart => exact ⟨0, Nat.zero_le _, rfl, hide (by simp), Below.refl _ _⟩
  case round =>
    obtain ⟨k, hk, rfl, hinv, q⟩ := hrel
    by_cases hlt : k < l.length
    · obtain ⟨b, off, rfl, hbs, c0, c1, c2, c3, c4, c5⟩ := (hr.below q).at_ hlt
      have C := hide (hc.out l[k] (List.getElem_mem hlt) wr q)
      rcases hpk : p l[k] with _ | _
      · have hT := hide (show ∀ f ∈ l.take (k + 1), p f = false by
          intro f hf
          rw [List.take_succ_eq_append_getElem hlt, List.mem_append] at hf
          rcases hf with hf | hf
          · exact hinv.out f hf
          · rw [List.mem_singleton.1 hf]; exact hpk)
        rw [hpk] at C
        clear hpk
        go_wp2_with fail
        (with_reducible refine C.out.mono ?_)
        rintro e1 w1 ⟨rfl, q1⟩
        go_wp2
        go_roundw
        case rel => exact ⟨k + 1, by omega, by go_num, hT, below_next q q.size q1⟩
        case measure => simp [intOf]; omega
      · have hE := hide (show idxPt p l = (k : Int) by
          unfold idxPt
          rw [if_neg (by
            rw [List.all_eq_true]
            intro h
            have := h l[k] (List.getElem_mem hlt)
            simp [hpk] at this)]
          congr 1
          rw [List.findIdx_eq hlt]
          exact ⟨hpk, fun j hj => by
            have := hinv.out l[j] (by rw [List.mem_take_iff_getElem]; exact ⟨j, by omega, rfl⟩)
            simp [this]⟩)
        rw [hpk] at C
        clear hpk
        go_wp2_with fail
        (with_reducible refine C.out.mono ?_)
        rintro e1 w1 ⟨rfl, q1⟩
        go_wp2
        go_ret
        exact ⟨by rw [hE.out]; rfl, below_next q q.size q1⟩
    · have hE := hide (show idxPt p l = -1 by
        unfold idxPt
        rw [if_pos]
        rw [List.all_eq_true]
        intro f hf
        have h2 := hinv.out f (by rw [List.take_of_length_le (by omega)]; exact hf)
        simp [h2])
      go_wp2
      go_ret
      exact ⟨by rw [hE.out]; rfl, q⟩
theorem idxPt_nonneg (p : Pth → Bool) (l : List Pth) : 0 ≤ idxPt p l ↔ l.any p = true := by
  unfold idxPt
  by_cases h : l.all (fun f => !p f) = true
  · rw [if_pos h]
    have : l.any p = false := by
      rw [List.any_eq_false]
      intro x hx
      have := List.all_eq_true.1 h x hx
      simpa using this
    simp [this]
  · rw [if_neg h]
    have h' : l.all (fun f => !p f) = false := by simpa using h
    obtain ⟨x, hx, hp⟩ := List.all_eq_false.1 h'
    have : l.any p = true := List.any_eq_true.2 ⟨x, hx, by simpa using hp⟩
    simp [this]

set_option maxRecDepth 100000 in
theorem containsPt_any (fid : Nat) (cap : Array Value) (p : Pth → Bool) (hp : ∀ (args : Array Value) (w : World), (callFunc fid args).run Tryz.prog w = .ok (.enter fid args) w) (l : List Pth) (A : Option Addr) (c : Nat) (w : World) (hr : PtR w w.heap.size A l) (hl : l.length ≤ 1000)
    (hc : Hid (∀ f ∈ l, ∀ w', Below w.heap.size w w' → Calls Tryz.prog fid (#[.agg #[.int .i64 f.frm, .int .i64 f.dst, .int .i64 f.st, .slice f.A f.n f.c, .int .i64 f.cap, .bool f.best]] ++ cap) w' fun e w'' => e = .returned (.bool (p f)) ∧ Below w'.heap.size w' w'')) :
    Calls Tryz.prog 29 #[.slice A l.length c, .func (.func fid) #[] cap] w fun e w' => e = .returned (.bool (l.any p)) ∧ Below w.heap.size w w' := by
  have I := hide (indexPt_any fid cap p hp l A c w hr hl hc)
  have H := idxPt_nonneg p l
  generalize idxPt p l = X at *
  rcases hb : l.any p with _ | _
  · have hx : X < 0 := by
      rcases Int.lt_or_le X 0 with h | h
      · exact h
      · rw [H.1 h] at hb; cases hb
    clear H hb hr hp hc
    go_enter Tryz.func29, Tryz.ntmps29
    go_wp2_with fail
    (with_reducible refine I.out.mono ?_)
    rintro e1 w1 ⟨rfl, q1⟩
    go_wp2
    go_ret
    refine ⟨?_, q1⟩
    refine ret_bool ?_
    (simp <;> omega)
  · have hx : 0 ≤ X := H.2 hb
    clear H hb hr hp hc
    go_enter Tryz.func29, Tryz.ntmps29
    go_wp2_with fail
    (with_reducible refine I.out.mono ?_)
    rintro e1 w1 ⟨rfl, q1⟩
    go_wp2
    go_ret
    refine ⟨?_, q1⟩
    refine ret_bool ?_
    (simp <;> omega)

theorem slPt : SlT Tryz.prog 28 27 6 64 := SlT.mk Tryz.underlying28 (z := .agg (ptc ⟨0, 0, 0, none, 0, 0, 0, false⟩).toArray) (by kernel_rfl) rfl (by decide)
def ClonePtV (l : List Pth) (w : World) (e : Ending) (w' : World) : Prop :=
  ∃ A' c', e = .returned (.slice A' l.length c') ∧ Own w' w.heap.size 27 6 A' c' (l.map ptc) ∧ Below w.heap.size w w'

set_option maxRecDepth 100000 in
set_option maxHeartbeats 1000000 in
theorem clonePt_any (l : List Pth) (A : Option Addr) (c : Nat) (w : World) (hr : PtR w w.heap.size A l) (hl : l.length ≤ 100000) :
    Calls Tryz.prog 18 #[.slice A l.length c] w (ClonePtV l w) := by
  have hnil := fun (w : World) a n c n' c' => Lib.run_eql_slice_nil (P := Tryz.prog) w 28 27 a n c n' c' Tryz.underlying28
  rcases A with _ | a
  · have h0 : l = [] := by
      rcases l with _ | ⟨x, l⟩
      · rfl
      · obtain ⟨_, _, e, _⟩ := hr (by simp)
        cases e
    subst h0
    go_enter Tryz.func18, Tryz.ntmps18
    go_wp2
    go_ret
    exact ⟨none, 0, rfl, Own.nil, Below.refl _ _⟩
  · have O0 := hide (Own.lit w w.heap.size 27 6 [] (Nat.le_refl _) (by simp) (by simp))
    have q0 : Below w.heap.size w (w.alloc (.cells #[] 27)) := (Below.refl _ _).alloc (Nat.le_refl _) _
    have R0 := hide (PtR.next hr q0 q0.size)
    have S1 := hide (show (([] : List (List Value)).length + (l.map ptc).length) * 64 ≤ 140737488355328 by simp; omega)
    have S2 := hide (show ([] : List (List Value)).length + (l.map ptc).length ≤ maxLen by simp [maxLen]; omega)
    have S3 := hide (show l.length = (l.map ptc).length by simp)
    clear hr
    go_enter Tryz.func18, Tryz.ntmps18
    go_wp2_with (at_builtin; refine wpList_append_rows _ rfl _ _ 28 rfl slPt w.heap.size _ _ _ [] rfl O0.out _ _ _ (l.map ptc) rfl R0.out (ptc_rows l) (ptc_ones l) S1.out S2.out ?_ rfl S3.out ?_)
    · simp
    intro A4 n4 w4 o4 g4
    have q4 : Below w.heap.size w w4 := below_append q0 g4 O0.out (Nat.le_refl _) q0.size
    have O4 := hide o4
    clear o4 g4 O0 R0 S1 S2 S3 q0 hnil
    go_wp2
    go_ret
    exact ⟨A4, n4, by simp, O4.out, q4⟩


def stRow (l : List ByteArray) : List (List Value) := l.map fun s => [.string s]
theorem stRow_rows (l : List ByteArray) : ∀ r ∈ stRow l, r.length = 1 := by intro r hr; obtain ⟨x, _, rfl⟩ := List.mem_map.1 hr; rfl
theorem stRow_ones (l : List ByteArray) : ∀ r ∈ stRow l, ∀ u ∈ r, u.oneCell' = true := by
  intro r hr u hu
  obtain ⟨x, _, rfl⟩ := List.mem_map.1 hr
  rw [List.mem_singleton.1 hu]
  rfl
def StR (w : World) (B : Nat) (A : Option Addr) (l : List ByteArray) : Prop := Rd w B A 1 (stRow l)
theorem StR.at_ {w : World} {B : Nat} {A : Option Addr} {l : List ByteArray} (h : StR w B A l) {k : Nat} (hk : k < l.length) : ∃ b off, A = some ⟨b, off, none⟩ ∧ b < B ∧ w.cell? ⟨b, off + k, none⟩ = some (.string l[k]) := by
  obtain ⟨b, off, e, hb, hc⟩ := h (by unfold stRow; rw [List.length_map]; omega)
  have hx : (stRow l)[k]? = some [.string l[k]] := by simp [stRow, hk]
  have := hc k _ 0 _ hx rfl
  rw [Nat.mul_one, Nat.add_zero] at this
  exact ⟨b, off, e, hb, this⟩

set_option maxRecDepth 100000 in
theorem rtLong_any (s : ByteArray) (w : World) (h : s.size ≤ 8) : Calls Tryz.prog 25 #[.string s] w fun e w' => e = .returned (.bool false) ∧ w = w' := by
  have h1 : ¬ (8 : Int) < (s.size : Int) := by omega
  go_enter Tryz.func25, Tryz.ntmps25
  go_wp2
  go_ret
  exact ⟨by simp, rfl⟩

set_option maxRecDepth 100000 in
set_option maxHeartbeats 2000000 in
theorem indexSt_no (l : List ByteArray) (A : Option Addr) (c : Nat) (w : World) (hr : StR w w.heap.size A l) (hl : l.length ≤ 1000) (hs : ∀ s ∈ l, s.size ≤ 8) :
    Calls Tryz.prog 46 #[.slice A l.length c, .func (.func 25) #[] #[]] w fun e w' => e = .returned (.int .i64 (-1)) ∧ Below w.heap.size w w' := by
  have HR := hide hr
  have HS := hide hs
  clear hr hs
  have hp := fun (args : Array Value) (W : World) => show (callFunc 25 args).run Tryz.prog W = .ok (.enter 25 args) W by kernel_rfl
  go_enter Tryz.func46, Tryz.ntmps46
  go_wp2
  go_loopw [8] (fun i W => ∃ k : Nat, k ≤ l.length ∧ i = .int .i64 k ∧ Hid (Below w.heap.size w W)) (fun i _ => l.length - (intOf i).toNat)
  case atStart => exact ⟨0, Nat.zero_le _, rfl, hide (Below.refl _ _)⟩
  case round =>
    obtain ⟨k, hk, rfl, q⟩ := hrel
    by_cases hlt : k < l.length
    · have hki : (k : Int) < (l.length : Int) := by omega
      obtain ⟨b, off, rfl, hb, c0⟩ := HR.out.at_ hlt
      replace c0 := cellBelow q.out hb c0
      have C := hide (rtLong_any l[k] wr (HS.out _ (List.getElem_mem hlt)))
      generalize l[k] = s at *
      go_wp2_with fail
      (with_reducible refine C.out.mono ?_)
      rintro e1 w1 ⟨rfl, rfl⟩
      go_wp2
      go_roundw
      case rel => exact ⟨k + 1, by omega, by go_num, q⟩
      case measure => simp [intOf]; omega
    · obtain rfl : k = l.length := by omega
      have hki : ¬ (l.length : Int) < (l.length : Int) := by omega
      go_wp2
      go_ret
      exact ⟨rfl, q.out⟩
set_option maxRecDepth 100000 in
theorem containsSt_no (l : List ByteArray) (A : Option Addr) (c : Nat) (w : World) (hr : StR w w.heap.size A l) (hl : l.length ≤ 1000) (hs : ∀ s ∈ l, s.size ≤ 8) :
    Calls Tryz.prog 28 #[.slice A l.length c, .func (.func 25) #[] #[]] w fun e w' => e = .returned (.bool false) ∧ Below w.heap.size w w' := by
  have I := hide (indexSt_no l A c w hr hl hs)
  clear hr hs
  go_enter Tryz.func28, Tryz.ntmps28
  go_wp2_with fail
  (with_reducible refine I.out.mono ?_)
  rintro e1 w1 ⟨rfl, q1⟩
  go_wp2
  go_ret
  exact ⟨rfl, q1⟩
def rgL (A : Option Addr) (n c : Nat) : List Value := [.slice A n c, .int .i64 4, .bool false]
set_option maxRecDepth 100000 in
theorem rgRight_ok (A : Option Addr) (n c : Nat) (w : World) (hn : n ≤ 4) : Calls Tryz.prog 27 #[.agg (rgL A n c).toArray] w fun e w' => e = .returned (.bool true) ∧ Below w.heap.size w w' := by
  have h1 : (n : Int) ≤ 4 := by omega
  have q0 : Below w.heap.size w (w.alloc (.cells (rgL A n c).toArray 25)) := (Below.refl _ _).alloc (Nat.le_refl _) _
  unfold rgL at *
  go_enter Tryz.func27, Tryz.ntmps27
  go_wp2
  go_ret
  exact ⟨by simp, q0⟩
set_option maxRecDepth 100000 in
theorem rgRoom_ok (A : Option Addr) (n c : Nat) (w : World) (hn : n ≤ 4) : Calls Tryz.prog 30 #[.agg (rgL A n c).toArray] w fun e w' => e = .returned (.int .i64 (4 - n)) ∧ Below w.heap.size w w' := by
  have q0 : Below w.heap.size w (w.alloc (.cells (rgL A n c).toArray 25)) := (Below.refl _ _).alloc (Nat.le_refl _) _
  have R := hide (fun W => rgRight_ok A n c W hn)
  have B := hide (World.alloc_heap_new w (.cells (rgL A n c).toArray 25))
  have Q := hide q0
  have hw : IntKind.i64.wrap (4 - (n : Int)) = 4 - (n : Int) := IntWalk.i64_in _ (by omega)
  clear q0
  generalize hw0 : w.alloc (.cells (rgL A n c).toArray 25) = w0 at *
  go_enter Tryz.func30, Tryz.ntmps30
  go_upto_region 1 with fail
  clear hw0
  go_wp2_with (refine wpList_load_row rfl 25 (.tmp 1) (by rfl) w.heap.size (by rfl) 25 (rgL A n c).toArray (0, 0) _ (by exact B.out) Tryz.underlying25 (by rfl) (by kernel_rfl) ?_)
  (with_reducible refine (R.out _).mono ?_)
  rintro e1 w1 ⟨rfl, q1⟩
  replace B := hide (heap_below B.out q1)
  replace Q := hide (below_next Q.out Q.out.size q1)
  unfold rgL at B
  obtain ⟨c0, c1, c2⟩ := three_cells B.out
  go_wp2
  go_ret
  exact ⟨rfl, Q.out⟩
end Go.Proofs.YthkilodnghiocaaGreatDoor
