/- Walks of campanilelaw08.few, ready, alive. -/
import Derived.Test.YthkilodnghiocaaGreatDoorBuX
import Derived.Test.YthkilodnghiocaaGreatDoorMgBuN
import Derived.Test.YthkilodnghiocaaGreatDoorMgFrR
import Derived.Test.YthkilodnghiocaaGreatDoorMgOff
import Derived.Test.YthkilodnghiocaaGreatDoorBuO
namespace Go.Proofs.YthkilodnghiocaaGreatDoor
open Go.ChangeShapes Go.WideShapes Go.ChangeAt Go.RowKit
open FP (Fr)

def cut8 (f : Fr) : Fr := { f with data := f.data.extract 0 (min f.data.size 12) }
/-- How many controllers a bus that is ready has. -/
def manyN (n : Int) : Nat := (min (max n 2) 4).toNat
theorem many_le (n : Int) : 2 ≤ manyN n ∧ manyN n ≤ 4 := by unfold manyN; omega
theorem ready_it {m : Nat} (h2 : 2 ≤ m) (h4 : m ≤ 4) : itB (List.replicate m zCl) 11 = List.replicate m idleC ∧ snB (List.replicate m zCl) 0 11 = [] := by
  obtain rfl | rfl | rfl : m = 2 ∨ m = 3 ∨ m = 4 := by omega
  all_goals exact ⟨by rfl, by rfl⟩
def fr5 : Fr := ⟨5, false, false, 0, ⟨#[]⟩⟩
def chk5 : List Sn → Bool
  | [a, b] => decide (a.kind = 2) && decide (a.who = 1) && decide (b.kind = 1)
  | _ => false
theorem alive_chk : chk5 (snB [idleC.give fr5, idleC] 11 60) = true := by kernel_rfl
theorem alive_sn : ∃ a b, snB [idleC.give fr5, idleC] 11 60 = [a, b] ∧ a.kind = 2 ∧ a.who = 1 ∧ b.kind = 1 := by
  have h := alive_chk
  generalize snB [idleC.give fr5, idleC] 11 60 = s at *
  match s with
  | [] => cases h
  | [_] => cases h
  | [a, b] =>
    simp only [chk5, Bool.and_eq_true, decide_eq_true_eq] at h
    exact ⟨a, b, rfl, h.1.1, h.1.2, h.2⟩
  | _ :: _ :: _ :: _ => cases h
theorem rep_ok {m : Nat} {c : Cl} (h : c.Ok) : AllOk (List.replicate m c) := fun d hd => by rw [(List.mem_replicate.1 hd).2]; exact h

theorem sn_cells {W : World} {B : Nat} {A : Option Addr} {s : List Sn} (h : Rd W B A 9 (snRows s)) {k : Nat} (hk : k < s.length) : ∃ g off, A = some ⟨g, off, none⟩ ∧ g < B ∧ W.rangeAt g (off + k * 9) (sncs s[k]) := by
  obtain ⟨g, off, e, hb, hr⟩ := rd_range h (k := k) (by rw [snRows_len]; exact hk)
  unfold snRows at hr
  rw [List.getElem_map] at hr
  exact ⟨g, off, e, hb, hr⟩
theorem sn_who {W : World} {g o : Nat} {y : Sn} (h : W.rangeAt g o (sncs y)) : W.cell? ⟨g, o, none⟩ = some (.int .i64 y.at_) ∧ W.cell? ⟨g, o + 1, none⟩ = some (.int .i64 y.who) ∧ W.cell? ⟨g, o + 2, none⟩ = some (.int .i64 y.kind) :=
  ⟨h 0 _ rfl, h 1 _ rfl, h 2 _ rfl⟩

end Go.Proofs.YthkilodnghiocaaGreatDoor

/- What BusCuts, BusAlone, BusOrder share: comparing rows; Submit said in one way. -/
namespace Go.Proofs.YthkilodnghiocaaGreatDoor
open Go.ChangeShapes Go.WideShapes Go.ChangeAt Go.RowKit
open FP (Fr)

set_option maxRecDepth 100000 in
theorem neq_sn (y : Sn) (W : World) : (binOp .neq 52 (.agg (sncs y).toArray) (.agg (sncs y).toArray)).run Tryz.prog W = .ok (.bool false) W := by
  unfold sncs evL
  go_simp
set_option maxRecDepth 100000 in
theorem neq_cl (c : Cl) (W : World) : (binOp .neq 73 (.agg c.cs.toArray) (.agg c.cs.toArray)).run Tryz.prog W = .ok (.bool false) W := by
  unfold Cl.cs
  go_simp
set_option maxRecDepth 100000 in
theorem exec_neq_sn (y : Sn) (ev : Operand → Value) (op : Oper) (p q : Operand) (t : TypeId) (ho : op.op = .binOp .neq 52 p q t) (hp : ev p = .agg (sncs y).toArray) (hq : ev q = .agg (sncs y).toArray) (W : World) : (execOp ev op).run Tryz.prog W = .ok (.value (.bool false)) W := by
  unfold execOp
  simp only [ho, hp, hq]
  unfold sncs evL
  go_simp
set_option maxRecDepth 100000 in
theorem exec_neq_cl (c : Cl) (ev : Operand → Value) (op : Oper) (p q : Operand) (t : TypeId) (ho : op.op = .binOp .neq 73 p q t) (hp : ev p = .agg c.cs.toArray) (hq : ev q = .agg c.cs.toArray) (W : World) : (execOp ev op).run Tryz.prog W = .ok (.value (.bool false)) W := by
  unfold execOp
  simp only [ho, hp, hq]
  unfold Cl.cs
  go_simp
theorem snRows_ones (s : List Sn) : ∀ r ∈ snRows s, ∀ u ∈ r, u.oneCell' = true := fun r hr => by
  unfold snRows at hr
  obtain ⟨c, _, rfl⟩ := List.mem_map.1 hr
  simp [sncs, evL, Value.oneCell']
/-- The bus behind a Submit; nothing if it is refused. -/
def subR (l : List Cl) (k : Nat) (f : Fr) : List Cl := if (l.getD k zCl).subE f = 0 then subL l k f else []
theorem busSubmit_all (l : List Cl) (A : Option Addr) (c : Nat) (now : Int) (k : Nat) (f : Fr) (w : World) (hr : ClR w w.heap.size A l) (hk : k < l.length) (h4 : l.length ≤ 4) (hn0 : 0 ≤ now) (hn1 : now ≤ 1099511627776) (hok : AllOk l) (hid : f.id < 4294967296) :
    Calls Tryz.prog 7 #[.agg (busL A l.length c now).toArray, .int .i64 k, .agg (frc f).toArray] w fun e w' => ∃ A' c' now', e = .returned (.tuple #[.agg (busL A' (subR l k f).length c' now').toArray, .int .i64 ((l.getD k zCl).subE f)]) ∧ ClR w' w'.heap.size A' (subR l k f) ∧ Fresh w.heap.size A' ∧ ((l.getD k zCl).subE f = 0 → now' = now) ∧ Below w.heap.size w w' := by
  refine (busSubmit_in l A c now k f w hr hk h4 hn0 hn1 hok hid).mono ?_
  rintro e w' ⟨⟨h1, A', c', rfl, h2, h3⟩ | ⟨h1, rfl⟩, q⟩
  · have e : subR l k f = subL l k f := if_pos h1
    have el : (subL l k f).length = l.length := by unfold subL; rw [List.length_set]
    rw [e]
    exact ⟨A', c', now, by rw [h1, el], h2, h3, fun _ => rfl, q⟩
  · have e : subR l k f = [] := if_neg h1
    rw [e]
    exact ⟨none, 0, 0, rfl, fun h => absurd h (by simp), fun _ _ h => (by cases h), fun h => absurd h h1, q⟩
theorem subL_ok {l : List Cl} (h : AllOk l) {k : Nat} (hk : k < l.length) {f : Fr} (he : (l.getD k zCl).subE f = 0) : AllOk (subL l k f) := by
  intro d hd
  unfold subL at hd
  have e : l.getD k zCl = l[k] := by rw [List.getD_eq_getElem?_getD, List.getElem?_eq_getElem hk]; rfl
  rcases List.mem_or_eq_of_mem_set hd with hd | rfl
  · exact h d hd
  · rw [e] at he ⊢
    unfold Cl.subE at he
    unfold Cl.subC
    split at he
    · cases he
    · rename_i h1
      split at he
      · cases he
      · rename_i h2
        rw [if_neg h1, if_neg h2]
        exact (h _ (List.getElem_mem hk)).give (by simpa using h2) (by simpa using h1)
end Go.Proofs.YthkilodnghiocaaGreatDoor

/- Plain: controllers that were given frames, one each. -/
namespace Go.Proofs.YthkilodnghiocaaGreatDoor
open Go.ChangeShapes Go.WideShapes Go.ChangeAt Go.RowKit
open FP (Fr)
open OP (atF bestTo orderF)

def gaveL (m : Nat) (fs : List Fr) : List Cl := fs.map (fun f => idleC.give f) ++ List.replicate (m - fs.length) idleC
theorem gave_nil (m : Nat) : gaveL m [] = List.replicate m idleC := by simp [gaveL]
theorem gave_len {m : Nat} {fs : List Fr} (h : fs.length ≤ m) : (gaveL m fs).length = m := by simp [gaveL]; omega
theorem gave_ok {m : Nat} {fs : List Fr} (h : ∀ f ∈ fs, FP.rightB f = true) : AllOk (gaveL m fs) := fun c hc => by
  unfold gaveL at hc
  rcases List.mem_append.1 hc with hc | hc
  · obtain ⟨f, hf, rfl⟩ := List.mem_map.1 hc
    exact idle_ok.give rfl (h f hf)
  · rw [(List.mem_replicate.1 hc).2]; exact idle_ok
theorem gave_get {m : Nat} {fs : List Fr} (h : fs.length < m) : (gaveL m fs).getD fs.length zCl = idleC := by
  unfold gaveL
  rw [List.getD_eq_getElem?_getD, List.getElem?_append_right (by simp), List.length_map, Nat.sub_self, List.getElem?_replicate, if_pos (by omega)]
  rfl
theorem gave_sub {m : Nat} {fs : List Fr} (h : fs.length < m) {f : Fr} (hf : FP.rightB f = true) : subL (gaveL m fs) fs.length f = gaveL m (fs ++ [f]) ∧ ((gaveL m fs).getD fs.length zCl).subE f = 0 := by
  have h1 : idleC.subC f = idleC.give f := by unfold Cl.subC; rw [if_neg (by rw [hf]; decide), if_neg (by decide)]
  constructor
  · unfold subL
    rw [gave_get h, h1]
    unfold gaveL
    rw [List.set_append_right _ _ (by simp), List.length_map, Nat.sub_self, show m - fs.length = (m - (fs ++ [f]).length) + 1 by simp; omega, List.replicate_succ, List.set_cons_zero, List.map_append, List.append_assoc]
    rfl
  · rw [gave_get h]
    unfold Cl.subE
    rw [if_neg (by rw [hf]; decide), if_neg (by decide)]
theorem gave_frs (m : Nat) (fs : List Fr) : frsOf (gaveL m fs) = fs := by
  unfold frsOf gaveL
  rw [List.filterMap_append, List.filterMap_map]
  have e1 : List.filterMap ((fun c : Cl => if c.has = true then some c.f else none) ∘ fun f => idleC.give f) fs = fs := by
    rw [show ((fun c : Cl => if c.has = true then some c.f else none) ∘ fun f => idleC.give f) = some from rfl]
    simp
  rw [e1]
  have e2 : List.filterMap (fun c : Cl => if c.has = true then some c.f else none) (List.replicate (m - fs.length) idleC) = [] := by
    rw [List.filterMap_eq_nil_iff]
    intro c hc
    rw [(List.mem_replicate.1 hc).2]
    rfl
  rw [e2, List.append_nil]
theorem gave_field {m : Nat} {fs : List Fr} (h2 : 2 ≤ m) (h : fs.length ≤ m) (hr : ∀ f ∈ fs, FP.rightB f = true) (hp : fs.Pairwise fun a b => fieldF a ≠ fieldF b) : Field (gaveL m fs) := by
  refine ⟨fun c hc => ?_, by rw [gave_len h]; exact h2, by rw [gave_frs]; exact hr, by rw [gave_frs]; exact hp⟩
  unfold gaveL at hc
  rcases List.mem_append.1 hc with hc | hc
  · obtain ⟨f, hf, rfl⟩ := List.mem_map.1 hc
    exact ⟨idle_ok.give rfl (hr f hf), rfl, rfl, rfl⟩
  · rw [(List.mem_replicate.1 hc).2]; exact idl_idle
theorem gave_run {m : Nat} {fs : List Fr} (h2 : 2 ≤ m) (h : fs.length ≤ m) (hr : ∀ f ∈ fs, FP.rightB f = true) (hp : fs.Pairwise fun a b => fieldF a ≠ fieldF b) (now : Int) :
    (∀ j, j < m → gotOf j (snB (gaveL m fs) now (180 * fs.length + 20)) = orderF fs) ∧ sentOf (snB (gaveL m fs) now (180 * fs.length + 20)) = fs.length ∧ (∀ y ∈ snB (gaveL m fs) now (180 * fs.length + 20), y.kind = 1 ∨ y.kind = 2 ∨ y.kind = 4) ∧ (∀ c ∈ itB (gaveL m fs) (180 * fs.length + 20), Idl c ∧ c.has = false) ∧ (itB (gaveL m fs) (180 * fs.length + 20)).length = m := by
  have H := order_run fs.length (gave_field h2 h hr hp) (by rw [gave_frs]) now (180 * fs.length + 20) (by omega)
  rw [gave_frs, gave_len h] at H
  exact H
theorem who_lt (now : Int) : ∀ (l : List Mc) (k : Nat), ∀ y ∈ seens now k l, 0 ≤ y.who ∧ y.who < (k + l.length : Nat)
  | [], _, y, h => by cases h
  | m :: l, k, y, h => by
    unfold seens at h
    have ih := who_lt now l (k + 1)
    split at h
    · have := ih y h; rw [List.length_cons]; omega
    · rcases List.mem_cons.1 h with rfl | h
      · rw [List.length_cons]; exact ⟨by show (0 : Int) ≤ (k : Nat); omega, by show ((k : Nat) : Int) < _; omega⟩
      · have := ih y h; rw [List.length_cons]; omega
theorem sn_who_lt (l : List Cl) (now : Int) : ∀ n, ∀ y ∈ snB l now n, 0 ≤ y.who ∧ y.who < l.length
  | 0, y, h => by cases h
  | n + 1, y, h => by
    unfold snB at h
    rcases List.mem_append.1 h with h | h
    · exact sn_who_lt l now n y h
    · have := who_lt _ _ _ y h
      unfold evB at this
      rw [List.length_map, it_len] at this
      omega
end Go.Proofs.YthkilodnghiocaaGreatDoor

/- Plain: two controllers that joined, one of which is given a frame: it comes, and both are ready again. -/
namespace Go.Proofs.YthkilodnghiocaaGreatDoor
open Go.ChangeShapes Go.WideShapes Go.ChangeAt Go.RowKit
open FP (Fr bitsF bodyF)
open OP (atF bestTo orderF)

theorem race_no4 {g : Fr} {l : List Cl} {v : Nat} (h : Race g l v) (hn : ∀ c ∈ l, c.has = true → winB g c = true) (now : Int) : ∀ k, k ≤ (bitsF g).length → ∀ y ∈ snB l now k, y.kind ≠ 4
  | 0, _ => fun y hy => by cases hy
  | k + 1, hk => fun y hy => by
    have ih := race_no4 h hn now k (by omega)
    have h1 := (race_run h now k (by omega)).1
    obtain ⟨_, e2, e3⟩ := race_ev h (i := k) (by omega)
    rw [snB, List.mem_append] at hy
    rcases hy with hy | hy
    · exact ih y hy
    · rw [h1] at hy
      obtain ⟨m, hm, hk1, _⟩ := seens_kind _ _ _ y hy
      obtain ⟨j, hj, rfl⟩ := List.getElem_of_mem hm
      have hjl : j < l.length := by rw [← e3]; exact hj
      obtain ⟨m', m1, m2, _⟩ := e2 j l[j] (List.getElem?_eq_getElem hjl)
      rw [List.getElem?_eq_getElem hj] at m1
      obtain rfl := Option.some.inj m1
      rw [hk1, m2]
      unfold rK
      split
      · split <;> decide
      · rename_i hw
        rw [if_neg (fun q => hw (hn _ (List.getElem_mem hjl) q.1))]
        split <;> decide
theorem race_no4_all {g : Fr} {l : List Cl} {v : Nat} (h : Race g l v) (hn : ∀ c ∈ l, c.has = true → winB g c = true) (now : Int) : ∀ y ∈ snB l now ((bitsF g).length + 3), y.kind ≠ 4 := by
  obtain ⟨h1, _⟩ := race_run h now (bitsF g).length (Nat.le_refl _)
  have E := fun c (hc : c ∈ l) => rS_end h.right (h.par c hc)
  have G1 := fun c (hc : c ∈ l) => gp_step (E c hc).1 (by decide)
  have G2 := fun c (hc : c ∈ l) => gp_step (G1 c hc).2.2.1 (by decide)
  have G3 := fun c (hc : c ∈ l) => gp_end (G2 c hc).2.2.1
  obtain ⟨a1, b1⟩ := map_hush (l := l) (F := fun c => rS g c (bitsF g).length) fun c hc => ⟨(G1 c hc).1, (G1 c hc).2.1⟩
  obtain ⟨a2, b2⟩ := map_hush (l := l) (F := fun c => ((rS g c (bitsF g).length).samp 49).c) fun c hc => ⟨(G2 c hc).1, (G2 c hc).2.1⟩
  obtain ⟨a3, b3⟩ := map_hush (l := l) (F := fun c => ((((rS g c (bitsF g).length).samp 49).c).samp 49).c) fun c hc => ⟨(G3 c hc).1, (G3 c hc).2.1⟩
  have i1 : itB l ((bitsF g).length + 1) = l.map fun c => ((rS g c (bitsF g).length).samp 49).c := by rw [itB, h1, a1]
  have i2 : itB l ((bitsF g).length + 1 + 1) = l.map fun c => ((((rS g c (bitsF g).length).samp 49).c).samp 49).c := by rw [itB, i1, a2]
  have s3 : snB l now ((bitsF g).length + 3) = snB l now (bitsF g).length := by
    rw [show (bitsF g).length + 3 = (bitsF g).length + 1 + 1 + 1 by omega, snB, snB, snB, i2, i1, h1, b1, b2, b3]
    simp
  rw [s3]
  exact race_no4 h hn now _ (Nat.le_refl _)
/-- What two rows of hits are made of. -/
theorem two_hits {f : Fr} : ∀ {s : List Sn}, (∀ y ∈ s, (y.kind = 1 ∨ y.kind = 2) ∧ (y.who = 0 ∨ y.who = 1)) → ∀ {a b : List Fr}, gotOf 0 s = a → gotOf 1 s = b → s.length = a.length + b.length ∧ ∀ y ∈ s, y.ef ∈ a ∨ y.ef ∈ b
  | [], _, a, b, h0, h1 => by
    subst h0 h1
    exact ⟨rfl, fun y h => by cases h⟩
  | y :: s, h, a, b, h0, h1 => by
    have hy := h y List.mem_cons_self
    have ih := two_hits (f := f) (s := s) (fun z hz => h z (List.mem_cons_of_mem _ hz)) (a := gotOf 0 s) (b := gotOf 1 s) rfl rfl
    have hk : (decide (y.kind = 1) || decide (y.kind = 2)) = true := by rcases hy.1 with q | q <;> simp [q]
    rcases hy.2 with q | q
    · have e0 : gotOf 0 (y :: s) = y.ef :: gotOf 0 s := by
        unfold gotOf
        rw [List.filter_cons_of_pos (by unfold hitB; rw [hk, q]; simp), List.map_cons]
      have e1 : gotOf 1 (y :: s) = gotOf 1 s := by
        unfold gotOf
        rw [List.filter_cons_of_neg (by unfold hitB; rw [q]; simp)]
      rw [e0] at h0
      rw [e1] at h1
      subst h0 h1
      refine ⟨by rw [List.length_cons, List.length_cons, ih.1]; omega, fun z hz => ?_⟩
      rcases List.mem_cons.1 hz with rfl | hz
      · exact .inl List.mem_cons_self
      · exact (ih.2 z hz).imp (List.mem_cons_of_mem _) id
    · have e0 : gotOf 0 (y :: s) = gotOf 0 s := by
        unfold gotOf
        rw [List.filter_cons_of_neg (by unfold hitB; rw [q]; simp)]
      have e1 : gotOf 1 (y :: s) = y.ef :: gotOf 1 s := by
        unfold gotOf
        rw [List.filter_cons_of_pos (by unfold hitB; rw [hk, q]; simp), List.map_cons]
      rw [e0] at h0
      rw [e1] at h1
      subst h0 h1
      refine ⟨by rw [List.length_cons, List.length_cons, ih.1]; omega, fun z hz => ?_⟩
      rcases List.mem_cons.1 hz with rfl | hz
      · exact .inr List.mem_cons_self
      · exact (ih.2 z hz).imp id (List.mem_cons_of_mem _)
/-- Two controllers that joined and have nothing. -/
structure Two (l : List Cl) : Prop where
  len : l.length = 2
  idl : ∀ c ∈ l, Idl c ∧ c.has = false
theorem Two.ok {l : List Cl} (h : Two l) : AllOk l := fun c hc => (h.idl c hc).1.ok
theorem two_idle : Two (List.replicate 2 idleC) := ⟨rfl, fun c hc => by rw [(List.mem_replicate.1 hc).2]; exact ⟨idl_idle, rfl⟩⟩
set_option maxHeartbeats 4000000 in
theorem two_run {l : List Cl} (h : Two l) {f : Fr} (hf : FP.rightB f = true) (now : Int) (K : Nat) (hK : 160 ≤ K) :
    (l.getD 0 zCl).subE f = 0 ∧ AllOk (subL l 0 f) ∧ (subL l 0 f).length = 2 ∧ (snB (subL l 0 f) now K).length = 2 ∧ (∀ y ∈ snB (subL l 0 f) now K, y.ef = f) ∧ Two (itB (subL l 0 f) K) := by
  obtain ⟨hl, hi⟩ := h
  obtain ⟨a, b, rfl⟩ : ∃ a b, l = [a, b] := by
    rcases l with _ | ⟨a, _ | ⟨b, _ | ⟨c, l⟩⟩⟩
    · simp at hl
    · simp at hl
    · exact ⟨a, b, rfl⟩
    · simp at hl
  have ha := hi a (by simp)
  have hb := hi b (by simp)
  have e1 : (([a, b] : List Cl).getD 0 zCl) = a := rfl
  have hsub : a.subC f = a.give f := by unfold Cl.subC; rw [if_neg (by rw [hf]; decide), if_neg (by rw [ha.2]; decide)]
  have hE : a.subE f = 0 := by unfold Cl.subE; rw [if_neg (by rw [hf]; decide), if_neg (by rw [ha.2]; decide)]
  have e2 : subL [a, b] 0 f = [a.give f, b] := by
    unfold subL
    rw [e1, hsub]
    rfl
  rw [e1, e2]
  have gi : Idl (a.give f) := ⟨ha.1.ok.give ha.2 hf, ha.1.st, ha.1.tc, ha.1.rc⟩
  have fr : frsOf [a.give f, b] = [f] := by
    unfold frsOf
    rw [List.filterMap_cons, if_pos (show (a.give f).has = true from rfl)]
    rw [List.filterMap_cons, if_neg (by rw [hb.2]; simp)]
    rfl
  have F : Field [a.give f, b] := ⟨fun c hc => by
    simp only [List.mem_cons, List.not_mem_nil, or_false] at hc
    rcases hc with rfl | rfl
    · exact gi
    · exact hb.1, Nat.le_refl _, by rw [fr]; intro x hx; rw [List.mem_singleton.1 hx]; exact hf, by rw [fr]; exact List.pairwise_singleton _ _⟩
  have hw : winB f (a.give f) = true := by
    unfold winB
    rw [show (a.give f).has = true from rfl, show (a.give f).f = f from rfl, decide_eq_true rfl]
    rfl
  have hwb : winB f b = false := by unfold winB; rw [hb.2]; rfl
  have R : Race f [a.give f, b] 0 := ⟨hf, fun c hc => by
    simp only [List.mem_cons, List.not_mem_nil, or_false] at hc
    rcases hc with rfl | rfl
    · exact ⟨gi, fun _ _ => rfl, fun _ q => absurd rfl q⟩
    · exact ⟨hb.1, fun q => by rw [hb.2] at q; (cases q), fun q => by rw [hb.2] at q; (cases q)⟩, Nat.le_refl _, by simp, fun j c hc => by
    match j with
    | 0 => rw [List.getElem?_cons_zero] at hc; obtain rfl := Option.some.inj hc; exact ⟨fun _ => rfl, fun _ => hw⟩
    | 1 => rw [List.getElem?_cons_succ, List.getElem?_cons_zero] at hc; obtain rfl := Option.some.inj hc; rw [hwb]; simp
    | j + 2 => simp at hc⟩
  have A := race_all R now
  have hle : (bitsF f).length + 3 ≤ 160 := by
    have := FP.body_le hf
    have := FP.body_len f
    omega
  obtain ⟨g1, g2, g3, g4, g5⟩ := order_run 1 F (by rw [fr]; rfl) now K (by omega)
  have n4 : ∀ y ∈ snB [a.give f, b] now K, y.kind ≠ 4 := by
    have eK : K = ((bitsF f).length + 3) + (K - ((bitsF f).length + 3)) := by omega
    have e9 := sn_add [a.give f, b] now ((bitsF f).length + 3) (K - ((bitsF f).length + 3))
    rw [← eK] at e9
    rw [e9]
    have fr2 : frsOf (itB [a.give f, b] ((bitsF f).length + 3)) = [] := by
      have := A.fr
      show List.filterMap _ _ = _
      rw [this, List.filterMap_cons, if_neg (by rw [hw]; simp), List.filterMap_cons, if_neg (by rw [hb.2]; simp)]
      rfl
    have calm : ∀ c ∈ itB [a.give f, b] ((bitsF f).length + 3), Idl c ∧ c.has = false := fun c hc => ⟨A.idl c hc, by
      cases e : c.has
      · rfl
      · have := frs_mem hc e
        rw [fr2] at this
        cases this⟩
    rw [(calm_run calm (now + ((bitsF f).length + 3 : Nat)) (K - ((bitsF f).length + 3))).2, List.append_nil]
    exact race_no4_all R (fun c hc hh => by
      simp only [List.mem_cons, List.not_mem_nil, or_false] at hc
      rcases hc with rfl | rfl
      · exact hw
      · rw [hb.2] at hh; cases hh) now
  have hor : orderF [f] = [f] := by
    have h1 := OP.orderF_step (l := [f]) (by simp)
    have h2 := OP.bestTo_lt [f] 1 (by simp)
    have h3 : bestTo [f] ([f] : List Fr).length = 0 := by have := OP.bestTo_lt [f] 1 (by simp); have e : ([f] : List Fr).length = 1 := rfl; rw [e]; omega
    rw [h3] at h1
    rw [h1, OP.atF_lt (by simp)]
    rfl
  rw [fr, hor] at g1
  have T := two_hits (f := f) (s := snB [a.give f, b] now K) (fun y hy => ⟨by
    rcases g3 y hy with q | q | q
    · exact .inl q
    · exact .inr q
    · exact absurd q (n4 y hy), by
    have := sn_who_lt _ _ _ y hy
    have e : ([a.give f, b] : List Cl).length = 2 := rfl
    rw [e] at this
    omega⟩) (g1 0 (by simp)) (g1 1 (by simp))
  refine ⟨hE, fun c hc => (F.idl c hc).ok, rfl, T.1, fun y hy => ?_, ⟨g5, g4⟩⟩
  rcases T.2 y hy with q | q <;> exact List.mem_singleton.1 q
end Go.Proofs.YthkilodnghiocaaGreatDoor
