/- Walks of group.New, com.RightIn, com.NewIn. -/
import Derived.Test.YtnhegnneohpkaaaGreatCmB
import Derived.Test.YtnhegnneohpkaaaGreatSnD
namespace Go.Proofs.YtnhegnneohpkaaaGreat
open Go.ChangeShapes Go.WideShapes Go.ChangeAt Go.RowKit
open CM PD SG

/-- A slice's address, length, room. -/
structure Sl where
  a : Option Addr
  n : Nat
  c : Nat
def Sl.v (s : Sl) : Value := .slice s.a s.n s.c
def Sl.zero : Sl := ⟨none, 0, 0⟩
/-- What New takes over of values. -/
def gnL (l : List Int) : List Int := if mayG l.length = true then l else []
def gnE (l : List Int) : Int := if mayG l.length = true then 0 else 1
def grL (S G : Sl) (times : Int) : List Value := [S.v, G.v, .int .i64 times]

set_option maxRecDepth 100000 in
set_option maxHeartbeats 4000000 in
theorem grNew_any (l : List Int) (A : Option Addr) (c : Nat) (w : World) (hr : InR w w.heap.size A l) (hl : l.length ≤ 1000000) :
    Calls Tryz.prog 19 #[.slice A l.length c] w fun e w' => (∃ S G : Sl, e = .returned (.tuple #[.agg (grL S G 0).toArray, .int .i64 (gnE l)]) ∧ S.n = (gnL l).length ∧ G.n = (gnL l).length ∧ InR w' w'.heap.size S.a (gnL l) ∧ InR w' w'.heap.size G.a (gnL l) ∧ (∀ g off, S.a = some ⟨g, off, none⟩ → w.heap.size ≤ g) ∧ ∀ g off, G.a = some ⟨g, off, none⟩ → w.heap.size ≤ g) ∧ Below w.heap.size w w' := by
  have RM := hide (fun W => rowMay_any A l.length c W)
  have CL := hide (fun (W : World) (hb : Below w.heap.size w W) => cloneI_any l A c W (Rd.next hr hb hb.size) hl)
  have q0 : Below w.heap.size w (w.alloc (.cells #[.slice none 0 0, .slice none 0 0, .int .i64 0] 35)) := (Below.refl _ _).alloc (Nat.le_refl _) _
  have B0 := hide (World.alloc_heap_new w (.cells #[.slice none 0 0, .slice none 0 0, .int .i64 0] 35))
  have Q0 := hide q0
  generalize hw0 : w.alloc (.cells #[.slice none 0 0, .slice none 0 0, .int .i64 0] 35) = w0 at *
  have HL := hide (show gnL l = if mayG l.length = true then l else [] from rfl)
  have HE := hide (show gnE l = if mayG l.length = true then 0 else 1 from rfl)
  obtain ⟨gl, hgl⟩ : ∃ gl, gl = gnL l := ⟨_, rfl⟩
  obtain ⟨E, hE⟩ : ∃ E, E = gnE l := ⟨_, rfl⟩
  rw [← hgl] at HL ⊢
  rw [← hE] at HE ⊢
  have TH := hide (show w0.there w.heap.size 0 3 from there_heap (cs := [_, _, _]) B0.out)
  generalize mayG l.length = y at *
  clear hr hgl hE q0
  go_enter Tryz.func19, Tryz.ntmps19
  cases y with
  | false =>
    have e1 : Hid (gl = []) := hide (by rw [HL.out]; simp)
    have e2 : Hid (E = 1) := hide (by rw [HE.out]; simp)
    clear HL HE CL
    go_wp2_with fail
    (with_reducible refine (RM.out _).mono ?_)
    rintro e3 w1 ⟨rfl, rfl⟩
    go_wp2_with (refine wpList_store_hid (by rfl) 35 (.tmp 2) (.tmp 7) (by rfl) w.heap.size 0 (grL .zero .zero 0) (by rfl) (by rfl) (by exact TH.out) (by kernel_rfl) (by simp [Value.oneCell', grL, Sl.v]) ?_)
    intro w2 e4
    have A2 := hide (show w2.heap[w.heap.size]? = some (.cells (grL .zero .zero 0).toArray 35 (0, 0)) by rw [e4.out]; exact whole_heap (grL .zero .zero 0) (xs := [_, _, _]) B0.out rfl)
    have Q2 := hide (show Below w.heap.size w w2 by rw [e4.out]; exact Q0.out.trans (below_setCells (g := w.heap.size) _ 0 _ (Nat.le_refl _)))
    clear e4 TH B0 Q0 RM
    go_wp2_with fail
    refine bodyPost_ret (results_cell_tmp (by rfl) _ w2 w.heap.size 35 (grL .zero .zero 0).toArray (0, 0) _ (.int .i64 1) (by rfl) (by rfl) A2.out Tryz.underlying35 (by rfl) (by kernel_rfl)) rfl ⟨⟨.zero, .zero, by rw [e2.out], by rw [e1.out]; rfl, by rw [e1.out]; rfl, by rw [e1.out]; exact Rd.nil, by rw [e1.out]; exact Rd.nil, fun g off h => (by cases h), fun g off h => (by cases h)⟩, Q2.out⟩
  | true =>
    have e1 : Hid (gl = l) := hide (by rw [HL.out]; simp)
    have e2 : Hid (E = 0) := hide (by rw [HE.out]; simp)
    have CL1 := hide (CL.out _ Q0.out)
    clear HL HE
    go_wp2_with fail
    (with_reducible refine (RM.out _).mono ?_)
    rintro e3 w1 ⟨rfl, rfl⟩
    go_wp2_with fail
    (with_reducible refine (CL1.out).mono ?_)
    rintro e3 w2 ⟨⟨S, sc, rfl, oS⟩, q2⟩
    have B2 := hide (heap_below B0.out q2)
    have Q2 := hide (below_next Q0.out Q0.out.size q2)
    have OS := hide oS
    have zw0 : w.heap.size < w0.heap.size := heap_lt B0.out
    have zw2 : w.heap.size < w2.heap.size := heap_lt B2.out
    have CL2 := hide (CL.out _ Q2.out)
    clear q2 oS CL CL1 TH B0 Q0 RM
    go_wp2_with fail
    (with_reducible refine (CL2.out).mono ?_)
    rintro e3 w3 ⟨⟨G, gc, rfl, oG⟩, q3⟩
    have B3 := hide (heap_below B2.out q3)
    have Q3 := hide (below_next Q2.out Q2.out.size q3)
    have OS3 := hide (OS.out.grown q3)
    have OG3 := hide oG
    have TH := hide (show w3.there w.heap.size 0 3 from there_heap (cs := [_, _, _]) B3.out)
    have zw : w.heap.size < w3.heap.size := heap_lt B3.out
    clear q3 oG CL2 B2 Q2 OS
    go_wp2_with (refine wpList_store_hid (by rfl) 35 (.tmp 2) (.tmp 12) (by rfl) w.heap.size 0 (grL ⟨S, l.length, sc⟩ ⟨G, l.length, gc⟩ 0) (by rfl) (by rfl) (by exact TH.out) (by kernel_rfl) (by simp [Value.oneCell', grL, Sl.v]) ?_)
    intro w4 e4
    have A4 := hide (show w4.heap[w.heap.size]? = some (.cells (grL ⟨S, l.length, sc⟩ ⟨G, l.length, gc⟩ 0).toArray 35 (0, 0)) by rw [e4.out]; exact whole_heap (grL ⟨S, l.length, sc⟩ ⟨G, l.length, gc⟩ 0) (xs := [_, _, _]) B3.out rfl)
    have Q4 := hide (show Below w.heap.size w w4 by rw [e4.out]; exact Q3.out.trans (below_setCells (g := w.heap.size) _ 0 _ (Nat.le_refl _)))
    have RS4 := hide (show InR w4 w4.heap.size S l from inOwn_rd (by rw [e4.out]; exact own_setCells (x := w.heap.size) zw0 (grL ⟨S, l.length, sc⟩ ⟨G, l.length, gc⟩ 0) 0 w3 OS3.out))
    have RG4 := hide (show InR w4 w4.heap.size G l from inOwn_rd (by rw [e4.out]; exact own_setCells (x := w.heap.size) zw2 (grL ⟨S, l.length, sc⟩ ⟨G, l.length, gc⟩ 0) 0 w3 OG3.out))
    have HBS := hide (own_blk OS3.out)
    have HBG := hide (own_blk OG3.out)
    clear e4 TH B3 Q3 OS3 OG3
    go_wp2_with fail
    refine bodyPost_ret (results_cell_tmp (by rfl) _ w4 w.heap.size 35 (grL ⟨S, l.length, sc⟩ ⟨G, l.length, gc⟩ 0).toArray (0, 0) _ (.int .i64 0) (by rfl) (by rfl) A4.out Tryz.underlying35 (by rfl) (by kernel_rfl)) rfl ⟨⟨_, _, by rw [e2.out], by rw [e1.out], by rw [e1.out], by rw [e1.out]; exact RS4.out, by rw [e1.out]; exact RG4.out, fun g off h => Nat.le_trans (Nat.le_of_lt zw0) (HBS.out g off h), fun g off h => Nat.le_trans (Nat.le_of_lt zw2) (HBG.out g off h)⟩, Q4.out⟩

/-- A layout with its slices. -/
structure Lv where
  L : Ly
  A : Option Addr
  c : Nat
  B : Option Addr
  d : Nat
def Lv.cs (l : Lv) : List Value := [.int .i64 l.L.size, .slice l.A l.L.sgs.length l.c, .slice l.B l.L.nws.length l.d]
structure Lv.Ok (l : Lv) (w : World) : Prop where
  a : SgR w w.heap.size l.A l.L.sgs
  b : InR w w.heap.size l.B l.L.nws
  s : l.L.sgs.length ≤ 1000
  n : l.L.nws.length ≤ 1000
  c : l.L.sgs.length ≤ l.c
  d : l.L.nws.length ≤ l.d
theorem Lv.Ok.next {l : Lv} {w w' : World} (h : l.Ok w) (q : Below w.heap.size w w') : l.Ok w' := ⟨Rd.next h.a q q.size, Rd.next h.b q q.size, h.s, h.n, h.c, h.d⟩
/-- Values with their slice. -/
structure Iv where
  l : List Int
  a : Option Addr
  c : Nat
def Iv.v (i : Iv) : Value := .slice i.a i.l.length i.c
structure Iv.Ok (i : Iv) (w : World) : Prop where
  r : InR w w.heap.size i.a i.l
  m : ∀ v ∈ i.l, lim v
  n : i.l.length ≤ 1000
theorem Iv.Ok.next {i : Iv} {w w' : World} (h : i.Ok w) (q : Below w.heap.size w w') : i.Ok w' := ⟨Rd.next h.r q q.size, h.m, h.n⟩
def Iv.zero : Iv := ⟨[], none, 0⟩
theorem Iv.zero_ok (w : World) : Iv.zero.Ok w := ⟨Rd.nil, fun _ h => (by cases h), by simp [Iv.zero]⟩
/-- Filters with their slice. -/
structure Fv where
  l : List Flt
  a : Option Addr
  c : Nat
def Fv.v (i : Fv) : Value := .slice i.a i.l.length i.c
structure Fv.Ok (i : Fv) (w : World) : Prop where
  r : FlR w w.heap.size i.a i.l
  n : i.l.length ≤ 1000
theorem Fv.Ok.next {i : Fv} {w w' : World} (h : i.Ok w) (q : Below w.heap.size w w') : i.Ok w' := ⟨Rd.next h.r q q.size, h.n⟩
def Fv.zero : Fv := ⟨[], none, 0⟩
theorem Fv.zero_ok (w : World) : Fv.zero.Ok w := ⟨Rd.nil, by simp [Fv.zero]⟩
def Lv.zero : Lv := ⟨⟨0, [], []⟩, none, 0, none, 0⟩
theorem Lv.zero_ok (w : World) : Lv.zero.Ok w := ⟨Rd.nil, Rd.nil, by simp [Lv.zero], by simp [Lv.zero], by simp [Lv.zero], by simp [Lv.zero]⟩

/-- Bytes that come. -/
structure Inn where
  ly : Lv
  fl : Fv
  S : Iv
  G : Iv
  times : Int
  subs : Iv
  w : Wt
def Inn.cs (i : Inn) : List Value := [.int .i64 i.ly.L.size, .slice i.ly.A i.ly.L.sgs.length i.ly.c, .slice i.ly.B i.ly.L.nws.length i.ly.d, i.fl.v, i.S.v, i.G.v, .int .i64 i.times, i.subs.v, .int .i64 i.w.first, .int .i64 i.w.each, .int .i64 i.w.left, .bool i.w.on, .bool i.w.late]
structure Inn.Ok (i : Inn) (w : World) : Prop where
  ly : i.ly.Ok w
  fl : i.fl.Ok w
  S : i.S.Ok w
  G : i.G.Ok w
  subs : i.subs.Ok w
theorem Inn.Ok.next {i : Inn} {w w' : World} (h : i.Ok w) (q : Below w.heap.size w w') : i.Ok w' := ⟨h.ly.next q, h.fl.next q, h.S.next q, h.G.next q, h.subs.next q⟩
def Inn.zero : Inn := ⟨.zero, .zero, .zero, .zero, 0, .zero, zWt⟩
theorem Inn.zero_ok (w : World) : Inn.zero.Ok w := ⟨Lv.zero_ok w, Fv.zero_ok w, Iv.zero_ok w, Iv.zero_ok w, Iv.zero_ok w⟩
def Inn.right (i : Inn) : Bool := comB i.ly.L i.fl.l i.S.l i.G.l i.times && (fitA i.ly.L i.subs.l && wtB i.w)
theorem in_cells {W : World} {B : Nat} {i : Inn} {t : TypeId} {fz : Nat × Nat} (h : W.heap[B]? = some (.cells i.cs.toArray t fz)) :
    W.cell? ⟨B, 0, none⟩ = some (.int .i64 i.ly.L.size) ∧ W.cell? ⟨B, 1, none⟩ = some (.slice i.ly.A i.ly.L.sgs.length i.ly.c) ∧ W.cell? ⟨B, 2, none⟩ = some (.slice i.ly.B i.ly.L.nws.length i.ly.d) ∧ W.cell? ⟨B, 3, none⟩ = some i.fl.v ∧ W.cell? ⟨B, 4, none⟩ = some i.S.v ∧ W.cell? ⟨B, 5, none⟩ = some i.G.v ∧ W.cell? ⟨B, 6, none⟩ = some (.int .i64 i.times) ∧ W.cell? ⟨B, 7, none⟩ = some i.subs.v ∧
    W.cell? ⟨B, 8, none⟩ = some (.int .i64 i.w.first) ∧ W.cell? ⟨B, 9, none⟩ = some (.int .i64 i.w.each) ∧ W.cell? ⟨B, 10, none⟩ = some (.int .i64 i.w.left) ∧ W.cell? ⟨B, 11, none⟩ = some (.bool i.w.on) ∧ W.cell? ⟨B, 12, none⟩ = some (.bool i.w.late) := by
  simp [World.cell?, h, Inn.cs]

set_option maxRecDepth 100000 in
set_option maxHeartbeats 8000000 in
theorem rightIn_any (i : Inn) (w : World) (ho : i.Ok w) : Calls Tryz.prog 23 #[.agg i.cs.toArray] w fun e w' => e = .returned (.bool i.right) ∧ Below w.heap.size w w' := by
  obtain ⟨r, hr⟩ : ∃ r, r = i.right := ⟨_, rfl⟩
  rw [← hr]
  unfold Inn.right at hr
  have HR := hide hr
  clear hr
  have q0 : Below w.heap.size w (w.alloc (.cells i.cs.toArray 47)) := (Below.refl _ _).alloc (Nat.le_refl _) _
  have B0 := hide (World.alloc_heap_new w (.cells i.cs.toArray 47))
  have CM := hide (fun (W : World) (hb : Below w.heap.size w W) => have o := ho.next hb; common_any i.ly.L i.ly.A i.ly.c i.ly.B i.ly.d i.fl.l i.fl.a i.fl.c i.S.l i.G.l i.S.a i.S.c i.G.a i.G.c i.times W o.ly.a o.ly.b o.ly.s o.ly.n o.ly.c o.ly.d o.fl.r o.fl.n o.S.r o.G.r o.S.m o.G.m)
  have FT := hide (fun (W : World) (hb : Below w.heap.size w W) (hr : rightB i.ly.L = true) => have o := ho.next hb; fit_any i.ly.L i.ly.A i.ly.c i.ly.B i.ly.d i.subs.l i.subs.a i.subs.c W o.ly.a o.subs.r o.subs.m hr)
  have WR := hide (fun W => recvRight_any i.w W)
  have CR := hide (show comB i.ly.L i.fl.l i.S.l i.G.l i.times = true → rightB i.ly.L = true from fun h => by unfold comB at h; simp only [Bool.and_eq_true] at h; exact h.1)
  unfold lyV grV at *
  generalize comB i.ly.L i.fl.l i.S.l i.G.l i.times = cb at *
  generalize fitA i.ly.L i.subs.l = fb at *
  generalize wtB i.w = wb at *
  have Q0 := hide q0
  clear ho q0
  generalize hw0 : w.alloc (.cells i.cs.toArray 47) = w0 at *
  obtain ⟨c0, c1, c2, c3, c4, c5, c6, c7, c8, c9, c10, c11, c12⟩ := in_cells B0.out
  unfold Fv.v at c3
  unfold Iv.v at c4 c5 c7
  go_enter Tryz.func23, Tryz.ntmps23
  go_wp2_with fail
  (with_reducible refine (CM.out _ Q0.out).mono ?_)
  rintro e1 w1 ⟨rfl, q1⟩
  have B1 := hide (heap_below B0.out q1)
  have Q1 := hide (below_next Q0.out Q0.out.size q1)
  clear q1 B0 Q0 hw0 CM c0 c1 c2 c3 c4 c5 c6 c7 c8 c9 c10 c11 c12
  cases cb with
  | false =>
    have E := hide (show r = false by rw [HR.out]; rfl)
    clear HR FT WR
    go_wp2_with fail
    go_ret
    exact ⟨by rw [E.out]; rfl, Q1.out⟩
  | true =>
  obtain ⟨c0, c1, c2, c3, c4, c5, c6, c7, c8, c9, c10, c11, c12⟩ := in_cells B1.out
  unfold Iv.v at c7
  clear c3 c4 c5 c6 c8 c9 c10 c11 c12
  have FT1 := hide (FT.out _ Q1.out (CR.out rfl))
  go_wp2_with fail
  (with_reducible refine (FT1.out).mono ?_)
  rintro e2 w2 ⟨rfl, q2⟩
  have B2 := hide (heap_below B1.out q2)
  have Q2 := hide (below_next Q1.out Q1.out.size q2)
  clear q2 B1 Q1 FT FT1 CR c0 c1 c2 c7
  cases fb with
  | false =>
    have E := hide (show r = false by rw [HR.out]; rfl)
    clear HR WR
    go_wp2_with fail
    go_ret
    exact ⟨by rw [E.out]; rfl, Q2.out⟩
  | true =>
  have E := hide (show r = wb by rw [HR.out]; rfl)
  obtain ⟨c0, c1, c2, c3, c4, c5, c6, c7, c8, c9, c10, c11, c12⟩ := in_cells B2.out
  clear HR c0 c1 c2 c3 c4 c5 c6 c7
  go_wp2_with fail
  (with_reducible refine (WR.out _).mono ?_)
  rintro e3 w3 ⟨rfl, q3⟩
  have Q3 := hide (below_next Q2.out Q2.out.size q3)
  clear q3 B2 Q2 WR c8 c9 c10 c11 c12
  go_wp2_with fail
  go_ret
  exact ⟨by rw [E.out]; rfl, Q3.out⟩
end Go.Proofs.YtnhegnneohpkaaaGreat

/- The walk of com.NewIn. -/
namespace Go.Proofs.YtnhegnneohpkaaaGreat
open Go.ChangeShapes Go.WideShapes Go.ChangeAt Go.RowKit
open CM PD SG

def newInB (ly : Lv) (fl : Fv) (first subs : List Int) (w : Wt) : Bool := comB ly.L fl.l (gnL first) (gnL first) 0 && (fitA ly.L subs && wtB w)
/-- What NewIn answers. -/
def NinV (ly : Lv) (fl : Fv) (first : List Int) (subs : Iv) (w : Wt) (V : Inn) (E : Int) : Prop :=
  (newInB ly fl first subs.l w = true ∧ E = 0 ∧ V.ly = ly ∧ V.fl = fl ∧ V.S.l = gnL first ∧ V.G.l = gnL first ∧ V.times = 0 ∧ V.subs = subs ∧ V.w = w) ∨ (newInB ly fl first subs.l w = false ∧ E = 1 ∧ V = .zero)
theorem wt_cells {W : World} {B : Nat} {f : Wt} {t : TypeId} {fz : Nat × Nat} (h : W.heap[B]? = some (.cells (wtcL f).toArray t fz)) :
    W.cell? ⟨B, 0, none⟩ = some (.int .i64 f.first) ∧ W.cell? ⟨B, 1, none⟩ = some (.int .i64 f.each) ∧ W.cell? ⟨B, 2, none⟩ = some (.int .i64 f.left) ∧ W.cell? ⟨B, 3, none⟩ = some (.bool f.on) ∧ W.cell? ⟨B, 4, none⟩ = some (.bool f.late) := by
  simp [World.cell?, h, wtcL]
theorem gnL_lim {l : List Int} (h : ∀ v ∈ l, lim v) : ∀ v ∈ gnL l, lim v := by
  unfold gnL
  split
  · exact h
  · intro v hv; cases hv
theorem gnL_len {l : List Int} (h : l.length ≤ 1000) : (gnL l).length ≤ 1000 := by
  unfold gnL
  split
  · exact h
  · simp
/-- The rows made anew lie behind B. -/
structure Inn.New (i : Inn) (B : Nat) : Prop where
  S : ∀ g off, i.S.a = some ⟨g, off, none⟩ → B ≤ g
  G : ∀ g off, i.G.a = some ⟨g, off, none⟩ → B ≤ g
theorem Inn.zero_new (B : Nat) : Inn.zero.New B := ⟨fun _ _ h => by simp [Inn.zero, Iv.zero] at h, fun _ _ h => by simp [Inn.zero, Iv.zero] at h⟩
def zIn : List Value := Inn.zero.cs
/-- A row that lies behind a block that is written stands. -/
theorem rd_behind {w w' : World} {A : Option Addr} {sz B b o : Nat} {R : List (List Value)} {vs : List Value} (h : Rd w w.heap.size A sz R) (hb : ∀ g off, A = some ⟨g, off, none⟩ → B ≤ g) (hB : b < B) (e : w' = w.setCells b o vs) : Rd w' w'.heap.size A sz R :=
  rd_far h hb (by rw [e, setCells_size]; omega) (fun g j h1 _ => by rw [e]; exact setCells_far (by omega))

set_option maxRecDepth 100000 in
set_option maxHeartbeats 8000000 in
theorem newIn_any (ly : Lv) (fl : Fv) (first subs : Iv) (wt : Wt) (w : World) (hly : ly.Ok w) (hfl : fl.Ok w) (hfi : first.Ok w) (hsu : subs.Ok w) :
    Calls Tryz.prog 6 #[.agg ly.cs.toArray, first.v, subs.v, fl.v, .agg (wtcL wt).toArray] w fun e w' => (∃ V E, e = .returned (.tuple #[.agg V.cs.toArray, .int .i64 E]) ∧ V.Ok w' ∧ V.New w.heap.size ∧ NinV ly fl first.l subs wt V E) ∧ Below w.heap.size w w' := by
  have GN := hide (fun (W : World) (hb : Below w.heap.size w W) => have o := hfi.next hb; grNew_any first.l first.a first.c W o.r (by have := hfi.n; omega))
  have RI := hide (fun (i : Inn) (W : World) (ho : i.Ok W) => rightIn_any i W ho)
  have HLY := hide hly
  have HFL := hide hfl
  have HFI := hide hfi
  have HSU := hide hsu
  obtain ⟨w0, hw0⟩ : ∃ w0, w0 = ((w.alloc (.cells ly.cs.toArray 27)).alloc (.cells (wtcL wt).toArray 45)).alloc (.cells zIn.toArray 47) := ⟨_, rfl⟩
  have a1 := (Below.refl _ _).alloc (Nat.le_refl w.heap.size) (.cells ly.cs.toArray 27)
  have b1 := World.alloc_heap_new w (.cells ly.cs.toArray 27)
  have z1 : (w.alloc (.cells ly.cs.toArray 27)).heap.size = w.heap.size + 1 := by simp
  have a2 := (Below.refl _ (w.alloc (.cells ly.cs.toArray 27))).alloc (Nat.le_refl _) (.cells (wtcL wt).toArray 45)
  have b2 := World.alloc_heap_new (w.alloc (.cells ly.cs.toArray 27)) (.cells (wtcL wt).toArray 45)
  have z2 : ((w.alloc (.cells ly.cs.toArray 27)).alloc (.cells (wtcL wt).toArray 45)).heap.size = w.heap.size + 1 + 1 := by simp
  have a3 := (Below.refl _ ((w.alloc (.cells ly.cs.toArray 27)).alloc (.cells (wtcL wt).toArray 45))).alloc (Nat.le_refl _) (.cells zIn.toArray 47)
  have b3 := World.alloc_heap_new ((w.alloc (.cells ly.cs.toArray 27)).alloc (.cells (wtcL wt).toArray 45)) (.cells zIn.toArray 47)
  have B1 := hide (heap_below (heap_below b1 a2) a3)
  have B2 := hide (heap_below b2 a3)
  have B3 := hide b3
  have Q0 := hide (below_next (below_next a1 a1.size a2) (below_next a1 a1.size a2).size a3)
  rw [← hw0] at B1 B2 B3 Q0
  rw [z1] at B2
  rw [z2] at B3
  have GN0 := hide (GN.out _ Q0.out)
  clear a1 a2 a3 b1 b2 b3 z1 z2 hly hfl hfi hsu GN
  unfold Iv.v Fv.v
  go_enter Tryz.func6, Tryz.ntmps6
  go_upto_region 1 with fail
  change Code.wp _ _ _ _ (((w.alloc (.cells ly.cs.toArray 27)).alloc (.cells (wtcL wt).toArray 45)).alloc (.cells zIn.toArray 47))
  rw [← hw0]
  clear hw0
  go_wp2_with fail
  (with_reducible refine (GN0.out).mono ?_)
  rintro e1 w1 ⟨⟨⟨Sa, Sn, Sc⟩, ⟨Ga, Gn, Gc⟩, rfl, hSn, hGn, rS, rG, bS, bG⟩, q1⟩
  dsimp only at hSn hGn rS rG bS bG
  have z0 : w.heap.size + 1 + 1 < w0.heap.size := heap_lt B3.out
  have BS := hide bS
  have BG := hide bG
  clear bS bG
  subst hSn hGn
  have C1 := hide (heap_below B1.out q1)
  have C2 := hide (heap_below B2.out q1)
  have C3 := hide (heap_below B3.out q1)
  have Q1 := hide (below_next Q0.out Q0.out.size q1)
  have RS := hide rS
  have RG := hide rG
  clear q1 B1 B2 B3 Q0 GN0 rS rG
  have q2 : Below w1.heap.size w1 (w1.alloc (.cells #[.slice none 0 0, .slice none 0 0, .int .i64 0] 35)) := (Below.refl _ _).alloc (Nat.le_refl _) _
  have g2 := World.alloc_heap_new w1 (.cells #[.slice none 0 0, .slice none 0 0, .int .i64 0] 35)
  have TH := hide (show (w1.alloc (.cells #[.slice none 0 0, .slice none 0 0, .int .i64 0] 35)).there w1.heap.size 0 3 from there_heap (cs := [_, _, _]) g2)
  go_wp2_with (refine wpList_store_hid (by rfl) 35 (.tmp 12) (.tmp 18) (by rfl) w1.heap.size 0 (grL ⟨Sa, (gnL first.l).length, Sc⟩ ⟨Ga, (gnL first.l).length, Gc⟩ 0) (by rfl) (by rfl) (by exact TH.out) (by kernel_rfl) (by simp [Value.oneCell', grL, Sl.v]) ?_)
  intro w2 e2
  have hz := q2.size
  have z3 : w.heap.size + 1 + 1 < w1.heap.size := heap_lt C3.out
  have s2 : Below w1.heap.size w1 w2 := by rw [e2.out]; exact q2.trans (below_setCells (g := w1.heap.size) _ 0 _ (Nat.le_refl _))
  have G2 := hide (show w2.heap[w1.heap.size]? = some (.cells (grL ⟨Sa, (gnL first.l).length, Sc⟩ ⟨Ga, (gnL first.l).length, Gc⟩ 0).toArray 35 (0, 0)) by rw [e2.out]; exact whole_heap (grL ⟨Sa, (gnL first.l).length, Sc⟩ ⟨Ga, (gnL first.l).length, Gc⟩ 0) (xs := [_, _, _]) g2 rfl)
  have D1 := hide (heap_below C1.out s2)
  have D2 := hide (heap_below C2.out s2)
  have D3 := hide (heap_below C3.out s2)
  have Q2 := hide (below_next Q1.out Q1.out.size s2)
  have RS2 := hide (Rd.next RS.out s2 s2.size)
  have RG2 := hide (Rd.next RG.out s2 s2.size)
  clear e2 g2 TH q2 hz s2 C1 C2 C3 Q1 RS RG
  generalize w1.heap.size = gb at *
  obtain ⟨c0, c1, c2⟩ := three_cells (show w2.heap[w.heap.size]? = some (.cells #[.int .i64 ly.L.size, .slice ly.A ly.L.sgs.length ly.c, .slice ly.B ly.L.nws.length ly.d] 27 (0, 0)) from D1.out)
  obtain ⟨d0, d1, d2, d3, d4⟩ := wt_cells D2.out
  obtain ⟨g0, g1, g2⟩ := three_cells (show w2.heap[gb]? = some (.cells #[.slice Sa (gnL first.l).length Sc, .slice Ga (gnL first.l).length Gc, .int .i64 0] 35 (0, 0)) from G2.out)
  obtain ⟨I, hI⟩ : ∃ I : Inn, I = ⟨ly, fl, ⟨gnL first.l, Sa, Sc⟩, ⟨gnL first.l, Ga, Gc⟩, 0, subs, wt⟩ := ⟨_, rfl⟩
  have q3 : Below w2.heap.size w2 (w2.alloc (.cells zIn.toArray 47)) := (Below.refl _ _).alloc (Nat.le_refl _) _
  have b3 := World.alloc_heap_new w2 (.cells zIn.toArray 47)
  have TH := hide (show (w2.alloc (.cells zIn.toArray 47)).there w2.heap.size 0 13 from there_heap (cs := zIn) b3)
  have hm := gnL_lim HFI.out.m
  have hn := gnL_len HFI.out.n
  have IO := hide (fun (W : World) (hb : Below w2.heap.size w2 W) => show I.Ok W from by
    have hbw := Q2.out.trans (hb.mono Q2.out.size)
    rw [hI]
    exact ⟨HLY.out.next hbw, HFL.out.next hbw, ⟨Rd.next RS2.out hb hb.size, hm, hn⟩, ⟨Rd.next RG2.out hb hb.size, hm, hn⟩, HSU.out.next hbw⟩)
  clear hm hn
  go_wp2_with (refine wpList_store_hid (by rfl) 47 (.tmp 14) (.tmp 25) (by rfl) w2.heap.size 0 (Inn.cs ⟨ly, fl, ⟨gnL first.l, Sa, Sc⟩, ⟨gnL first.l, Ga, Gc⟩, 0, subs, wt⟩) (by rfl) (by rfl) (by exact TH.out) (by kernel_rfl) (by simp [Value.oneCell', Inn.cs, Iv.v, Fv.v]) ?_)
  rw [← hI]
  intro w3 e3
  have z22 : w.heap.size + 1 + 1 < w2.heap.size := heap_lt D3.out
  have s3 : Below w2.heap.size w2 w3 := by rw [e3.out]; exact q3.trans (below_setCells (g := w2.heap.size) _ 0 _ (Nat.le_refl _))
  have I3 := hide (show w3.heap[w2.heap.size]? = some (.cells I.cs.toArray 47 (0, 0)) by rw [e3.out]; exact whole_heap I.cs (xs := zIn) b3 rfl)
  have E3 := hide (heap_below D3.out s3)
  have Q3 := hide (below_next Q2.out Q2.out.size s3)
  have IO3 := hide (fun (W : World) (hb : Below w3.heap.size w3 W) => IO.out W (below_next s3 s3.size hb))
  have z23 := s3.size
  clear e3 TH b3 q3 s3 IO c0 c1 c2 d0 d1 d2 d3 d4 g0 g1 g2 D1 D2 D3 G2 RS2 RG2 Q2
  generalize w2.heap.size = ib at *
  have RI1 := hide (RI.out I w3 (IO3.out _ (Below.refl _ _)))
  have HB := hide (show I.right = newInB ly fl first.l subs.l wt by rw [hI]; rfl)
  have HI := hide hI
  obtain ⟨y, hy⟩ : ∃ y, y = I.right := ⟨_, rfl⟩
  rw [← hy] at RI1 HB
  clear hy hI RI
  go_wp2_with (refine wpList_load_row rfl 47 (.tmp 14) (by rfl) ib (by rfl) 47 I.cs.toArray (0, 0) _ (by exact I3.out) Tryz.underlying47 (by rfl) (by kernel_rfl) ?_)
  (with_reducible refine (RI1.out).mono ?_)
  rintro e4 w4 ⟨rfl, q4⟩
  have I4 := hide (heap_below I3.out q4)
  have E4 := hide (heap_below E3.out q4)
  have Q4 := hide (below_next Q3.out Q3.out.size q4)
  have IO4 := hide (fun (W : World) (hb : Below w4.heap.size w4 W) => IO3.out W (below_next q4 q4.size hb))
  clear q4 I3 E3 Q3 IO3 RI1
  have TH := hide (show w4.there (w.heap.size + 1 + 1) 0 13 from there_heap (cs := zIn) E4.out)
  cases y with
  | false =>
    go_wp2_with (refine wpList_store_hid (by rfl) 47 (.tmp 10) (.tmp 29) (by rfl) (w.heap.size + 1 + 1) 0 zIn (by rfl) (by rfl) (by exact TH.out) (by kernel_rfl) (by simp [Value.oneCell', zIn, Inn.zero, Inn.cs, Iv.v, Fv.v]) ?_)
    intro w5 e5
    have A5 := hide (show w5.heap[w.heap.size + 1 + 1]? = some (.cells Inn.zero.cs.toArray 47 (0, 0)) by rw [e5.out]; exact whole_heap zIn (xs := zIn) E4.out rfl)
    have Q5 := hide (show Below w.heap.size w w5 by rw [e5.out]; exact Q4.out.trans (below_setCells (g := w.heap.size + 1 + 1) _ 0 _ (by omega)))
    clear e5 TH
    go_wp2_with fail
    refine bodyPost_ret (results_cell_tmp (by rfl) _ w5 (w.heap.size + 1 + 1) 47 Inn.zero.cs.toArray (0, 0) _ (.int .i64 1) (by rfl) (by rfl) A5.out Tryz.underlying47 (by rfl) (by kernel_rfl)) rfl ⟨⟨.zero, 1, rfl, Inn.zero_ok _, Inn.zero_new _, .inr ⟨HB.out.symm, rfl, rfl⟩⟩, Q5.out⟩
  | true =>
    go_wp2_with (first | (refine wpList_load_row rfl 47 (.tmp 14) (by rfl) ib (by rfl) 47 I.cs.toArray (0, 0) _ (by exact I4.out) Tryz.underlying47 (by rfl) (by kernel_rfl) ?_) | (refine wpList_store_hid (by rfl) 47 (.tmp 10) (.tmp 30) (by rfl) (w.heap.size + 1 + 1) 0 I.cs (by rfl) (by rfl) (by exact TH.out) (by kernel_rfl) (by simp [Value.oneCell', Inn.cs, Iv.v, Fv.v]) ?_))
    intro w5 e5
    have A5 := hide (show w5.heap[w.heap.size + 1 + 1]? = some (.cells I.cs.toArray 47 (0, 0)) by rw [e5.out]; exact whole_heap I.cs (xs := zIn) E4.out rfl)
    have Q5 := hide (show Below w.heap.size w w5 by rw [e5.out]; exact Q4.out.trans (below_setCells (g := w.heap.size + 1 + 1) _ 0 _ (by omega)))
    have o4 := IO4.out w4 (Below.refl _ _)
    rw [HI.out] at o4
    have hO := hide (show I.Ok w5 from by
      rw [HI.out]
      exact ⟨HLY.out.next Q5.out, HFL.out.next Q5.out, ⟨rd_behind o4.S.r BS.out z0 e5.out, o4.S.m, o4.S.n⟩, ⟨rd_behind o4.G.r BG.out z0 e5.out, o4.G.m, o4.G.n⟩, HSU.out.next Q5.out⟩)
    have hNW := hide (show I.New w.heap.size from by
      rw [HI.out]
      exact ⟨fun g off h => by have := BS.out g off h; omega, fun g off h => by have := BG.out g off h; omega⟩)
    clear e5 TH o4
    go_wp2_with fail
    refine bodyPost_ret (results_cell_tmp (by rfl) _ w5 (w.heap.size + 1 + 1) 47 I.cs.toArray (0, 0) _ (.int .i64 0) (by rfl) (by rfl) A5.out Tryz.underlying47 (by rfl) (by kernel_rfl)) rfl ⟨⟨I, 0, rfl, hO.out, hNW.out, .inl ⟨HB.out.symm, rfl, by rw [HI.out], by rw [HI.out], by rw [HI.out], by rw [HI.out], by rw [HI.out], by rw [HI.out], by rw [HI.out]⟩⟩, Q5.out⟩
end Go.Proofs.YtnhegnneohpkaaaGreat
