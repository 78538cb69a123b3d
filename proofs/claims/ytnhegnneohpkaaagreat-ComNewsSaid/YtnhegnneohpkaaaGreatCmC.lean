/- Walks of group.New, com.RightIn, com.NewIn. -/
import Derived.Test.YtnhegnneohpkaaaGreatCmB
import Derived.Test.YtnhegnneohpkaaaGreatSnD
namespace Go.Proofs.YtnhegnneohpkaaaGreat
open Go.ChangeShapes Go.WideShapes Go.ChangeAt Go.RowKit
open CM PD SG

/-- A slice's address, length, room. -/
structure Sl where
  a : Option Addr
  n : Nat
  c : Nat
def Sl.v (s : Sl) : Value := .slice s.a s.n s.c
def Sl.zero : Sl := ⟨none, 0, 0⟩
/-- What New takes over of values. -/
def gnL (l : List Int) : List Int := if mayG l.length = true then l else []
def gnE (l : List Int) : Int := if mayG l.length = true then 0 else 1
def grL (S G : Sl) (times : Int) : List Value := [S.v, G.v, .int .i64 times]

set_option maxRecDepth 100000 in
set_option maxHeartbeats 4000000 in
theorem grNew_any (l : List Int) (A : Option Addr) (c : Nat) (w : World) (hr : InR w w.heap.size A l) (hl : l.length ≤ 1000000) :
    Calls Tryz.prog 19 #[.slice A l.length c] w fun e w' => (∃ S G : Sl, e = .returned (.tuple #[.agg (grL S G 0).toArray, .int .i64 (gnE l)]) ∧ S.n = (gnL l).length ∧ G.n = (gnL l).length ∧ InR w' w'.heap.size S.a (gnL l) ∧ InR w' w'.heap.size G.a (gnL l) ∧ (∀ g off, S.a = some ⟨g, off, none⟩ → w.heap.size ≤ g) ∧ ∀ g off, G.a = some ⟨g, off, none⟩ → w.heap.size ≤ g) ∧ Below w.heap.size w w' := by
  have RM := hide (fun W => rowMay_any A l.length c W)
  have CL := hide (fun (W : World) (hb : Below w.heap.size w W) => cloneI_any l A c W (Rd.next hr hb hb.size) hl)
  have q0 : Below w.heap.size w (w.alloc (.cells #[.slice none 0 0, .slice none 0 0, .int .i64 0] 35)) := (Below.refl _ _).alloc (Nat.le_refl _) _
  have B0 := hide (World.alloc_heap_new w (.cells #[.slice none 0 0, .slice none 0 0, .int .i64 0] 35))
  have Q0 := hide q0
  generalize hw0 : w.alloc (.cells #[.slice none 0 0, .slice none 0 0, .int .i64 0] 35) = w0 at *
  have HL := hide (show gnL l = if mayG l.length = true then l else [] from rfl)
  have HE := hide (show gnE l = if mayG l.length = true then 0 else 1 from rfl)
  obtain ⟨gl, hgl⟩ : ∃ gl, gl = gnL l := ⟨_, rfl⟩
  obtain ⟨E, hE⟩ : ∃ E, E = gnE l := ⟨_, rfl⟩
  rw [← hgl] at HL ⊢
  rw [← hE] at HE ⊢
  have TH := hide (show w0.there w.heap.size 0 3 from there_heap (cs := [_, _, _]) B0.out)
  generalize mayG l.length = y at *
  clear hr hgl hE q0
  go_enter Tryz.func19, Tryz.ntmps19
  cases y with
  | false =>
    have e1 : Hid (gl = []) := hide (by rw [HL.out]; simp)
    have e2 : Hid (E = 1) := hide (by rw [HE.out]; simp)
    clear HL HE CL
    go_wp2_with fail
    (with_reducible refine (RM.out _).mono ?_)
    rintro e3 w1 ⟨rfl, rfl⟩
    go_wp2_with (refine wpList_store_hid (by rfl) 35 (.tmp 2) (.tmp 7) (by rfl) w.heap.size 0 (grL .zero .zero 0) (by rfl) (by rfl) (by exact TH.out) (by kernel_rfl) (by simp [Value.oneCell', grL, Sl.v]) ?_)
    intro w2 e4
    have A2 := hide (show w2.heap[w.heap.size]? = some (.cells (grL .zero .zero 0).toArray 35 (0, 0)) by rw [e4.out]; exact whole_heap (grL .zero .zero 0) (xs := [_, _, _]) B0.out rfl)
    have Q2 := hide (show Below w.heap.size w w2 by rw [e4.out]; exact Q0.out.trans (below_setCells (g := w.heap.size) _ 0 _ (Nat.le_refl _)))
    clear e4 TH B0 Q0 RM
    go_wp2_with fail
    refine bodyPost_ret (results_cell_tmp (by rfl) _ w2 w.heap.size 35 (grL .zero .zero 0).toArray (0, 0) _ (.int .i64 1) (by rfl) (by rfl) A2.out Tryz.underlying35 (by rfl) (by kernel_rfl)) rfl ⟨⟨.zero, .zero, by rw [e2.out], by rw [e1.out]; rfl, by rw [e1.out]; rfl, by rw [e1.out]; exact Rd.nil, by rw [e1.out]; exact Rd.nil, fun g off h => (by cases h), fun g off h => (by cases h)⟩, Q2.out⟩
  | true =>
    have e1 : Hid (gl = l) := hide (by rw [HL.out]; simp)
    have e2 : Hid (E = 0) := hide (by rw [HE.out]; simp)
    have CL1 := hide (CL.out _ Q0.out)
    clear HL HE
    go_wp2_with fail
    (with_reducible refine (RM.out _).mono ?_)
    rintro e3 w1 ⟨rfl, rfl⟩
    go_wp2_with fail
    (with_reducible refine (CL1.out).mono ?_)
    rintro e3 w2 ⟨⟨S, sc, rfl, oS⟩, q2⟩
    have B2 := hide (heap_below B0.out q2)
    have Q2 := hide (below_next Q0.out Q0.out.size q2)
    have OS := hide oS
    have zw0 : w.heap.size < w0.heap.size := heap_lt B0.out
    have zw2 : w.heap.size < w2.heap.size := heap_lt B2.out
    have CL2 := hide (CL.out _ Q2.out)
    clear q2 oS CL CL1 TH B0 Q0 RM
    go_wp2_with fail
    (with_reducible refine (CL2.out).mono ?_)
    rintro e3 w3 ⟨⟨G, gc, rfl, oG⟩, q3⟩
    have B3 := hide (heap_below B2.out q3)
    have Q3 := hide (below_next Q2.out Q2.out.size q3)
    have OS3 := hide (OS.out.grown q3)
    have OG3 := hide oG
    have TH := hide (show w3.there w.heap.size 0 3 from there_heap (cs := [_, _, _]) B3.out)
    have zw : w.heap.size < w3.heap.size := heap_lt B3.out
    clear q3 oG CL2 B2 Q2 OS
    go_wp2_with (refine wpList_store_hid (by rfl) 35 (.tmp 2) (.tmp 12) (by rfl) w.heap.size 0 (grL ⟨S, l.length, sc⟩ ⟨G, l.length, gc⟩ 0) (by rfl) (by rfl) (by exact TH.out) (by kernel_rfl) (by simp [Value.oneCell', grL, Sl.v]) ?_)
    intro w4 e4
    have A4 := hide (show w4.heap[w.heap.size]? = some (.cells (grL ⟨S, l.length, sc⟩ ⟨G, l.length, gc⟩ 0).toArray 35 (0, 0)) by rw [e4.out]; exact whole_heap (grL ⟨S, l.length, sc⟩ ⟨G, l.length, gc⟩ 0) (xs := [_, _, _]) B3.out rfl)
    have Q4 := hide (show Below w.heap.size w w4 by rw [e4.out]; exact Q3.out.trans (below_setCells (g := w.heap.size) _ 0 _ (Nat.le_refl _)))
    have RS4 := hide (show InR w4 w4.heap.size S l from inOwn_rd (by rw [e4.out]; exact own_setCells (x := w.heap.size) zw0 (grL ⟨S, l.length, sc⟩ ⟨G, l.length, gc⟩ 0) 0 w3 OS3.out))
    have RG4 := hide (show InR w4 w4.heap.size G l from inOwn_rd (by rw [e4.out]; exact own_setCells (x := w.heap.size) zw2 (grL ⟨S, l.length, sc⟩ ⟨G, l.length, gc⟩ 0) 0 w3 OG3.out))
    have HBS := hide (own_blk OS3.out)
    have HBG := hide (own_blk OG3.out)
    clear e4 TH B3 Q3 OS3 OG3
    go_wp2_with fail
    refine bodyPost_ret (results_cell_tmp (by rfl) _ w4 w.heap.size 35 (grL ⟨S, l.length, sc⟩ ⟨G, l.length, gc⟩ 0).toArray (0, 0) _ (.int .i64 0) (by rfl) (by rfl) A4.out Tryz.underlying35 (by rfl) (by kernel_rfl)) rfl ⟨⟨_, _, by rw [e2.out], by rw [e1.out], by rw [e1.out], by rw [e1.out]; exact RS4.out, by rw [e1.out]; exact RG4.out, fun g off h => Nat.le_trans (Nat.le_of_lt zw0) (HBS.out g off h), fun g off h => Nat.le_trans (Nat.le_of_lt zw2) (HBG.out g off h)⟩, Q4.out⟩

/-- A layout with its slices. -/
structure Lv where
  L : Ly
  A : Option Addr
  c : Nat
  B : Option Addr
  d : Nat
def Lv.cs (l : Lv) : List Value := [.int .i64 l.L.size, .slice l.A l.L.sgs.length l.c, .slice l.B l.L.nws.length l.d]
structure Lv.Ok (l : Lv) (w : World) : Prop where
  a : SgR w w.heap.size l.A l.L.sgs
  b : InR w w.heap.size l.B l.L.nws
  s : l.L.sgs.length ≤ 1000
  n : l.L.nws.length ≤ 1000
  c : l.L.sgs.length ≤ l.c
  d : l.L.nws.length ≤ l.d
theorem Lv.Ok.next {l : Lv} {w w' : World} (h : l.Ok w) (q : Below w.heap.size w w') : l.Ok w' := ⟨Rd.next h.a q q.size, Rd.next h.b q q.size, h.s, h.n, h.c, h.d⟩
/-- Values with their slice. -/
structure Iv where
  l : List Int
  a : Option Addr
  c : Nat
def Iv.v (i : Iv) : Value := .slice i.a i.l.length i.c
structure Iv.Ok (i : Iv) (w : World) : Prop where
  r : InR w w.heap.size i.a i.l
  m : ∀ v ∈ i.l, lim v
  n : i.l.length ≤ 1000
theorem Iv.Ok.next {i : Iv} {w w' : World} (h : i.Ok w) (q : Below w.heap.size w w') : i.Ok w' := ⟨Rd.next h.r q q.size, h.m, h.n⟩
def Iv.zero : Iv := ⟨[], none, 0⟩
theorem Iv.zero_ok (w : World) : Iv.zero.Ok w := ⟨Rd.nil, fun _ h => (by cases h), by simp [Iv.zero]⟩
/-- Filters with their slice. -/
structure Fv where
  l : List Flt
  a : Option Addr
  c : Nat
def Fv.v (i : Fv) : Value := .slice i.a i.l.length i.c
structure Fv.Ok (i : Fv) (w : World) : Prop where
  r : FlR w w.heap.size i.a i.l
  n : i.l.length ≤ 1000
theorem Fv.Ok.next {i : Fv} {w w' : World} (h : i.Ok w) (q : Below w.heap.size w w') : i.Ok w' := ⟨Rd.next h.r q q.size, h.n⟩
def Fv.zero : Fv := ⟨[], none, 0⟩
theorem Fv.zero_ok (w : World) : Fv.zero.Ok w := ⟨Rd.nil, by simp [Fv.zero]⟩
def Lv.zero : Lv := ⟨⟨0, [], []⟩, none, 0, none, 0⟩
theorem Lv.zero_ok (w : World) : Lv.zero.Ok w := ⟨Rd.nil, Rd.nil, by simp [Lv.zero], by simp [Lv.zero], by simp [Lv.zero], by simp [Lv.zero]⟩

/-- Bytes that come. -/
structure Inn where
  ly : Lv
  fl : Fv
  S : Iv
  G : Iv
  times : Int
  subs : Iv
  w : Wt
def Inn.cs (i : Inn) : List Value := [.int .i64 i.ly.L.size, .slice i.ly.A i.ly.L.sgs.length i.ly.c, .slice i.ly.B i.ly.L.nws.length i.ly.d, i.fl.v, i.S.v, i.G.v, .int .i64 i.times, i.subs.v, .int .i64 i.w.first, .int .i64 i.w.each, .int .i64 i.w.left, .bool i.w.on, .bool i.w.late]
structure Inn.Ok (i : Inn) (w : World) : Prop where
  ly : i.ly.Ok w
  fl : i.fl.Ok w
  S : i.S.Ok w
  G : i.G.Ok w
  subs : i.subs.Ok w
theorem Inn.Ok.next {i : Inn} {w w' : World} (h : i.Ok w) (q : Below w.heap.size w w') : i.Ok w' := ⟨h.ly.next q, h.fl.next q, h.S.next q, h.G.next q, h.subs.next q⟩
def Inn.zero : Inn := ⟨.zero, .zero, .zero, .zero, 0, .zero, zWt⟩
theorem Inn.zero_ok (w : World) : Inn.zero.Ok w := ⟨Lv.zero_ok w, Fv.zero_ok w, Iv.zero_ok w, Iv.zero_ok w, Iv.zero_ok w⟩
def Inn.right (i : Inn) : Bool := comB i.ly.L i.fl.l i.S.l i.G.l i.times && (fitA i.ly.L i.subs.l && wtB i.w)
theorem in_cells {W : World} {B : Nat} {i : Inn} {t : TypeId} {fz : Nat × Nat} (h : W.heap[B]? = some (.cells i.cs.toArray t fz)) :
    W.cell? ⟨B, 0, none⟩ = some (.int .i64 i.ly.L.size) ∧ W.cell? ⟨B, 1, none⟩ = some (.slice i.ly.A i.ly.L.sgs.length i.ly.c) ∧ W.cell? ⟨B, 2, none⟩ = some (.slice i.ly.B i.ly.L.nws.length i.ly.d) ∧ W.cell? ⟨B, 3, none⟩ = some i.fl.v ∧ W.cell? ⟨B, 4, none⟩ = some i.S.v ∧ W.cell? ⟨B, 5, none⟩ = some i.G.v ∧ W.cell? ⟨B, 6, none⟩ = some (.int .i64 i.times) ∧ W.cell? ⟨B, 7, none⟩ = some i.subs.v ∧
    W.cell? ⟨B, 8, none⟩ = some (.int .i64 i.w.first) ∧ W.cell? ⟨B, 9, none⟩ = some (.int .i64 i.w.each) ∧ W.cell? ⟨B, 10, none⟩ = some (.int .i64 i.w.left) ∧ W.cell? ⟨B, 11, none⟩ = some (.bool i.w.on) ∧ W.cell? ⟨B, 12, none⟩ = some (.bool i.w.late) := by
  simp [World.cell?, h, Inn.cs]

set_option maxRecDepth 100000 in
set_option maxHeartbeats 8000000 in
theorem rightIn_any (i : Inn) (w : World) (ho : i.Ok w) : Calls Tryz.prog 23 #[.agg i.cs.toArray] w fun e w' => e = .returned (.bool i.right) ∧ Below w.heap.size w w' := by
  obtain ⟨r, hr⟩ : ∃ r, r = i.right := ⟨_, rfl⟩
  rw [← hr]
  unfold Inn.right at hr
  have HR := hide hr
  clear hr
  have q0 : Below w.heap.size w (w.alloc (.cells i.cs.toArray 47)) := (Below.refl _ _).alloc (Nat.le_refl _) _
  have B0 := hide (World.alloc_heap_new w (.cells i.cs.toArray 47))
  have CM := hide (fun (W : World) (hb : Below w.heap.size w W) => have o := ho.next hb; common_any i.ly.L i.ly.A i.ly.c i.ly.B i.ly.d i.fl.l i.fl.a i.fl.c i.S.l i.G.l i.S.a i.S.c i.G.a i.G.c i.times W o.ly.a o.ly.b o.ly.s o.ly.n o.ly.c o.ly.d o.fl.r o.fl.n o.S.r o.G.r o.S.m o.G.m)
  have FT := hide (fun (W : World) (hb : Below w.heap.size w W) (hr : rightB i.ly.L = true) => have o := ho.next hb; fit_any i.ly.L i.ly.A i.ly.c i.ly.B i.ly.d i.subs.l i.subs.a i.subs.c W o.ly.a o.subs.r o.subs.m hr)
  have WR := hide (fun W => recvRight_any i.w W)
  have CR := hide (show comB i.ly.L i.fl.l i.S.l i.G.l i.times = true → rightB i.ly.L = true from fun h => by unfold comB at h; simp only [Bool.and_eq_true] at h; exact h.1)
  unfold lyV grV at *
  generalize comB i.ly.L i.fl.l i.S.l i.G.l i.times = cb at *
  generalize fitA i.ly.L i.subs.l = fb at *
  generalize wtB i.w = wb at *
  have Q0 := hide q0
  clear ho q0
  generalize hw0 : w.alloc (.cells i.cs.toArray 47) = w0 at *
  obtain ⟨c0, c1, c2, c3, c4, c5, c6, c7, c8, c9, c10, c11, c12⟩ := in_cells B0.out
  unfold Fv.v at c3
  unfold Iv.v at c4 c5 c7
  go_enter Tryz.func23, Tryz.ntmps23
  go_wp2_with fail
  (with_reducible refine (CM.out _ Q0.out).mono ?_)
  rintro e1 w1 ⟨rfl, q1⟩
  have B1 := hide (heap_below B0.out q1)
  have Q1 := hide (below_next Q0.out Q0.out.size q1)
  clear q1 B0 Q0 hw0 CM c0 c1 c2 c3 c4 c5 c6 c7 c8 c9 c10 c11 c12
  cases cb with
  | false =>
    have E := hide (show r = false by rw [HR.out]; rfl)
    clear HR FT WR
    go_wp2_with fail
    go_ret
    exact ⟨by rw [E.out]; rfl, Q1.out⟩
  | true =>
  obtain ⟨c0, c1, c2, c3, c4, c5, c6, c7, c8, c9, c10, c11, c12⟩ := in_cells B1.out
  unfold Iv.v at c7
  clear c3 c4 c5 c6 c8 c9 c10 c11 c12
  have FT1 := hide (FT.out _ Q1.out (CR.out rfl))
  go_wp2_with fail
  (with_reducible refine (FT1.out).mono ?_)
  rintro e2 w2 ⟨rfl, q2⟩
  have B2 := hide (heap_below B1.out q2)
  have Q2 := hide (below_next Q1.out Q1.out.size q2)
  clear q2 B1 Q1 FT FT1 CR c0 c1 c2 c7
  cases fb with
  | false =>
    have E := hide (show r = false by rw [HR.out]; rfl)
    clear HR WR
    go_wp2_with fail
    go_ret
    exact ⟨by rw [E.out]; rfl, Q2.out⟩
  | true =>
  have E := hide (show r = wb by rw [HR.out]; rfl)
  obtain ⟨c0, c1, c2, c3, c4, c5, c6, c7, c8, c9, c10, c11, c12⟩ := in_cells B2.out
  clear HR c0 c1 c2 c3 c4 c5 c6 c7
  go_wp2_with fail
  (with_reducible refine (WR.out _).mono ?_)
  rintro e3 w3 ⟨rfl, q3⟩
  have Q3 := hide (below_next Q2.out Q2.out.size q3)
  clear q3 B2 Q2 WR c8 c9 c10 c11 c12
  go_wp2_with fail
  go_ret
  exact ⟨by rw [E.out]; rfl, Q3.out⟩
end Go.Proofs.YtnhegnneohpkaaaGreat
