import Derived.Test.YtkmddjbialpppaaGreatDoorMgCmD
import Derived.Test.YtkmddjbialpppaaGreatDoorCmF
import Derived.Test.YtkmddjbialpppaaGreatDoorMgPdG
namespace Go.Proofs.YtkmddjbialpppaaGreatDoor
open Go.ChangeShapes Go.WideShapes Go.ChangeAt Go.RowKit
open CM PD SG
structure Pd where
  id : Int
  frm : Int
  dst : Int
  ly : Lv
  fill : Int
  S : Iv
  subs : Iv
  fl : Fv
  yes : Wy
  no : Wy
  delay : Int
  limit : Int
def Pd.cs (p : Pd) : List Value := [.int .u32 p.id, .int .i64 p.frm, .int .i64 p.dst, .int .i64 p.ly.L.size, .slice p.ly.A p.ly.L.sgs.length p.ly.c, .slice p.ly.B p.ly.L.nws.length p.ly.d, .int .u8 p.fill, p.S.v, p.subs.v, p.fl.v, .int .i64 p.yes.kind, .int .i64 p.yes.first, .int .i64 p.yes.period, .int .i64 p.yes.reps, .int .i64 p.yes.gap, .int .i64 p.no.kind, .int .i64 p.no.first, .int .i64 p.no.period, .int .i64 p.no.reps, .int .i64 p.no.gap, .int .i64 p.delay, .int .i64 p.limit]
structure Pd.Ok (p : Pd) (w : World) : Prop where
  ly : p.ly.Ok w
  S : p.S.Ok w
  subs : p.subs.Ok w
  fl : p.fl.Ok w
  id : 0 ≤ p.id ∧ p.id < 4294967296
  frm : lim p.frm
  dst : lim p.dst
  limit : lim p.limit
theorem Pd.Ok.next {o : Pd} {w w' : World} (h : o.Ok w) (q : Below w.heap.size w w') : o.Ok w' := ⟨h.ly.next q, h.S.next q, h.subs.next q, h.fl.next q, h.id, h.frm, h.dst, h.limit⟩
theorem dQ {W : World} {B : Nat} {p : Pd} {t : TypeId} {fz : Nat × Nat} (h : W.heap[B]? = some (.cells p.cs.toArray t fz)) :
    (W.cell? ⟨B, 0, none⟩ = some (.int .u32 p.id) ∧ W.cell? ⟨B, 1, none⟩ = some (.int .i64 p.frm) ∧ W.cell? ⟨B, 2, none⟩ = some (.int .i64 p.dst) ∧ W.cell? ⟨B, 3, none⟩ = some (.int .i64 p.ly.L.size) ∧ W.cell? ⟨B, 4, none⟩ = some (.slice p.ly.A p.ly.L.sgs.length p.ly.c) ∧ W.cell? ⟨B, 5, none⟩ = some (.slice p.ly.B p.ly.L.nws.length p.ly.d) ∧ W.cell? ⟨B, 6, none⟩ = some (.int .u8 p.fill) ∧ W.cell? ⟨B, 7, none⟩ = some (.slice p.S.a p.S.l.length p.S.c) ∧ W.cell? ⟨B, 8, none⟩ = some (.slice p.subs.a p.subs.l.length p.subs.c) ∧ W.cell? ⟨B, 9, none⟩ = some (.slice p.fl.a p.fl.l.length p.fl.c)) ∧
    W.cell? ⟨B, 10, none⟩ = some (.int .i64 p.yes.kind) ∧ W.cell? ⟨B, 11, none⟩ = some (.int .i64 p.yes.first) ∧ W.cell? ⟨B, 12, none⟩ = some (.int .i64 p.yes.period) ∧ W.cell? ⟨B, 13, none⟩ = some (.int .i64 p.yes.reps) ∧ W.cell? ⟨B, 14, none⟩ = some (.int .i64 p.yes.gap) ∧
    W.cell? ⟨B, 15, none⟩ = some (.int .i64 p.no.kind) ∧ W.cell? ⟨B, 16, none⟩ = some (.int .i64 p.no.first) ∧ W.cell? ⟨B, 17, none⟩ = some (.int .i64 p.no.period) ∧ W.cell? ⟨B, 18, none⟩ = some (.int .i64 p.no.reps) ∧ W.cell? ⟨B, 19, none⟩ = some (.int .i64 p.no.gap) ∧
    W.cell? ⟨B, 20, none⟩ = some (.int .i64 p.delay) ∧ W.cell? ⟨B, 21, none⟩ = some (.int .i64 p.limit) := by
  simp [World.cell?, h, Pd.cs, Iv.v, Fv.v]
theorem conf_within_any (n a b : Int) (w : World) : Calls Tryz.prog 67 #[.int .i64 n, .int .i64 a, .int .i64 b] w fun e w' => e = .returned (.bool (decide (a ≤ n ∧ n ≤ b))) ∧ w' = w := by
  obtain ⟨r, hr⟩ : ∃ r, r = decide (a ≤ n ∧ n ≤ b) := ⟨_, rfl⟩
  rw [← hr]
  have HR := aA (show r = true ↔ (a ≤ n ∧ n ≤ b) by rw [hr]; simp)
  clear hr
  go_enter Tryz.func67, Tryz.ntmps67
  go_wp2_with fail
  all_goals go_ret
  all_goals refine ⟨aV ?_, rfl⟩
  all_goals (first | exact cA HR.out (by omega) | exact bI HR.out (by omega) | exact dV HR.out (by omega))
set_option maxRecDepth 100000 in
set_option maxHeartbeats 16000000 in
theorem i9 (p : Pd) (w : World) (ho : p.Ok w) : Calls Tryz.prog 68 #[.agg p.cs.toArray] w fun e w' => (∃ V E, e = .returned (.tuple #[.agg V.cs.toArray, .int .i64 E]) ∧ V.Ok w' ∧ V.New w.heap.size ∧ NouV p.ly p.fill p.fl p.S.l p.yes p.no p.delay V E) ∧ Below w.heap.size w w' := by
  obtain ⟨w0, hw0⟩ : ∃ w0, w0 = (w.alloc (.cells p.cs.toArray 79)).alloc (.cells zOu.toArray 77) := ⟨_, rfl⟩
  have step : ∀ (W : World) (o : Obj), Below W.heap.size W (W.alloc o) := fun W o => (Below.refl _ _).alloc (Nat.le_refl _) _
  have B1 := aA (aB (World.alloc_heap_new w (.cells p.cs.toArray 79)) (step _ (.cells zOu.toArray 77)))
  have B2 := aA (World.alloc_heap_new (w.alloc (.cells p.cs.toArray 79)) (.cells zOu.toArray 77))
  have Q0 : Hid (Below w.heap.size w w0) := by rw [hw0]; exact aA ((step _ _).alloc (by simp) _)
  rw [← hw0] at B1 B2
  simp only [World.size_alloc] at B2
  have z0 : w.heap.size + 1 < w0.heap.size := aH B2.out
  have o0 := ho.next Q0.out
  have NO := newOut_any p.ly p.fill p.S p.fl p.yes p.no p.delay w0 o0.ly o0.fl o0.S
  unfold Lv.cs eA Iv.v Fv.v at NO
  replace NO := aA NO
  clear step o0
  obtain ⟨⟨c0, c1, c2, c3, c4, c5, c6, c7, c8, c9⟩, d0, d1, d2, d3, d4, d5, d6, d7, d8, d9, d10, d11⟩ := dQ B1.out
  go_enter Tryz.func68, Tryz.ntmps68
  go_upto_region 1 with fail
  change Code.wp _ _ _ _ ((w.alloc (.cells p.cs.toArray 79)).alloc (.cells zOu.toArray 77))
  rw [← hw0]
  clear hw0
  go_wp2_with fail
  (with_reducible refine (NO.out).mono ?_)
  rintro e1 w1 ⟨⟨V, E, rfl, hV, hN, hD⟩, q1⟩
  have C2 := aA (aB B2.out q1)
  have Q1 := aA (aC Q0.out Q0.out.size q1)
  have HV := aA hV
  have HN := aA hN
  have HD := aA hD
  clear q1 B1 B2 Q0 NO hV hN hD c0 c1 c2 c3 c4 c5 c6 c7 c8 c9 d0 d1 d2 d3 d4 d5 d6 d7 d8 d9 d10 d11
  have TH := aA (show w1.there (w.heap.size + 1) 0 26 from aK (cs := zOu) C2.out)
  have z1 : w.heap.size + 1 < w1.heap.size := aH C2.out
  go_wp2_with (refine aF (by rfl) 77 (.tmp 2) (.tmp 19) (by rfl) (w.heap.size + 1) 0 V.cs (by rfl) (by rfl) (by exact TH.out) (by kernel_rfl) (by simp [Value.oneCell', Ou.cs, Iv.v, Fv.v, Bv.v]) ?_)
  intro w9 e9
  have A9 := aA (show w9.heap[w.heap.size + 1]? = some (.cells V.cs.toArray 77 (0, 0)) by rw [e9.out]; exact aJ V.cs (xs := zOu) C2.out rfl)
  have Q9 := aA (show Below w.heap.size w w9 by rw [e9.out]; exact Q1.out.trans (aE (g := w.heap.size + 1) _ 0 _ (by omega)))
  have hO := aA (show V.Ok w9 from by
    have hly : V.ly.Ok w9 ∧ V.fl.Ok w9 := by
      rcases HD.out with ⟨_, _, h1, _, h2, _⟩ | ⟨_, _, h⟩
      · rw [h1, h2]; exact ⟨(ho.ly.next Q9.out), (ho.fl.next Q9.out)⟩
      · rw [h]; exact ⟨(Ou.zero_ok _).ly, (Ou.zero_ok _).fl⟩
    exact ⟨hly.1, hly.2, ⟨cH HV.out.S.r HN.out.S z0 e9.out, HV.out.S.m, HV.out.S.n⟩, ⟨cH HV.out.G.r HN.out.G z0 e9.out, HV.out.G.m, HV.out.G.n⟩, ⟨cH HV.out.news.r HN.out.news z0 e9.out, HV.out.news.n⟩⟩)
  have hNW := aA (show V.New w.heap.size from ⟨fun g off h => by have := HN.out.S g off h; omega, fun g off h => by have := HN.out.G g off h; omega, fun g off h => by have := HN.out.news g off h; omega⟩)
  clear e9 TH C2
  go_wp2_with fail
  refine bodyPost_ret (aP (by rfl) _ w9 (w.heap.size + 1) 77 V.cs.toArray (0, 0) _ (.int .i64 E) (by rfl) (by rfl) A9.out Tryz.underlying77 (by rfl) (by kernel_rfl)) rfl ⟨⟨V, E, rfl, hO.out, hNW.out, HD.out⟩, Q9.out⟩
def wtOf (p : Pd) : Wt := ⟨p.limit, p.limit, 0, false, false⟩
def inB (p : Pd) : Bool := wtB (wtOf p) && newInB p.ly p.fl p.S.l p.subs.l (wtOf p)
def CinV (p : Pd) (V : Inn) (E : Int) : Prop :=
  (inB p = true ∧ E = 0 ∧ V.ly = p.ly ∧ V.fl = p.fl ∧ V.S.l = g9 p.S.l ∧ V.G.l = g9 p.S.l ∧ V.times = 0 ∧ V.subs = p.subs ∧ V.w = wtOf p) ∨ (inB p = false ∧ E = 1 ∧ V = .zero)
set_option maxRecDepth 100000 in
set_option maxHeartbeats 16000000 in
theorem kA (p : Pd) (w : World) (ho : p.Ok w) : Calls Tryz.prog 70 #[.agg p.cs.toArray] w fun e w' => (∃ V E, e = .returned (.tuple #[.agg V.cs.toArray, .int .i64 E]) ∧ V.Ok w' ∧ V.New w.heap.size ∧ CinV p V E) ∧ Below w.heap.size w w' := by
  obtain ⟨w0, hw0⟩ : ∃ w0, w0 = (w.alloc (.cells p.cs.toArray 79)).alloc (.cells zIn.toArray 102) := ⟨_, rfl⟩
  have step : ∀ (W : World) (o : Obj), Below W.heap.size W (W.alloc o) := fun W o => (Below.refl _ _).alloc (Nat.le_refl _) _
  have B1 := aA (aB (World.alloc_heap_new w (.cells p.cs.toArray 79)) (step _ (.cells zIn.toArray 102)))
  have B2 := aA (World.alloc_heap_new (w.alloc (.cells p.cs.toArray 79)) (.cells zIn.toArray 102))
  have Q0 : Hid (Below w.heap.size w w0) := by rw [hw0]; exact aA ((step _ _).alloc (by simp) _)
  rw [← hw0] at B1 B2
  simp only [World.size_alloc] at B2
  have z0 : w.heap.size + 1 < w0.heap.size := aH B2.out
  have RN := recvNew_any p.limit p.limit w0
  obtain ⟨NW, hNW⟩ : ∃ NW, NW = newWt p.limit p.limit := ⟨_, rfl⟩
  obtain ⟨NE, hNE⟩ : ∃ NE, NE = newWtE p.limit p.limit := ⟨_, rfl⟩
  rw [← hNW, ← hNE] at RN
  replace RN := aA RN
  have HNW := aA hNW
  have HNE := aA hNE
  have HIB := aA (show inB p = (wtB (wtOf p) && newInB p.ly p.fl p.S.l p.subs.l (wtOf p)) from rfl)
  have HO := aA ho
  clear step hNW hNE ho
  obtain ⟨⟨c0, c1, c2, c3, c4, c5, c6, c7, c8, c9⟩, d0, d1, d2, d3, d4, d5, d6, d7, d8, d9, d10, d11⟩ := dQ B1.out
  go_enter Tryz.func70, Tryz.ntmps70
  go_upto_region 1 with fail
  change Code.wp _ _ _ _ ((w.alloc (.cells p.cs.toArray 79)).alloc (.cells zIn.toArray 102))
  rw [← hw0]
  clear hw0
  go_wp2_with fail
  (with_reducible refine (RN.out).mono ?_)
  rintro e1 w1 ⟨rfl, q1⟩
  have C1 := aA (aB B1.out q1)
  have C2 := aA (aB B2.out q1)
  have Q1 := aA (aC Q0.out Q0.out.size q1)
  clear q1 B1 B2 Q0 RN c0 c1 c2 c3 c4 c5 c6 c7 c8 c9 d0 d1 d2 d3 d4 d5 d6 d7 d8 d9 d10 d11
  have q2 : Below w1.heap.size w1 (w1.alloc (.cells #[.int .i64 0, .int .i64 0, .int .i64 0, .bool false, .bool false] 100)) := (Below.refl _ _).alloc (Nat.le_refl _) _
  have g2 := World.alloc_heap_new w1 (.cells #[.int .i64 0, .int .i64 0, .int .i64 0, .bool false, .bool false] 100)
  have TH := aA (show (w1.alloc (.cells #[.int .i64 0, .int .i64 0, .int .i64 0, .bool false, .bool false] 100)).there w1.heap.size 0 5 from aK (cs := [_, _, _, _, _]) g2)
  go_wp2_with (refine aF (by rfl) 100 (.tmp 4) (.tmp 12) (by rfl) w1.heap.size 0 (cQ NW) (by rfl) (by rfl) (by exact TH.out) (by kernel_rfl) (by simp [Value.oneCell', cQ]) ?_)
  intro w2 e2
  have s2 : Below w1.heap.size w1 w2 := by rw [e2.out]; exact q2.trans (aE (g := w1.heap.size) _ 0 _ (Nat.le_refl _))
  have G2 := aA (show w2.heap[w1.heap.size]? = some (.cells (cQ NW).toArray 100 (0, 0)) by rw [e2.out]; exact aJ (cQ NW) (xs := [_, _, _, _, _]) g2 rfl)
  have D1 := aA (aB C1.out s2)
  have D2 := aA (aB C2.out s2)
  have Q2 := aA (aC Q1.out Q1.out.size s2)
  have z2 : w.heap.size + 1 < w2.heap.size := aH D2.out
  clear e2 g2 TH q2 s2 C1 C2 Q1
  generalize w1.heap.size = gb at *
  have TH := aA (show w2.there (w.heap.size + 1) 0 13 from aK (cs := zIn) D2.out)
  rcases hb : wtB (wtOf p) with _ | _
  · have hne : NE = 1 := by rw [HNE.out]; unfold newWtE; rw [show wtB ⟨p.limit, p.limit, 0, false, false⟩ = false from hb]; simp
    have F := aA (show inB p = false by rw [HIB.out, hb]; rfl)
    clear hb HNE
    subst hne
    go_wp2_with (refine aF (by rfl) 102 (.tmp 2) (.tmp 16) (by rfl) (w.heap.size + 1) 0 zIn (by rfl) (by rfl) (by exact TH.out) (by kernel_rfl) (by simp [Value.oneCell', zIn, Inn.zero, Inn.cs, Iv.v, Fv.v]) ?_)
    intro w9 e9
    have A9 := aA (show w9.heap[w.heap.size + 1]? = some (.cells Inn.zero.cs.toArray 102 (0, 0)) by rw [e9.out]; exact aJ zIn (xs := zIn) D2.out rfl)
    have Q9 := aA (show Below w.heap.size w w9 by rw [e9.out]; exact Q2.out.trans (aE (g := w.heap.size + 1) _ 0 _ (by omega)))
    clear e9 TH
    go_wp2_with fail
    refine bodyPost_ret (aP (by rfl) _ w9 (w.heap.size + 1) 102 Inn.zero.cs.toArray (0, 0) _ (.int .i64 1) (by rfl) (by rfl) A9.out Tryz.underlying102 (by rfl) (by kernel_rfl)) rfl ⟨⟨.zero, 1, rfl, Inn.zero_ok _, Inn.zero_new _, .inr ⟨F.out, rfl, rfl⟩⟩, Q9.out⟩
  have hne : NE = 0 := by rw [HNE.out]; unfold newWtE; rw [show wtB ⟨p.limit, p.limit, 0, false, false⟩ = true from hb]; simp
  have hnw : NW = wtOf p := by rw [HNW.out]; unfold newWt; rw [show wtB ⟨p.limit, p.limit, 0, false, false⟩ = true from hb]; simp [wtOf]
  have HB := aA hb
  clear hb HNE HNW
  subst hne hnw
  have o2 := HO.out.next Q2.out
  have NI := newIn_any p.ly p.fl p.S p.subs (wtOf p) w2 o2.ly o2.fl o2.S o2.subs
  unfold Lv.cs cQ Iv.v Fv.v at NI
  replace NI := aA NI
  clear o2
  obtain ⟨⟨c0, c1, c2, c3, c4, c5, c6, c7, c8, c9⟩, d0, d1, d2, d3, d4, d5, d6, d7, d8, d9, d10, d11⟩ := dQ D1.out
  obtain ⟨g0, g1, g2, g3, g4⟩ := wt_cells G2.out
  go_wp2_with fail
  (with_reducible refine (NI.out).mono ?_)
  rintro e3 w3 ⟨⟨V, E, rfl, hV, hN, hD⟩, q3⟩
  have E2 := aA (aB D2.out q3)
  have Q3 := aA (aC Q2.out Q2.out.size q3)
  have HV := aA hV
  have HN := aA hN
  have HD := aA hD
  clear q3 D1 D2 G2 Q2 NI hV hN hD TH c0 c1 c2 c3 c4 c5 c6 c7 c8 c9 d0 d1 d2 d3 d4 d5 d6 d7 d8 d9 d10 d11 g0 g1 g2 g3 g4
  have TH := aA (show w3.there (w.heap.size + 1) 0 13 from aK (cs := zIn) E2.out)
  go_wp2_with (refine aF (by rfl) 102 (.tmp 2) (.tmp 28) (by rfl) (w.heap.size + 1) 0 V.cs (by rfl) (by rfl) (by exact TH.out) (by kernel_rfl) (by simp [Value.oneCell', Inn.cs, Iv.v, Fv.v]) ?_)
  intro w9 e9
  have A9 := aA (show w9.heap[w.heap.size + 1]? = some (.cells V.cs.toArray 102 (0, 0)) by rw [e9.out]; exact aJ V.cs (xs := zIn) E2.out rfl)
  have Q9 := aA (show Below w.heap.size w w9 by rw [e9.out]; exact Q3.out.trans (aE (g := w.heap.size + 1) _ 0 _ (by omega)))
  have hO := aA (show V.Ok w9 from by
    have hly : V.ly.Ok w9 ∧ V.fl.Ok w9 ∧ V.subs.Ok w9 := by
      rcases HD.out with ⟨_, _, h1, h2, _, _, _, h3, _⟩ | ⟨_, _, h⟩
      · rw [h1, h2, h3]; exact ⟨HO.out.ly.next Q9.out, HO.out.fl.next Q9.out, HO.out.subs.next Q9.out⟩
      · rw [h]; exact ⟨(Inn.zero_ok _).ly, (Inn.zero_ok _).fl, (Inn.zero_ok _).subs⟩
    exact ⟨hly.1, hly.2.1, ⟨cH HV.out.S.r HN.out.S z2 e9.out, HV.out.S.m, HV.out.S.n⟩, ⟨cH HV.out.G.r HN.out.G z2 e9.out, HV.out.G.m, HV.out.G.n⟩, hly.2.2⟩)
  have hNW := aA (show V.New w.heap.size from ⟨fun g off h => by have := HN.out.S g off h; omega, fun g off h => by have := HN.out.G g off h; omega⟩)
  have hC := aA (show CinV p V E from by
    rcases HD.out with ⟨h1, h2, h3⟩ | ⟨h1, h2, h3⟩
    · exact .inl ⟨by rw [HIB.out, HB.out, h1]; rfl, h2, h3⟩
    · exact .inr ⟨by rw [HIB.out, HB.out, h1]; rfl, h2, h3⟩)
  clear e9 TH E2 HD
  go_wp2_with fail
  refine bodyPost_ret (aP (by rfl) _ w9 (w.heap.size + 1) 102 V.cs.toArray (0, 0) _ (.int .i64 E) (by rfl) (by rfl) A9.out Tryz.underlying102 (by rfl) (by kernel_rfl)) rfl ⟨⟨V, E, rfl, hO.out, hNW.out, hC.out⟩, Q9.out⟩
structure Cf where
  nodes : Int
  l : List Pd
  a : Option Addr
  c : Nat
  base : Int
  rep : Int
  cycle : Int
  heard : Int
  wait : Int
  rate : Int
def Cf.cs (c : Cf) : List Value := [.int .i64 c.nodes, .slice c.a c.l.length c.c, .int .u32 c.base, .int .i64 c.rep, .int .i64 c.cycle, .int .i64 c.heard, .int .i64 c.wait, .int .i64 c.rate]
def pdRow (l : List Pd) : List (List Value) := l.map Pd.cs
structure Cf.Ok (c : Cf) (w : World) : Prop where
  r : Rd w w.heap.size c.a 22 (pdRow c.l)
  p : ∀ p ∈ c.l, p.Ok w
  n : c.l.length ≤ 1000
  base : 0 ≤ c.base ∧ c.base < 4294967296
theorem Cf.Ok.next {o : Cf} {w w' : World} (h : o.Ok w) (q : Below w.heap.size w w') : o.Ok w' := ⟨Rd.next h.r q q.size, fun p hp => (h.p p hp).next q, h.n, h.base⟩
theorem bL {W : World} {B : Nat} {c : Cf} {t : TypeId} {fz : Nat × Nat} (h : W.heap[B]? = some (.cells c.cs.toArray t fz)) :
    W.cell? ⟨B, 0, none⟩ = some (.int .i64 c.nodes) ∧ W.cell? ⟨B, 1, none⟩ = some (.slice c.a c.l.length c.c) ∧ W.cell? ⟨B, 2, none⟩ = some (.int .u32 c.base) ∧ W.cell? ⟨B, 3, none⟩ = some (.int .i64 c.rep) ∧ W.cell? ⟨B, 4, none⟩ = some (.int .i64 c.cycle) ∧ W.cell? ⟨B, 5, none⟩ = some (.int .i64 c.heard) ∧ W.cell? ⟨B, 6, none⟩ = some (.int .i64 c.wait) ∧ W.cell? ⟨B, 7, none⟩ = some (.int .i64 c.rate) := by
  simp [World.cell?, h, Cf.cs]
def gN (c : Cf) : Bool := cK c.nodes 2 4 && (decide (c.l.length ≤ 12) && (decide (c.base ≤ 2048 - c.nodes) && (cK c.rep 0 1000 && (cK c.rate 1 2000 && (cK c.cycle 1 1000 && (cK c.heard (c.cycle + 1) 1000 && cK c.wait 1 1000))))))
theorem dR (n a b : Int) (w : World) : Calls Tryz.prog 67 #[.int .i64 n, .int .i64 a, .int .i64 b] w fun e w' => e = .returned (.bool (cK n a b)) ∧ w' = w := conf_within_any n a b w
set_option maxRecDepth 100000 in
set_option maxHeartbeats 16000000 in
theorem confFast_any (c : Cf) (w : World) (ho : c.Ok w) : Calls Tryz.prog 73 #[.agg c.cs.toArray] w fun e w' => e = .returned (.bool (gN c)) ∧ Below w.heap.size w w' := by
  obtain ⟨r, hr⟩ : ∃ r, r = gN c := ⟨_, rfl⟩
  rw [← hr]
  unfold gN at hr
  have HR := aA hr
  clear hr
  have WI := aA dR
  obtain ⟨w0, hw0⟩ : ∃ w0, w0 = w.alloc (.cells c.cs.toArray 25) := ⟨_, rfl⟩
  have B0 := aA (World.alloc_heap_new w (.cells c.cs.toArray 25))
  have Q0 : Hid (Below w.heap.size w w0) := by rw [hw0]; exact aA ((Below.refl _ _).alloc (Nat.le_refl _) _)
  rw [← hw0] at B0
  obtain ⟨nodes, l, a, cc, base, rep, cycle, heard, wait, rate⟩ := c
  dsimp only at *
  obtain ⟨c0, c1, c2, c3, c4, c5, c6, c7⟩ := bL B0.out
  dsimp only at c0 c1 c2 c3 c4 c5 c6 c7
  have hbase := ho.base
  dsimp only at hbase
  have hlen := ho.n
  dsimp only at hlen
  clear ho
  go_enter Tryz.func73, Tryz.ntmps73
  go_upto_region 1 with fail
  change Code.wp _ _ _ _ (w.alloc (.cells (Cf.cs ⟨nodes, l, a, cc, base, rep, cycle, heard, wait, rate⟩).toArray 25))
  rw [← hw0]
  clear hw0
  go_wp2_with fail
  (with_reducible refine (WI.out _ _ _ _).mono ?_)
  rintro e1 w1 ⟨rfl, rfl⟩
  rcases hn : cK nodes 2 4 with _ | _
  · have E := aA (show r = false by rw [HR.out, hn]; rfl)
    clear HR WI hn
    go_wp2_with fail
    go_ret
    exact ⟨by rw [E.out]; rfl, Q0.out⟩
  obtain ⟨hn2, hn4⟩ := b8 hn
  have HN := aA hn
  clear hn
  by_cases hl : l.length ≤ 12
  case neg =>
    have E := aA (show r = false by rw [HR.out, decide_eq_false hl, Bool.false_and, Bool.and_false])
    have h12 : decide ((12 : Int) < l.length) = true := by rw [decide_eq_true_eq]; omega
    clear HR WI hl
    go_wp2_with fail
    go_ret
    exact ⟨by rw [E.out]; rfl, Q0.out⟩
  have h12 : decide ((12 : Int) < l.length) = false := by rw [decide_eq_false_iff_not]; omega
  have HL := aA hl
  clear hl
  by_cases hb : base ≤ 2048 - nodes
  case neg =>
    have E := aA (show r = false by rw [HR.out, decide_eq_false hb, Bool.false_and, Bool.and_false, Bool.and_false])
    have hd : decide (2048 - nodes < base) = true := by rw [decide_eq_true_eq]; omega
    clear HR WI HN hb
    go_wp2_with fail
    go_ret
    exact ⟨by rw [E.out]; rfl, Q0.out⟩
  have hd : decide (2048 - nodes < base) = false := by rw [decide_eq_false_iff_not]; omega
  replace HR := aA (show r = (cK rep 0 1000 && (cK rate 1 2000 && (cK cycle 1 1000 && (cK heard (cycle + 1) 1000 && cK wait 1 1000)))) by rw [HR.out, HN.out, decide_eq_true HL.out, decide_eq_true hb]; rfl)
  clear hb HN HL
  go_wp2_with fail
  (with_reducible refine (WI.out _ _ _ _).mono ?_)
  rintro e0 w2 ⟨rfl, rfl⟩
  rcases h0 : cK rep 0 1000 with _ | _
  · have E := aA (show r = false by rw [HR.out, h0]; rfl)
    clear HR WI h0
    go_wp2_with fail
    go_ret
    exact ⟨by rw [E.out]; rfl, Q0.out⟩
  replace HR := aA (show _ from HR.out.trans (by rw [h0, Bool.true_and]))
  have k0 := b8 h0
  clear h0
  go_wp2_with fail
  (with_reducible refine (WI.out _ _ _ _).mono ?_)
  rintro e1 w3 ⟨rfl, rfl⟩
  rcases h1 : cK rate 1 2000 with _ | _
  · have E := aA (show r = false by rw [HR.out, h1]; rfl)
    clear HR WI h1
    go_wp2_with fail
    go_ret
    exact ⟨by rw [E.out]; rfl, Q0.out⟩
  replace HR := aA (show _ from HR.out.trans (by rw [h1, Bool.true_and]))
  have k1 := b8 h1
  clear h1
  go_wp2_with fail
  (with_reducible refine (WI.out _ _ _ _).mono ?_)
  rintro e2 w4 ⟨rfl, rfl⟩
  rcases h2 : cK cycle 1 1000 with _ | _
  · have E := aA (show r = false by rw [HR.out, h2]; rfl)
    clear HR WI h2
    go_wp2_with fail
    go_ret
    exact ⟨by rw [E.out]; rfl, Q0.out⟩
  replace HR := aA (show _ from HR.out.trans (by rw [h2, Bool.true_and]))
  have k2 := b8 h2
  clear h2
  go_wp2_with fail
  (with_reducible refine (WI.out _ _ _ _).mono ?_)
  rintro e3 w5 ⟨rfl, rfl⟩
  rcases h3 : cK heard (cycle + 1) 1000 with _ | _
  · have E := aA (show r = false by rw [HR.out, h3]; rfl)
    clear HR WI h3
    go_wp2_with fail
    go_ret
    exact ⟨by rw [E.out]; rfl, Q0.out⟩
  replace HR := aA (show _ from HR.out.trans (by rw [h3, Bool.true_and]))
  have k3 := b8 h3
  clear h3
  go_wp2_with fail
  (with_reducible refine (WI.out _ _ _ _).mono ?_)
  rintro e4 w6 ⟨rfl, rfl⟩
  rcases h4 : cK wait 1 1000 with _ | _
  · have E := aA (show r = false by rw [HR.out, h4])
    clear HR WI h4
    go_wp2_with fail
    go_ret
    exact ⟨by rw [E.out]; rfl, Q0.out⟩
  have E := aA (show r = true by rw [HR.out, h4])
  clear HR WI h4
  go_wp2_with fail
  go_ret
  exact ⟨by rw [E.out]; rfl, Q0.out⟩
end Go.Proofs.YtkmddjbialpppaaGreatDoor
namespace Go.Proofs.YtkmddjbialpppaaGreatDoor
open Go.ChangeShapes Go.WideShapes Go.ChangeAt Go.RowKit Go.Maps
def MId (W : World) (b n : Nat) (s : Int → Option Int) : Prop :=
  ∃ D : DataW Unit, W.ownsMap Tryz.prog 23 (plainElem Tryz.prog 3) b n D ∧ ∀ (x : Int) z, D.atKey (.int .u32 x) z = match s x with
    | some d => .lit (.int .i64 d)
    | none => z
theorem MId.made (w : World) : MId (w.alloc (.map #[] 0)) w.heap.size 0 (fun _ => none) := ⟨_, World.ownsMap_made w _ _ _, fun _ _ => rfl⟩
theorem MId.grown {W W' : World} {b n : Nat} {s : Int → Option Int} {row : Option Nat} (h : MId W b n s) (hg : W.grownBy W' row) (hne : some b ≠ row) : MId W' b n s := by
  obtain ⟨D, h, hs⟩ := h
  exact ⟨D, h.kept hg hne, hs⟩
theorem MId.below {W W' : World} {b n : Nat} {s : Int → Option Int} (h : MId W b n s) (hb : Below W.heap.size W W') : MId W' b n s :=
  h.grown (row := none) ⟨hb.os, hb.tape, hb.output, hb.size, fun k hk _ => hb.block k hk⟩ (by simp)
theorem u32_wf {x : Int} (h0 : 0 ≤ x) (h1 : x < 4294967296) : (Lit.int .u32 x).wf = true := by
  simp [Lit.wf, IntKind.min, IntKind.max, IntKind.bits, IntKind.signed]
  omega
set_option maxRecDepth 100000 in
theorem zero_int_run_r (W : World) : (zeroValue 3).run Tryz.prog W = .ok (.int .i64 0) W := by kernel_rfl
set_option maxRecDepth 100000 in
theorem MId.get {W : World} {b n : Nat} {s : Int → Option Int} (h : MId W b n s) (x : Int) (hx : 0 ≤ x ∧ x < 4294967296) :
    (Instr.lookup 163 (.map (some b)) (.int .u32 x) true).run Tryz.prog W = .ok (.tuple #[.int .i64 ((s x).getD 0), .bool (s x).isSome]) W := by
  obtain ⟨D, h, hs⟩ := h
  obtain ⟨v, ps, hr, hv⟩ := World.ownsMap.look_ok h (int_keyed Tryz.underlying23) Tryz.underlying163 (zero_int_run_r W) (plainElem_int Tryz.underlying3 (by decide)) (keyOf_int_mk Tryz.underlying23 (u32_wf hx.1 hx.2))
  obtain ⟨c, rfl, hc, _⟩ := plainElem_int_inv Tryz.underlying3 hv
  have hc := congrArg Prod.fst hc
  dsimp only at hc
  rw [hr]
  rcases hsx : s x with _ | d
  · have := hs x
    rw [hsx] at this
    rw [Maps.has_false_of_atKey this]
    rw [this] at hc
    have h0 : (0 : Int) = c := by simpa using hc
    rw [← h0]
    rfl
  · have := hs x
    rw [hsx] at this
    rw [Maps.has_true_of_atKey this]
    rw [this] at hc
    have h0 : d = c := by simpa using hc
    rw [← h0]
    rfl
set_option maxRecDepth 100000 in
theorem MId.put {W : World} {b n : Nat} {s : Int → Option Int} (h : MId W b n s) (hn : n < maxLen) (x v : Int) (hx : 0 ≤ x ∧ x < 4294967296) (hv : 0 ≤ v ∧ v ≤ 1000000) :
    ∃ W', (Instr.mapUpdate 163 (.map (some b)) (.int .u32 x) (.int .i64 v)).run Tryz.prog W = .ok () W' ∧ MId W' b (n + 1) (fun y => if y = x then some v else s y) ∧ W.grownBy W' (some b) := by
  obtain ⟨D, h, hs⟩ := h
  obtain ⟨W', hr, h', ht⟩ := World.ownsMap.store h (int_keyed Tryz.underlying23) Tryz.underlying163 hn (keyOf_int_mk Tryz.underlying23 (u32_wf hx.1 hx.2)) (plainElem_int Tryz.underlying3 (i64_wf hv.1 hv.2))
  refine ⟨W', hr, ⟨_, h', fun y z => ?_⟩, ht.grown⟩
  by_cases hy : y = x
  · subst hy
    simp only [if_pos rfl]
    exact atKey_put_same h.isMap (by first | trivial | exact .int _ _ | simp [WideAt.IsKeyLit]) _ _
  · simp only [if_neg hy]
    rw [atKey_put_other (by simp [hy])]
    exact hs y z
end Go.Proofs.YtkmddjbialpppaaGreatDoor
namespace Go.Proofs.YtkmddjbialpppaaGreatDoor
open Go.ChangeShapes Go.WideShapes Go.ChangeAt Go.RowKit
open CM PD SG
def idxFl (p : Flt → Bool) (l : List Flt) : Int := if l.all (fun f => !p f) then -1 else ((l.findIdx p : Nat) : Int)
set_option maxRecDepth 100000 in
set_option maxHeartbeats 2000000 in
theorem indexFl_any (fid : Nat) (p : Flt → Bool) (hp : ∀ (args : Array Value) (w : World), (callFunc fid args).run Tryz.prog w = .ok (.enter fid args) w) (l : List Flt) (A : Option Addr) (c : Nat) (w : World) (hr : FlR w w.heap.size A l) (hl : l.length ≤ 9223372036854775807)
    (hc : Hid (∀ f ∈ l, ∀ w', Below w.heap.size w w' → Calls Tryz.prog fid #[.agg #[.int .i64 f.kind, .int .i64 f.mask, .int .i64 f.x, .int .i64 f.mn, .int .i64 f.mx, .int .i64 f.every, .int .i64 f.frm, .int .i64 f.old, .int .i64 f.count]] w' fun e w'' => e = .returned (.bool (p f)) ∧ Below w'.heap.size w' w'')) :
    Calls Tryz.prog 206 #[.slice A l.length c, .func (.func fid) #[] #[]] w fun e w' => e = .returned (.int .i64 (idxFl p l)) ∧ Below w.heap.size w w' := by
  go_enter Tryz.func206, Tryz.ntmps206
  go_wp2
  go_loopw [8] (fun i W => ∃ k : Nat, k ≤ l.length ∧ i = .int .i64 k ∧ Hid (∀ f ∈ l.take k, p f = false) ∧ Below w.heap.size w W) (fun i _ => l.length - (intOf i).toNat)
  case atStart => exact ⟨0, Nat.zero_le _, rfl, aA (by simp), Below.refl _ _⟩
  case round =>
    obtain ⟨k, hk, rfl, hinv, q⟩ := hrel
    by_cases hlt : k < l.length
    · obtain ⟨b, off, rfl, hbs, c0, c1, c2, c3, c4, c5, c6, c7, c8⟩ := FlR.at_ (Rd.below hr q) hlt
      have C := aA (hc.out l[k] (List.getElem_mem hlt) wr q)
      rcases hpk : p l[k] with _ | _
      · have hT := aA (show ∀ f ∈ l.take (k + 1), p f = false by
          intro f hf
          rw [List.take_succ_eq_append_getElem hlt, List.mem_append] at hf
          rcases hf with hf | hf
          · exact hinv.out f hf
          · rw [List.mem_singleton.1 hf]; exact hpk)
        rw [hpk] at C
        clear hpk
        go_wp2_with fail
        refine C.out.mono ?_
        rintro e1 w1 ⟨rfl, q1⟩
        go_wp2
        go_roundw
        case rel => exact ⟨k + 1, by omega, by go_num, hT, aC q q.size q1⟩
        case measure => simp [intOf]; omega
      · have hE := aA (show idxFl p l = (k : Int) by
          unfold idxFl
          rw [if_neg (by
            rw [List.all_eq_true]
            intro h
            have := h l[k] (List.getElem_mem hlt)
            simp [hpk] at this)]
          congr 1
          rw [List.findIdx_eq hlt]
          exact ⟨hpk, fun j hj => by
            have := hinv.out l[j] (by rw [List.mem_take_iff_getElem]; exact ⟨j, by omega, rfl⟩)
            simp [this]⟩)
        rw [hpk] at C
        clear hpk
        go_wp2_with fail
        refine C.out.mono ?_
        rintro e1 w1 ⟨rfl, q1⟩
        go_wp2
        go_ret
        exact ⟨by rw [hE.out]; rfl, aC q q.size q1⟩
    · have hE := aA (show idxFl p l = -1 by
        unfold idxFl
        rw [if_pos]
        rw [List.all_eq_true]
        intro f hf
        have h2 := hinv.out f (by rw [List.take_of_length_le (by omega)]; exact hf)
        simp [h2])
      go_wp2
      go_ret
      exact ⟨by rw [hE.out]; rfl, q⟩
theorem idxFl_nonneg (p : Flt → Bool) (l : List Flt) : 0 ≤ idxFl p l ↔ l.any p = true := by
  unfold idxFl
  by_cases h : l.all (fun f => !p f) = true
  · rw [if_pos h]
    have : l.any p = false := by
      rw [List.any_eq_false]
      intro x hx
      have := List.all_eq_true.1 h x hx
      simpa using this
    simp [this]
  · rw [if_neg h]
    have h' : l.all (fun f => !p f) = false := by simpa using h
    obtain ⟨x, hx, hp⟩ := List.all_eq_false.1 h'
    have : l.any p = true := List.any_eq_true.2 ⟨x, hx, by simpa using hp⟩
    simp [this]
set_option maxRecDepth 100000 in
theorem containsFl_any (fid : Nat) (p : Flt → Bool) (hp : ∀ (args : Array Value) (w : World), (callFunc fid args).run Tryz.prog w = .ok (.enter fid args) w) (l : List Flt) (A : Option Addr) (c : Nat) (w : World) (hr : FlR w w.heap.size A l) (hl : l.length ≤ 9223372036854775807)
    (hc : Hid (∀ f ∈ l, ∀ w', Below w.heap.size w w' → Calls Tryz.prog fid #[.agg #[.int .i64 f.kind, .int .i64 f.mask, .int .i64 f.x, .int .i64 f.mn, .int .i64 f.mx, .int .i64 f.every, .int .i64 f.frm, .int .i64 f.old, .int .i64 f.count]] w' fun e w'' => e = .returned (.bool (p f)) ∧ Below w'.heap.size w' w'')) :
    Calls Tryz.prog 169 #[.slice A l.length c, .func (.func fid) #[] #[]] w fun e w' => e = .returned (.bool (l.any p)) ∧ Below w.heap.size w w' := by
  have I := aA (indexFl_any fid p hp l A c w hr hl hc)
  have H := idxFl_nonneg p l
  generalize idxFl p l = X at *
  rcases hb : l.any p with _ | _
  · have hx : X < 0 := by
      rcases Int.lt_or_le X 0 with h | h
      · exact h
      · rw [H.1 h] at hb; cases hb
    clear H hb hr hp hc
    go_enter Tryz.func169, Tryz.ntmps169
    go_wp2_with fail
    refine I.out.mono ?_
    rintro e1 w1 ⟨rfl, q1⟩
    go_wp2
    go_ret
    refine ⟨?_, q1⟩
    refine aV ?_
    (simp <;> omega)
  · have hx : 0 ≤ X := H.2 hb
    clear H hb hr hp hc
    go_enter Tryz.func169, Tryz.ntmps169
    go_wp2_with fail
    refine I.out.mono ?_
    rintro e1 w1 ⟨rfl, q1⟩
    go_wp2
    go_ret
    refine ⟨?_, q1⟩
    refine aV ?_
    (simp <;> omega)
set_option maxRecDepth 100000 in
theorem may1_any (f : Flt) (w : World) : Calls Tryz.prog 170 #[.agg #[.int .i64 f.kind, .int .i64 f.mask, .int .i64 f.x, .int .i64 f.mn, .int .i64 f.mx, .int .i64 f.every, .int .i64 f.frm, .int .i64 f.old, .int .i64 f.count]] w fun e w' => e = .returned (.bool (f.count != 0)) ∧ Below w.heap.size w w' := by
  obtain ⟨r, hr⟩ : ∃ r, r = (f.count != 0) := ⟨_, rfl⟩
  rw [← hr]
  have HR := aA hr
  have q0 : Below w.heap.size w (w.alloc (.cells #[.int .i64 f.kind, .int .i64 f.mask, .int .i64 f.x, .int .i64 f.mn, .int .i64 f.mx, .int .i64 f.every, .int .i64 f.frm, .int .i64 f.old, .int .i64 f.count] 138)) := (Below.refl _ _).alloc (Nat.le_refl _) _
  go_enter Tryz.func170, Tryz.ntmps170
  go_wp2_with fail
  go_ret
  refine ⟨aV ?_, q0⟩
  first | exact HR.out.symm | (simp [HR.out])
theorem mayFl_any (l : List Flt) (A : Option Addr) (c : Nat) (w : World) (hr : FlR w w.heap.size A l) (hl : l.length ≤ 9223372036854775807) :
    Calls Tryz.prog 169 #[.slice A l.length c, .func (.func 170) #[] #[]] w fun e w' => e = .returned (.bool (l.any fun f => f.count != 0)) ∧ Below w.heap.size w w' :=
  containsFl_any 170 (fun f => f.count != 0) (fun args W => by kernel_rfl) l A c w hr hl (aA fun f _ w' _ => may1_any f w')
end Go.Proofs.YtkmddjbialpppaaGreatDoor
