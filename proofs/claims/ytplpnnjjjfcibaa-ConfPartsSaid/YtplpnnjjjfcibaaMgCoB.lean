/- The walk of conf.in. -/
import Derived.Test.YtplpnnjjjfcibaaCoA
namespace Go.Proofs.Ytplpnnjjjfcibaa
open Go.ChangeShapes Go.WideShapes Go.ChangeAt Go.RowKit
open CM PD SG

def wtOf (p : Pd) : Wt := ⟨p.limit, p.limit, 0, false, false⟩
def inB (p : Pd) : Bool := wtB (wtOf p) && newInB p.ly p.fl p.S.l p.subs.l (wtOf p)
/-- What conf.in answers. -/
def CinV (p : Pd) (V : Inn) (E : Int) : Prop :=
  (inB p = true ∧ E = 0 ∧ V.ly = p.ly ∧ V.fl = p.fl ∧ V.S.l = gnL p.S.l ∧ V.G.l = gnL p.S.l ∧ V.times = 0 ∧ V.subs = p.subs ∧ V.w = wtOf p) ∨ (inB p = false ∧ E = 1 ∧ V = .zero)

set_option maxRecDepth 100000 in
set_option maxHeartbeats 16000000 in
theorem confIn_any (p : Pd) (w : World) (ho : p.Ok w) : Calls Try.prog 65 #[.agg p.cs.toArray] w fun e w' => (∃ V E, e = .returned (.tuple #[.agg V.cs.toArray, .int .i64 E]) ∧ V.Ok w' ∧ V.New w.heap.size ∧ CinV p V E) ∧ Below w.heap.size w w' := by
  obtain ⟨w0, hw0⟩ : ∃ w0, w0 = (w.alloc (.cells p.cs.toArray 67)).alloc (.cells zIn.toArray 79) := ⟨_, rfl⟩
  have step : ∀ (W : World) (o : Obj), Below W.heap.size W (W.alloc o) := fun W o => (Below.refl _ _).alloc (Nat.le_refl _) _
  have B1 := hide (heap_below (World.alloc_heap_new w (.cells p.cs.toArray 67)) (step _ (.cells zIn.toArray 79)))
  have B2 := hide (World.alloc_heap_new (w.alloc (.cells p.cs.toArray 67)) (.cells zIn.toArray 79))
  have Q0 : Hid (Below w.heap.size w w0) := by rw [hw0]; exact hide ((step _ _).alloc (by simp) _)
  rw [← hw0] at B1 B2
  simp only [World.size_alloc] at B2
  have z0 : w.heap.size + 1 < w0.heap.size := heap_lt B2.out
  have RN := recvNew_any p.limit p.limit w0
  obtain ⟨NW, hNW⟩ : ∃ NW, NW = newWt p.limit p.limit := ⟨_, rfl⟩
  obtain ⟨NE, hNE⟩ : ∃ NE, NE = newWtE p.limit p.limit := ⟨_, rfl⟩
  rw [← hNW, ← hNE] at RN
  replace RN := hide RN
  have HNW := hide hNW
  have HNE := hide hNE
  have HIB := hide (show inB p = (wtB (wtOf p) && newInB p.ly p.fl p.S.l p.subs.l (wtOf p)) from rfl)
  have HO := hide ho
  clear step hNW hNE ho
  obtain ⟨⟨c0, c1, c2, c3, c4, c5, c6, c7, c8, c9⟩, d0, d1, d2, d3, d4, d5, d6, d7, d8, d9, d10, d11⟩ := pd_cells B1.out
  go_enter Try.func65, Try.ntmps65
  go_upto_region 1 with fail
  change Code.wp _ _ _ _ ((w.alloc (.cells p.cs.toArray 67)).alloc (.cells zIn.toArray 79))
  rw [← hw0]
  clear hw0
  go_wp2_with fail
  (with_reducible refine (RN.out).mono ?_)
  rintro e1 w1 ⟨rfl, q1⟩
  have C1 := hide (heap_below B1.out q1)
  have C2 := hide (heap_below B2.out q1)
  have Q1 := hide (below_next Q0.out Q0.out.size q1)
  clear q1 B1 B2 Q0 RN c0 c1 c2 c3 c4 c5 c6 c7 c8 c9 d0 d1 d2 d3 d4 d5 d6 d7 d8 d9 d10 d11
  have q2 : Below w1.heap.size w1 (w1.alloc (.cells #[.int .i64 0, .int .i64 0, .int .i64 0, .bool false, .bool false] 77)) := (Below.refl _ _).alloc (Nat.le_refl _) _
  have g2 := World.alloc_heap_new w1 (.cells #[.int .i64 0, .int .i64 0, .int .i64 0, .bool false, .bool false] 77)
  have TH := hide (show (w1.alloc (.cells #[.int .i64 0, .int .i64 0, .int .i64 0, .bool false, .bool false] 77)).there w1.heap.size 0 5 from there_heap (cs := [_, _, _, _, _]) g2)
  go_wp2_with (refine wpList_store_hid (by rfl) 77 (.tmp 4) (.tmp 12) (by rfl) w1.heap.size 0 (wtcL NW) (by rfl) (by rfl) (by exact TH.out) (by kernel_rfl) (by simp [Value.oneCell', wtcL]) ?_)
  intro w2 e2
  have s2 : Below w1.heap.size w1 w2 := by rw [e2.out]; exact q2.trans (below_setCells (g := w1.heap.size) _ 0 _ (Nat.le_refl _))
  have G2 := hide (show w2.heap[w1.heap.size]? = some (.cells (wtcL NW).toArray 77 (0, 0)) by rw [e2.out]; exact whole_heap (wtcL NW) (xs := [_, _, _, _, _]) g2 rfl)
  have D1 := hide (heap_below C1.out s2)
  have D2 := hide (heap_below C2.out s2)
  have Q2 := hide (below_next Q1.out Q1.out.size s2)
  have z2 : w.heap.size + 1 < w2.heap.size := heap_lt D2.out
  clear e2 g2 TH q2 s2 C1 C2 Q1
  generalize w1.heap.size = gb at *
  have TH := hide (show w2.there (w.heap.size + 1) 0 13 from there_heap (cs := zIn) D2.out)
  rcases hb : wtB (wtOf p) with _ | _
  · have hne : NE = 1 := by rw [HNE.out]; unfold newWtE; rw [show wtB ⟨p.limit, p.limit, 0, false, false⟩ = false from hb]; simp
    have F := hide (show inB p = false by rw [HIB.out, hb]; rfl)
    clear hb HNE
    subst hne
    go_wp2_with (refine wpList_store_hid (by rfl) 79 (.tmp 2) (.tmp 16) (by rfl) (w.heap.size + 1) 0 zIn (by rfl) (by rfl) (by exact TH.out) (by kernel_rfl) (by simp [Value.oneCell', zIn, Inn.zero, Inn.cs, Iv.v, Fv.v]) ?_)
    intro w9 e9
    have A9 := hide (show w9.heap[w.heap.size + 1]? = some (.cells Inn.zero.cs.toArray 79 (0, 0)) by rw [e9.out]; exact whole_heap zIn (xs := zIn) D2.out rfl)
    have Q9 := hide (show Below w.heap.size w w9 by rw [e9.out]; exact Q2.out.trans (below_setCells (g := w.heap.size + 1) _ 0 _ (by omega)))
    clear e9 TH
    go_wp2_with fail
    refine bodyPost_ret (results_cell_tmp (by rfl) _ w9 (w.heap.size + 1) 79 Inn.zero.cs.toArray (0, 0) _ (.int .i64 1) (by rfl) (by rfl) A9.out Try.underlying79 (by rfl) (by kernel_rfl)) rfl ⟨⟨.zero, 1, rfl, Inn.zero_ok _, Inn.zero_new _, .inr ⟨F.out, rfl, rfl⟩⟩, Q9.out⟩
  have hne : NE = 0 := by rw [HNE.out]; unfold newWtE; rw [show wtB ⟨p.limit, p.limit, 0, false, false⟩ = true from hb]; simp
  have hnw : NW = wtOf p := by rw [HNW.out]; unfold newWt; rw [show wtB ⟨p.limit, p.limit, 0, false, false⟩ = true from hb]; simp [wtOf]
  have HB := hide hb
  clear hb HNE HNW
  subst hne hnw
  have o2 := HO.out.next Q2.out
  have NI := newIn_any p.ly p.fl p.S p.subs (wtOf p) w2 o2.ly o2.fl o2.S o2.subs
  unfold Lv.cs wtcL Iv.v Fv.v at NI
  replace NI := hide NI
  clear o2
  obtain ⟨⟨c0, c1, c2, c3, c4, c5, c6, c7, c8, c9⟩, d0, d1, d2, d3, d4, d5, d6, d7, d8, d9, d10, d11⟩ := pd_cells D1.out
  obtain ⟨g0, g1, g2, g3, g4⟩ := wt_cells G2.out
  go_wp2_with fail
  (with_reducible refine (NI.out).mono ?_)
  rintro e3 w3 ⟨⟨V, E, rfl, hV, hN, hD⟩, q3⟩
  have E2 := hide (heap_below D2.out q3)
  have Q3 := hide (below_next Q2.out Q2.out.size q3)
  have HV := hide hV
  have HN := hide hN
  have HD := hide hD
  clear q3 D1 D2 G2 Q2 NI hV hN hD TH c0 c1 c2 c3 c4 c5 c6 c7 c8 c9 d0 d1 d2 d3 d4 d5 d6 d7 d8 d9 d10 d11 g0 g1 g2 g3 g4
  have TH := hide (show w3.there (w.heap.size + 1) 0 13 from there_heap (cs := zIn) E2.out)
  go_wp2_with (refine wpList_store_hid (by rfl) 79 (.tmp 2) (.tmp 28) (by rfl) (w.heap.size + 1) 0 V.cs (by rfl) (by rfl) (by exact TH.out) (by kernel_rfl) (by simp [Value.oneCell', Inn.cs, Iv.v, Fv.v]) ?_)
  intro w9 e9
  have A9 := hide (show w9.heap[w.heap.size + 1]? = some (.cells V.cs.toArray 79 (0, 0)) by rw [e9.out]; exact whole_heap V.cs (xs := zIn) E2.out rfl)
  have Q9 := hide (show Below w.heap.size w w9 by rw [e9.out]; exact Q3.out.trans (below_setCells (g := w.heap.size + 1) _ 0 _ (by omega)))
  have hO := hide (show V.Ok w9 from by
    have hly : V.ly.Ok w9 ∧ V.fl.Ok w9 ∧ V.subs.Ok w9 := by
      rcases HD.out with ⟨_, _, h1, h2, _, _, _, h3, _⟩ | ⟨_, _, h⟩
      · rw [h1, h2, h3]; exact ⟨HO.out.ly.next Q9.out, HO.out.fl.next Q9.out, HO.out.subs.next Q9.out⟩
      · rw [h]; exact ⟨(Inn.zero_ok _).ly, (Inn.zero_ok _).fl, (Inn.zero_ok _).subs⟩
    exact ⟨hly.1, hly.2.1, ⟨rd_behind HV.out.S.r HN.out.S z2 e9.out, HV.out.S.m, HV.out.S.n⟩, ⟨rd_behind HV.out.G.r HN.out.G z2 e9.out, HV.out.G.m, HV.out.G.n⟩, hly.2.2⟩)
  have hNW := hide (show V.New w.heap.size from ⟨fun g off h => by have := HN.out.S g off h; omega, fun g off h => by have := HN.out.G g off h; omega⟩)
  have hC := hide (show CinV p V E from by
    rcases HD.out with ⟨h1, h2, h3⟩ | ⟨h1, h2, h3⟩
    · exact .inl ⟨by rw [HIB.out, HB.out, h1]; rfl, h2, h3⟩
    · exact .inr ⟨by rw [HIB.out, HB.out, h1]; rfl, h2, h3⟩)
  clear e9 TH E2 HD
  go_wp2_with fail
  refine bodyPost_ret (results_cell_tmp (by rfl) _ w9 (w.heap.size + 1) 79 V.cs.toArray (0, 0) _ (.int .i64 E) (by rfl) (by rfl) A9.out Try.underlying79 (by rfl) (by kernel_rfl)) rfl ⟨⟨V, E, rfl, hO.out, hNW.out, hC.out⟩, Q9.out⟩
end Go.Proofs.Ytplpnnjjjfcibaa

/- The walk of conf.fast. -/
namespace Go.Proofs.Ytplpnnjjjfcibaa
open Go.ChangeShapes Go.WideShapes Go.ChangeAt Go.RowKit
open CM PD SG

/-- What stands fast, with the Pdus' place. -/
structure Cf where
  nodes : Int
  l : List Pd
  a : Option Addr
  c : Nat
  base : Int
  rep : Int
  cycle : Int
  heard : Int
  wait : Int
  rate : Int
def Cf.cs (c : Cf) : List Value := [.int .i64 c.nodes, .slice c.a c.l.length c.c, .int .u32 c.base, .int .i64 c.rep, .int .i64 c.cycle, .int .i64 c.heard, .int .i64 c.wait, .int .i64 c.rate]
def pdRow (l : List Pd) : List (List Value) := l.map Pd.cs
structure Cf.Ok (c : Cf) (w : World) : Prop where
  r : Rd w w.heap.size c.a 22 (pdRow c.l)
  p : ∀ p ∈ c.l, p.Ok w
  n : c.l.length ≤ 1000
  base : 0 ≤ c.base ∧ c.base < 4294967296
theorem Cf.Ok.next {o : Cf} {w w' : World} (h : o.Ok w) (q : Below w.heap.size w w') : o.Ok w' := ⟨Rd.next h.r q q.size, fun p hp => (h.p p hp).next q, h.n, h.base⟩
theorem cf_cells {W : World} {B : Nat} {c : Cf} {t : TypeId} {fz : Nat × Nat} (h : W.heap[B]? = some (.cells c.cs.toArray t fz)) :
    W.cell? ⟨B, 0, none⟩ = some (.int .i64 c.nodes) ∧ W.cell? ⟨B, 1, none⟩ = some (.slice c.a c.l.length c.c) ∧ W.cell? ⟨B, 2, none⟩ = some (.int .u32 c.base) ∧ W.cell? ⟨B, 3, none⟩ = some (.int .i64 c.rep) ∧ W.cell? ⟨B, 4, none⟩ = some (.int .i64 c.cycle) ∧ W.cell? ⟨B, 5, none⟩ = some (.int .i64 c.heard) ∧ W.cell? ⟨B, 6, none⟩ = some (.int .i64 c.wait) ∧ W.cell? ⟨B, 7, none⟩ = some (.int .i64 c.rate) := by
  simp [World.cell?, h, Cf.cs]
def fastB (c : Cf) : Bool := inI c.nodes 2 4 && (decide (c.l.length ≤ 12) && (decide (c.base ≤ 2048 - c.nodes) && (inI c.rep 0 1000 && (inI c.rate 1 2000 && (inI c.cycle 1 1000 && (inI c.heard (c.cycle + 1) 1000 && inI c.wait 1 1000))))))
theorem confWithin_any (n a b : Int) (w : World) : Calls Try.prog 63 #[.int .i64 n, .int .i64 a, .int .i64 b] w fun e w' => e = .returned (.bool (inI n a b)) ∧ w' = w := conf_within_any n a b w

set_option maxRecDepth 100000 in
set_option maxHeartbeats 16000000 in
theorem confFast_any (c : Cf) (w : World) (ho : c.Ok w) : Calls Try.prog 55 #[.agg c.cs.toArray] w fun e w' => e = .returned (.bool (fastB c)) ∧ Below w.heap.size w w' := by
  obtain ⟨r, hr⟩ : ∃ r, r = fastB c := ⟨_, rfl⟩
  rw [← hr]
  unfold fastB at hr
  have HR := hide hr
  clear hr
  have WI := hide confWithin_any
  obtain ⟨w0, hw0⟩ : ∃ w0, w0 = w.alloc (.cells c.cs.toArray 52) := ⟨_, rfl⟩
  have B0 := hide (World.alloc_heap_new w (.cells c.cs.toArray 52))
  have Q0 : Hid (Below w.heap.size w w0) := by rw [hw0]; exact hide ((Below.refl _ _).alloc (Nat.le_refl _) _)
  rw [← hw0] at B0
  obtain ⟨nodes, l, a, cc, base, rep, cycle, heard, wait, rate⟩ := c
  dsimp only at *
  obtain ⟨c0, c1, c2, c3, c4, c5, c6, c7⟩ := cf_cells B0.out
  dsimp only at c0 c1 c2 c3 c4 c5 c6 c7
  have hbase := ho.base
  dsimp only at hbase
  have hlen := ho.n
  dsimp only at hlen
  clear ho
  go_enter Try.func55, Try.ntmps55
  go_upto_region 1 with fail
  change Code.wp _ _ _ _ (w.alloc (.cells (Cf.cs ⟨nodes, l, a, cc, base, rep, cycle, heard, wait, rate⟩).toArray 52))
  rw [← hw0]
  clear hw0
  go_wp2_with fail
  (with_reducible refine (WI.out _ _ _ _).mono ?_)
  rintro e1 w1 ⟨rfl, rfl⟩
  rcases hn : inI nodes 2 4 with _ | _
  · have E := hide (show r = false by rw [HR.out, hn]; rfl)
    clear HR WI hn
    go_wp2_with fail
    go_ret
    exact ⟨by rw [E.out]; rfl, Q0.out⟩
  obtain ⟨hn2, hn4⟩ := inI_true hn
  have HN := hide hn
  clear hn
  by_cases hl : l.length ≤ 12
  case neg =>
    have E := hide (show r = false by rw [HR.out, decide_eq_false hl, Bool.false_and, Bool.and_false])
    have h12 : decide ((12 : Int) < l.length) = true := by rw [decide_eq_true_eq]; omega
    clear HR WI hl
    go_wp2_with fail
    go_ret
    exact ⟨by rw [E.out]; rfl, Q0.out⟩
  have h12 : decide ((12 : Int) < l.length) = false := by rw [decide_eq_false_iff_not]; omega
  have HL := hide hl
  clear hl
  by_cases hb : base ≤ 2048 - nodes
  case neg =>
    have E := hide (show r = false by rw [HR.out, decide_eq_false hb, Bool.false_and, Bool.and_false, Bool.and_false])
    have hd : decide (2048 - nodes < base) = true := by rw [decide_eq_true_eq]; omega
    clear HR WI HN hb
    go_wp2_with fail
    go_ret
    exact ⟨by rw [E.out]; rfl, Q0.out⟩
  have hd : decide (2048 - nodes < base) = false := by rw [decide_eq_false_iff_not]; omega
  replace HR := hide (show r = (inI rep 0 1000 && (inI rate 1 2000 && (inI cycle 1 1000 && (inI heard (cycle + 1) 1000 && inI wait 1 1000)))) by rw [HR.out, HN.out, decide_eq_true HL.out, decide_eq_true hb]; rfl)
  clear hb HN HL
  go_wp2_with fail
  (with_reducible refine (WI.out _ _ _ _).mono ?_)
  rintro e0 w2 ⟨rfl, rfl⟩
  rcases h0 : inI rep 0 1000 with _ | _
  · have E := hide (show r = false by rw [HR.out, h0]; rfl)
    clear HR WI h0
    go_wp2_with fail
    go_ret
    exact ⟨by rw [E.out]; rfl, Q0.out⟩
  replace HR := hide (show _ from HR.out.trans (by rw [h0, Bool.true_and]))
  have k0 := inI_true h0
  clear h0
  go_wp2_with fail
  (with_reducible refine (WI.out _ _ _ _).mono ?_)
  rintro e1 w3 ⟨rfl, rfl⟩
  rcases h1 : inI rate 1 2000 with _ | _
  · have E := hide (show r = false by rw [HR.out, h1]; rfl)
    clear HR WI h1
    go_wp2_with fail
    go_ret
    exact ⟨by rw [E.out]; rfl, Q0.out⟩
  replace HR := hide (show _ from HR.out.trans (by rw [h1, Bool.true_and]))
  have k1 := inI_true h1
  clear h1
  go_wp2_with fail
  (with_reducible refine (WI.out _ _ _ _).mono ?_)
  rintro e2 w4 ⟨rfl, rfl⟩
  rcases h2 : inI cycle 1 1000 with _ | _
  · have E := hide (show r = false by rw [HR.out, h2]; rfl)
    clear HR WI h2
    go_wp2_with fail
    go_ret
    exact ⟨by rw [E.out]; rfl, Q0.out⟩
  replace HR := hide (show _ from HR.out.trans (by rw [h2, Bool.true_and]))
  have k2 := inI_true h2
  clear h2
  go_wp2_with fail
  (with_reducible refine (WI.out _ _ _ _).mono ?_)
  rintro e3 w5 ⟨rfl, rfl⟩
  rcases h3 : inI heard (cycle + 1) 1000 with _ | _
  · have E := hide (show r = false by rw [HR.out, h3]; rfl)
    clear HR WI h3
    go_wp2_with fail
    go_ret
    exact ⟨by rw [E.out]; rfl, Q0.out⟩
  replace HR := hide (show _ from HR.out.trans (by rw [h3, Bool.true_and]))
  have k3 := inI_true h3
  clear h3
  go_wp2_with fail
  (with_reducible refine (WI.out _ _ _ _).mono ?_)
  rintro e4 w6 ⟨rfl, rfl⟩
  rcases h4 : inI wait 1 1000 with _ | _
  · have E := hide (show r = false by rw [HR.out, h4])
    clear HR WI h4
    go_wp2_with fail
    go_ret
    exact ⟨by rw [E.out]; rfl, Q0.out⟩
  have E := hide (show r = true by rw [HR.out, h4])
  clear HR WI h4
  go_wp2_with fail
  go_ret
  exact ⟨by rw [E.out]; rfl, Q0.out⟩
end Go.Proofs.Ytplpnnjjjfcibaa
