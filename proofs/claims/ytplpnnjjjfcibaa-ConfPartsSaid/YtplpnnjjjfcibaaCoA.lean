/- The walks of conf.within, conf.out. -/
import Derived.Test.YtplpnnjjjfcibaaCmD
import Derived.Test.YtplpnnjjjfcibaaCmF
namespace Go.Proofs.Ytplpnnjjjfcibaa
open Go.ChangeShapes Go.WideShapes Go.ChangeAt Go.RowKit
open CM PD SG

/-- A Pdu's data with its rows' places. -/
structure Pd where
  id : Int
  frm : Int
  dst : Int
  ly : Lv
  fill : Int
  S : Iv
  subs : Iv
  fl : Fv
  yes : Wy
  no : Wy
  delay : Int
  limit : Int
def Pd.cs (p : Pd) : List Value := [.int .u32 p.id, .int .i64 p.frm, .int .i64 p.dst, .int .i64 p.ly.L.size, .slice p.ly.A p.ly.L.sgs.length p.ly.c, .slice p.ly.B p.ly.L.nws.length p.ly.d, .int .u8 p.fill, p.S.v, p.subs.v, p.fl.v, .int .i64 p.yes.kind, .int .i64 p.yes.first, .int .i64 p.yes.period, .int .i64 p.yes.reps, .int .i64 p.yes.gap, .int .i64 p.no.kind, .int .i64 p.no.first, .int .i64 p.no.period, .int .i64 p.no.reps, .int .i64 p.no.gap, .int .i64 p.delay, .int .i64 p.limit]
structure Pd.Ok (p : Pd) (w : World) : Prop where
  ly : p.ly.Ok w
  S : p.S.Ok w
  subs : p.subs.Ok w
  fl : p.fl.Ok w
  id : 0 ≤ p.id ∧ p.id < 4294967296
  frm : lim p.frm
  dst : lim p.dst
  limit : lim p.limit
theorem Pd.Ok.next {o : Pd} {w w' : World} (h : o.Ok w) (q : Below w.heap.size w w') : o.Ok w' := ⟨h.ly.next q, h.S.next q, h.subs.next q, h.fl.next q, h.id, h.frm, h.dst, h.limit⟩
theorem pd_cells {W : World} {B : Nat} {p : Pd} {t : TypeId} {fz : Nat × Nat} (h : W.heap[B]? = some (.cells p.cs.toArray t fz)) :
    (W.cell? ⟨B, 0, none⟩ = some (.int .u32 p.id) ∧ W.cell? ⟨B, 1, none⟩ = some (.int .i64 p.frm) ∧ W.cell? ⟨B, 2, none⟩ = some (.int .i64 p.dst) ∧ W.cell? ⟨B, 3, none⟩ = some (.int .i64 p.ly.L.size) ∧ W.cell? ⟨B, 4, none⟩ = some (.slice p.ly.A p.ly.L.sgs.length p.ly.c) ∧ W.cell? ⟨B, 5, none⟩ = some (.slice p.ly.B p.ly.L.nws.length p.ly.d) ∧ W.cell? ⟨B, 6, none⟩ = some (.int .u8 p.fill) ∧ W.cell? ⟨B, 7, none⟩ = some (.slice p.S.a p.S.l.length p.S.c) ∧ W.cell? ⟨B, 8, none⟩ = some (.slice p.subs.a p.subs.l.length p.subs.c) ∧ W.cell? ⟨B, 9, none⟩ = some (.slice p.fl.a p.fl.l.length p.fl.c)) ∧
    W.cell? ⟨B, 10, none⟩ = some (.int .i64 p.yes.kind) ∧ W.cell? ⟨B, 11, none⟩ = some (.int .i64 p.yes.first) ∧ W.cell? ⟨B, 12, none⟩ = some (.int .i64 p.yes.period) ∧ W.cell? ⟨B, 13, none⟩ = some (.int .i64 p.yes.reps) ∧ W.cell? ⟨B, 14, none⟩ = some (.int .i64 p.yes.gap) ∧
    W.cell? ⟨B, 15, none⟩ = some (.int .i64 p.no.kind) ∧ W.cell? ⟨B, 16, none⟩ = some (.int .i64 p.no.first) ∧ W.cell? ⟨B, 17, none⟩ = some (.int .i64 p.no.period) ∧ W.cell? ⟨B, 18, none⟩ = some (.int .i64 p.no.reps) ∧ W.cell? ⟨B, 19, none⟩ = some (.int .i64 p.no.gap) ∧
    W.cell? ⟨B, 20, none⟩ = some (.int .i64 p.delay) ∧ W.cell? ⟨B, 21, none⟩ = some (.int .i64 p.limit) := by
  simp [World.cell?, h, Pd.cs, Iv.v, Fv.v]
theorem conf_within_any (n a b : Int) (w : World) : Calls Try.prog 63 #[.int .i64 n, .int .i64 a, .int .i64 b] w fun e w' => e = .returned (.bool (decide (a ≤ n ∧ n ≤ b))) ∧ w' = w := by
  obtain ⟨r, hr⟩ : ∃ r, r = decide (a ≤ n ∧ n ≤ b) := ⟨_, rfl⟩
  rw [← hr]
  have HR := hide (show r = true ↔ (a ≤ n ∧ n ≤ b) by rw [hr]; simp)
  clear hr
  go_enter Try.func63, Try.ntmps63
  go_wp2_with fail
  all_goals go_ret
  all_goals refine ⟨ret_bool ?_, rfl⟩
  all_goals (first | exact r_true HR.out (by omega) | exact r_false HR.out (by omega) | exact r_dec HR.out (by omega))

set_option maxRecDepth 100000 in
set_option maxHeartbeats 16000000 in
theorem confOut_any (p : Pd) (w : World) (ho : p.Ok w) : Calls Try.prog 64 #[.agg p.cs.toArray] w fun e w' => (∃ V E, e = .returned (.tuple #[.agg V.cs.toArray, .int .i64 E]) ∧ V.Ok w' ∧ V.New w.heap.size ∧ NouV p.ly p.fill p.fl p.S.l p.yes p.no p.delay V E) ∧ Below w.heap.size w w' := by
  obtain ⟨w0, hw0⟩ : ∃ w0, w0 = (w.alloc (.cells p.cs.toArray 67)).alloc (.cells zOu.toArray 73) := ⟨_, rfl⟩
  have step : ∀ (W : World) (o : Obj), Below W.heap.size W (W.alloc o) := fun W o => (Below.refl _ _).alloc (Nat.le_refl _) _
  have B1 := hide (heap_below (World.alloc_heap_new w (.cells p.cs.toArray 67)) (step _ (.cells zOu.toArray 73)))
  have B2 := hide (World.alloc_heap_new (w.alloc (.cells p.cs.toArray 67)) (.cells zOu.toArray 73))
  have Q0 : Hid (Below w.heap.size w w0) := by rw [hw0]; exact hide ((step _ _).alloc (by simp) _)
  rw [← hw0] at B1 B2
  simp only [World.size_alloc] at B2
  have z0 : w.heap.size + 1 < w0.heap.size := heap_lt B2.out
  have o0 := ho.next Q0.out
  have NO := newOut_any p.ly p.fill p.S p.fl p.yes p.no p.delay w0 o0.ly o0.fl o0.S
  unfold Lv.cs wycL Iv.v Fv.v at NO
  replace NO := hide NO
  clear step o0
  obtain ⟨⟨c0, c1, c2, c3, c4, c5, c6, c7, c8, c9⟩, d0, d1, d2, d3, d4, d5, d6, d7, d8, d9, d10, d11⟩ := pd_cells B1.out
  go_enter Try.func64, Try.ntmps64
  go_upto_region 1 with fail
  change Code.wp _ _ _ _ ((w.alloc (.cells p.cs.toArray 67)).alloc (.cells zOu.toArray 73))
  rw [← hw0]
  clear hw0
  go_wp2_with fail
  (with_reducible refine (NO.out).mono ?_)
  rintro e1 w1 ⟨⟨V, E, rfl, hV, hN, hD⟩, q1⟩
  have C2 := hide (heap_below B2.out q1)
  have Q1 := hide (below_next Q0.out Q0.out.size q1)
  have HV := hide hV
  have HN := hide hN
  have HD := hide hD
  clear q1 B1 B2 Q0 NO hV hN hD c0 c1 c2 c3 c4 c5 c6 c7 c8 c9 d0 d1 d2 d3 d4 d5 d6 d7 d8 d9 d10 d11
  have TH := hide (show w1.there (w.heap.size + 1) 0 26 from there_heap (cs := zOu) C2.out)
  have z1 : w.heap.size + 1 < w1.heap.size := heap_lt C2.out
  go_wp2_with (refine wpList_store_hid (by rfl) 73 (.tmp 2) (.tmp 19) (by rfl) (w.heap.size + 1) 0 V.cs (by rfl) (by rfl) (by exact TH.out) (by kernel_rfl) (by simp [Value.oneCell', Ou.cs, Iv.v, Fv.v, Bv.v]) ?_)
  intro w9 e9
  have A9 := hide (show w9.heap[w.heap.size + 1]? = some (.cells V.cs.toArray 73 (0, 0)) by rw [e9.out]; exact whole_heap V.cs (xs := zOu) C2.out rfl)
  have Q9 := hide (show Below w.heap.size w w9 by rw [e9.out]; exact Q1.out.trans (below_setCells (g := w.heap.size + 1) _ 0 _ (by omega)))
  have hO := hide (show V.Ok w9 from by
    have hly : V.ly.Ok w9 ∧ V.fl.Ok w9 := by
      rcases HD.out with ⟨_, _, h1, _, h2, _⟩ | ⟨_, _, h⟩
      · rw [h1, h2]; exact ⟨(ho.ly.next Q9.out), (ho.fl.next Q9.out)⟩
      · rw [h]; exact ⟨(Ou.zero_ok _).ly, (Ou.zero_ok _).fl⟩
    exact ⟨hly.1, hly.2, ⟨rd_behind HV.out.S.r HN.out.S z0 e9.out, HV.out.S.m, HV.out.S.n⟩, ⟨rd_behind HV.out.G.r HN.out.G z0 e9.out, HV.out.G.m, HV.out.G.n⟩, ⟨rd_behind HV.out.news.r HN.out.news z0 e9.out, HV.out.news.n⟩⟩)
  have hNW := hide (show V.New w.heap.size from ⟨fun g off h => by have := HN.out.S g off h; omega, fun g off h => by have := HN.out.G g off h; omega, fun g off h => by have := HN.out.news g off h; omega⟩)
  clear e9 TH C2
  go_wp2_with fail
  refine bodyPost_ret (results_cell_tmp (by rfl) _ w9 (w.heap.size + 1) 73 V.cs.toArray (0, 0) _ (.int .i64 E) (by rfl) (by rfl) A9.out Try.underlying73 (by rfl) (by kernel_rfl)) rfl ⟨⟨V, E, rfl, hO.out, hNW.out, HD.out⟩, Q9.out⟩
end Go.Proofs.Ytplpnnjjjfcibaa
