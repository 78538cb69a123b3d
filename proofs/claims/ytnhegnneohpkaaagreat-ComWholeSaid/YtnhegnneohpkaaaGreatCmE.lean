/- Bytes that are sent; the walk of com.RightOut. -/
import Derived.Test.YtnhegnneohpkaaaGreatMgCmC
namespace Go.Proofs.YtnhegnneohpkaaaGreat
open Go.ChangeShapes Go.WideShapes Go.ChangeAt Go.RowKit
open CM PD SG

/-- Bools with their slice. -/
structure Bv where
  l : List Bool
  a : Option Addr
  c : Nat
def Bv.v (i : Bv) : Value := .slice i.a i.l.length i.c
structure Bv.Ok (i : Bv) (w : World) : Prop where
  r : BoR w w.heap.size i.a i.l
  n : i.l.length ≤ 1000
theorem Bv.Ok.next {i : Bv} {w w' : World} (h : i.Ok w) (q : Below w.heap.size w w') : i.Ok w' := ⟨Rd.next h.r q q.size, h.n⟩
def Bv.zero : Bv := ⟨[], none, 0⟩
theorem Bv.zero_ok (w : World) : Bv.zero.Ok w := ⟨Rd.nil, by simp [Bv.zero]⟩

structure Ou where
  ly : Lv
  fill : Int
  fl : Fv
  S : Iv
  G : Iv
  times : Int
  news : Bv
  snd : Snd
def Ou.cs (o : Ou) : List Value := [.int .i64 o.ly.L.size, .slice o.ly.A o.ly.L.sgs.length o.ly.c, .slice o.ly.B o.ly.L.nws.length o.ly.d, .int .u8 o.fill, o.fl.v, o.S.v, o.G.v, .int .i64 o.times, o.news.v, .int .i64 o.snd.yes.kind, .int .i64 o.snd.yes.first, .int .i64 o.snd.yes.period, .int .i64 o.snd.yes.reps, .int .i64 o.snd.yes.gap, .int .i64 o.snd.no.kind, .int .i64 o.snd.no.first, .int .i64 o.snd.no.period, .int .i64 o.snd.no.reps, .int .i64 o.snd.no.gap, .bool o.snd.on, .int .i64 o.snd.delay, .int .i64 o.snd.period, .int .i64 o.snd.gap, .int .i64 o.snd.left, .int .i64 o.snd.hold, .bool o.snd.asked]
structure Ou.Ok (o : Ou) (w : World) : Prop where
  ly : o.ly.Ok w
  fl : o.fl.Ok w
  S : o.S.Ok w
  G : o.G.Ok w
  news : o.news.Ok w
theorem Ou.Ok.next {o : Ou} {w w' : World} (h : o.Ok w) (q : Below w.heap.size w w') : o.Ok w' := ⟨h.ly.next q, h.fl.next q, h.S.next q, h.G.next q, h.news.next q⟩
def Ou.zero : Ou := ⟨.zero, 0, .zero, .zero, .zero, 0, .zero, zSnd⟩
theorem Ou.zero_ok (w : World) : Ou.zero.Ok w := ⟨Lv.zero_ok w, Fv.zero_ok w, Iv.zero_ok w, Iv.zero_ok w, Bv.zero_ok w⟩
def Ou.right (o : Ou) : Bool := comB o.ly.L o.fl.l o.S.l o.G.l o.times && (decide (o.news.l.length = o.ly.L.sgs.length) && sndB o.snd)
theorem ou_cells {W : World} {B : Nat} {o : Ou} {t : TypeId} {fz : Nat × Nat} (h : W.heap[B]? = some (.cells o.cs.toArray t fz)) :
    (W.cell? ⟨B, 0, none⟩ = some (.int .i64 o.ly.L.size) ∧ W.cell? ⟨B, 1, none⟩ = some (.slice o.ly.A o.ly.L.sgs.length o.ly.c) ∧ W.cell? ⟨B, 2, none⟩ = some (.slice o.ly.B o.ly.L.nws.length o.ly.d) ∧ W.cell? ⟨B, 3, none⟩ = some (.int .u8 o.fill) ∧ W.cell? ⟨B, 4, none⟩ = some o.fl.v ∧ W.cell? ⟨B, 5, none⟩ = some o.S.v ∧ W.cell? ⟨B, 6, none⟩ = some o.G.v ∧ W.cell? ⟨B, 7, none⟩ = some (.int .i64 o.times) ∧ W.cell? ⟨B, 8, none⟩ = some o.news.v) ∧
    W.cell? ⟨B, 9, none⟩ = some (.int .i64 o.snd.yes.kind) ∧ W.cell? ⟨B, 10, none⟩ = some (.int .i64 o.snd.yes.first) ∧ W.cell? ⟨B, 11, none⟩ = some (.int .i64 o.snd.yes.period) ∧ W.cell? ⟨B, 12, none⟩ = some (.int .i64 o.snd.yes.reps) ∧ W.cell? ⟨B, 13, none⟩ = some (.int .i64 o.snd.yes.gap) ∧
    W.cell? ⟨B, 14, none⟩ = some (.int .i64 o.snd.no.kind) ∧ W.cell? ⟨B, 15, none⟩ = some (.int .i64 o.snd.no.first) ∧ W.cell? ⟨B, 16, none⟩ = some (.int .i64 o.snd.no.period) ∧ W.cell? ⟨B, 17, none⟩ = some (.int .i64 o.snd.no.reps) ∧ W.cell? ⟨B, 18, none⟩ = some (.int .i64 o.snd.no.gap) ∧
    W.cell? ⟨B, 19, none⟩ = some (.bool o.snd.on) ∧ W.cell? ⟨B, 20, none⟩ = some (.int .i64 o.snd.delay) ∧ W.cell? ⟨B, 21, none⟩ = some (.int .i64 o.snd.period) ∧ W.cell? ⟨B, 22, none⟩ = some (.int .i64 o.snd.gap) ∧ W.cell? ⟨B, 23, none⟩ = some (.int .i64 o.snd.left) ∧ W.cell? ⟨B, 24, none⟩ = some (.int .i64 o.snd.hold) ∧ W.cell? ⟨B, 25, none⟩ = some (.bool o.snd.asked) := by
  simp [World.cell?, h, Ou.cs]

set_option maxRecDepth 100000 in
set_option maxHeartbeats 8000000 in
theorem rightOut_any (o : Ou) (w : World) (ho : o.Ok w) : Calls Tryz.prog 25 #[.agg o.cs.toArray] w fun e w' => e = .returned (.bool o.right) ∧ Below w.heap.size w w' := by
  obtain ⟨r, hr⟩ : ∃ r, r = o.right := ⟨_, rfl⟩
  rw [← hr]
  unfold Ou.right at hr
  have HR := hide hr
  clear hr
  have q0 : Below w.heap.size w (w.alloc (.cells o.cs.toArray 40)) := (Below.refl _ _).alloc (Nat.le_refl _) _
  have B0 := hide (World.alloc_heap_new w (.cells o.cs.toArray 40))
  have CM := hide (fun (W : World) (hb : Below w.heap.size w W) => have k := ho.next hb; common_any o.ly.L o.ly.A o.ly.c o.ly.B o.ly.d o.fl.l o.fl.a o.fl.c o.S.l o.G.l o.S.a o.S.c o.G.a o.G.c o.times W k.ly.a k.ly.b k.ly.s k.ly.n k.ly.c k.ly.d k.fl.r k.fl.n k.S.r k.G.r k.S.m k.G.m)
  have SR := hide (fun W => sndRight_any o.snd W)
  unfold lyV grV at *
  generalize comB o.ly.L o.fl.l o.S.l o.G.l o.times = cb at *
  generalize sndB o.snd = sb at *
  have Q0 := hide q0
  clear ho q0
  generalize hw0 : w.alloc (.cells o.cs.toArray 40) = w0 at *
  obtain ⟨⟨c0, c1, c2, c3, c4, c5, c6, c7, c8⟩, d0, d1, d2, d3, d4, d5, d6, d7, d8, d9, d10, d11, d12, d13, d14, d15, d16⟩ := ou_cells B0.out
  unfold Fv.v at c4
  unfold Iv.v at c5 c6
  clear d0 d1 d2 d3 d4 d5 d6 d7 d8 d9 d10 d11 d12 d13 d14 d15 d16 c8
  go_enter Tryz.func25, Tryz.ntmps25
  go_wp2_with fail
  (with_reducible refine (CM.out _ Q0.out).mono ?_)
  rintro e1 w1 ⟨rfl, q1⟩
  have B1 := hide (heap_below B0.out q1)
  have Q1 := hide (below_next Q0.out Q0.out.size q1)
  clear q1 B0 Q0 hw0 CM c0 c1 c2 c3 c4 c5 c6 c7
  cases cb with
  | false =>
    have E := hide (show r = false by rw [HR.out]; rfl)
    clear HR SR
    go_wp2_with fail
    go_ret
    exact ⟨by rw [E.out]; rfl, Q1.out⟩
  | true =>
  obtain ⟨⟨c0, c1, c2, c3, c4, c5, c6, c7, c8⟩, d0, d1, d2, d3, d4, d5, d6, d7, d8, d9, d10, d11, d12, d13, d14, d15, d16⟩ := ou_cells B1.out
  unfold Bv.v at c8
  by_cases hn : o.news.l.length = o.ly.L.sgs.length
  · have e1 : ((o.news.l.length : Int) == (o.ly.L.sgs.length : Int)) = true := by rw [beq_iff_eq]; omega
    have E := hide (show r = sb by rw [HR.out, decide_eq_true hn]; rfl)
    clear HR hn
    go_wp2_with fail
    refine (SR.out _).mono ?_
    rintro e3 w3 ⟨rfl, q3⟩
    have Q3 := hide (below_next Q1.out Q1.out.size q3)
    clear q3 B1 Q1 SR c0 c1 c2 c3 c4 c5 c6 c7 c8 d0 d1 d2 d3 d4 d5 d6 d7 d8 d9 d10 d11 d12 d13 d14 d15 d16
    go_wp2_with fail
    go_ret
    exact ⟨by rw [E.out]; rfl, Q3.out⟩
  · have e1 : ((o.news.l.length : Int) == (o.ly.L.sgs.length : Int)) = false := by rw [beq_eq_false_iff_ne]; omega
    have E := hide (show r = false by rw [HR.out, decide_eq_false hn]; rfl)
    clear HR hn SR d0 d1 d2 d3 d4 d5 d6 d7 d8 d9 d10 d11 d12 d13 d14 d15 d16
    go_wp2_with fail
    go_ret
    exact ⟨by rw [E.out]; rfl, Q1.out⟩
end Go.Proofs.YtnhegnneohpkaaaGreat
