import Derived.Test.YtkmddjbialpppaaGreatDoorMgSnD
namespace Go.Proofs.YtkmddjbialpppaaGreatDoor
open Go.ChangeShapes Go.WideShapes Go.ChangeAt Go.RowKit
open CM PD SG
def newInB (ly : Lv) (fl : Fv) (first subs : List Int) (w : Wt) : Bool := jX ly.L fl.l (g9 first) (g9 first) 0 && (fitA ly.L subs && wtB w)
def NinV (ly : Lv) (fl : Fv) (first : List Int) (subs : Iv) (w : Wt) (V : Inn) (E : Int) : Prop :=
  (newInB ly fl first subs.l w = true ∧ E = 0 ∧ V.ly = ly ∧ V.fl = fl ∧ V.S.l = g9 first ∧ V.G.l = g9 first ∧ V.times = 0 ∧ V.subs = subs ∧ V.w = w) ∨ (newInB ly fl first subs.l w = false ∧ E = 1 ∧ V = .zero)
theorem wt_cells {W : World} {B : Nat} {f : Wt} {t : TypeId} {fz : Nat × Nat} (h : W.heap[B]? = some (.cells (cQ f).toArray t fz)) :
    W.cell? ⟨B, 0, none⟩ = some (.int .i64 f.first) ∧ W.cell? ⟨B, 1, none⟩ = some (.int .i64 f.each) ∧ W.cell? ⟨B, 2, none⟩ = some (.int .i64 f.left) ∧ W.cell? ⟨B, 3, none⟩ = some (.bool f.on) ∧ W.cell? ⟨B, 4, none⟩ = some (.bool f.late) := by
  simp [World.cell?, h, cQ]
theorem gnL_lim {l : List Int} (h : ∀ v ∈ l, lim v) : ∀ v ∈ g9 l, lim v := by
  unfold g9
  split
  · exact h
  · intro v hv; cases hv
theorem gnL_len {l : List Int} (h : l.length ≤ 9223372036854775807) : (g9 l).length ≤ 9223372036854775807 := by
  unfold g9
  split
  · exact h
  · simp
structure Inn.New (i : Inn) (B : Nat) : Prop where
  S : ∀ g off, i.S.a = some ⟨g, off, none⟩ → B ≤ g
  G : ∀ g off, i.G.a = some ⟨g, off, none⟩ → B ≤ g
theorem Inn.zero_new (B : Nat) : Inn.zero.New B := ⟨fun _ _ h => by simp [Inn.zero, Iv.zero] at h, fun _ _ h => by simp [Inn.zero, Iv.zero] at h⟩
def zIn : List Value := Inn.zero.cs
theorem cH {w w' : World} {A : Option Addr} {sz B b o : Nat} {R : List (List Value)} {vs : List Value} (h : Rd w w.heap.size A sz R) (hb : ∀ g off, A = some ⟨g, off, none⟩ → B ≤ g) (hB : b < B) (e : w' = w.setCells b o vs) : Rd w' w'.heap.size A sz R :=
  rd_far h hb (by rw [e, gZ]; omega) (fun g j h1 _ => by rw [e]; exact f9 (by omega))
set_option maxRecDepth 100000 in
set_option maxHeartbeats 8000000 in
theorem newIn_any (ly : Lv) (fl : Fv) (first subs : Iv) (wt : Wt) (w : World) (hly : ly.Ok w) (hfl : fl.Ok w) (hfi : first.Ok w) (hsu : subs.Ok w) :
    Calls Tryz.prog 129 #[.agg ly.cs.toArray, first.v, subs.v, fl.v, .agg (cQ wt).toArray] w fun e w' => (∃ V E, e = .returned (.tuple #[.agg V.cs.toArray, .int .i64 E]) ∧ V.Ok w' ∧ V.New w.heap.size ∧ NinV ly fl first.l subs wt V E) ∧ Below w.heap.size w w' := by
  have GN := aA (fun (W : World) (hb : Below w.heap.size w W) => have o := hfi.next hb; grNew_any first.l first.a first.c W o.r (by have := hfi.n; omega))
  have RI := aA (fun (i : Inn) (W : World) (ho : i.Ok W) => rightIn_any i W ho)
  have HLY := aA hly
  have HFL := aA hfl
  have HFI := aA hfi
  have HSU := aA hsu
  obtain ⟨w0, hw0⟩ : ∃ w0, w0 = ((w.alloc (.cells ly.cs.toArray 66)).alloc (.cells (cQ wt).toArray 100)).alloc (.cells zIn.toArray 102) := ⟨_, rfl⟩
  have a1 := (Below.refl _ _).alloc (Nat.le_refl w.heap.size) (.cells ly.cs.toArray 66)
  have b1 := World.alloc_heap_new w (.cells ly.cs.toArray 66)
  have z1 : (w.alloc (.cells ly.cs.toArray 66)).heap.size = w.heap.size + 1 := by simp
  have a2 := (Below.refl _ (w.alloc (.cells ly.cs.toArray 66))).alloc (Nat.le_refl _) (.cells (cQ wt).toArray 100)
  have b2 := World.alloc_heap_new (w.alloc (.cells ly.cs.toArray 66)) (.cells (cQ wt).toArray 100)
  have z2 : ((w.alloc (.cells ly.cs.toArray 66)).alloc (.cells (cQ wt).toArray 100)).heap.size = w.heap.size + 1 + 1 := by simp
  have a3 := (Below.refl _ ((w.alloc (.cells ly.cs.toArray 66)).alloc (.cells (cQ wt).toArray 100))).alloc (Nat.le_refl _) (.cells zIn.toArray 102)
  have b3 := World.alloc_heap_new ((w.alloc (.cells ly.cs.toArray 66)).alloc (.cells (cQ wt).toArray 100)) (.cells zIn.toArray 102)
  have B1 := aA (aB (aB b1 a2) a3)
  have B2 := aA (aB b2 a3)
  have B3 := aA b3
  have Q0 := aA (aC (aC a1 a1.size a2) (aC a1 a1.size a2).size a3)
  rw [← hw0] at B1 B2 B3 Q0
  rw [z1] at B2
  rw [z2] at B3
  have GN0 := aA (GN.out _ Q0.out)
  clear a1 a2 a3 b1 b2 b3 z1 z2 hly hfl hfi hsu GN
  unfold Iv.v Fv.v
  go_enter Tryz.func129, Tryz.ntmps129
  go_upto_region 1 with fail
  change Code.wp _ _ _ _ (((w.alloc (.cells ly.cs.toArray 66)).alloc (.cells (cQ wt).toArray 100)).alloc (.cells zIn.toArray 102))
  rw [← hw0]
  clear hw0
  go_wp2_with fail
  (with_reducible refine (GN0.out).mono ?_)
  rintro e1 w1 ⟨⟨⟨Sa, Sn, Sc⟩, ⟨Ga, Gn, Gc⟩, rfl, hSn, hGn, rS, rG, bS, bG⟩, q1⟩
  dsimp only at hSn hGn rS rG bS bG
  have z0 : w.heap.size + 1 + 1 < w0.heap.size := aH B3.out
  have BS := aA bS
  have BG := aA bG
  clear bS bG
  subst hSn hGn
  have C1 := aA (aB B1.out q1)
  have C2 := aA (aB B2.out q1)
  have C3 := aA (aB B3.out q1)
  have Q1 := aA (aC Q0.out Q0.out.size q1)
  have RS := aA rS
  have RG := aA rG
  clear q1 B1 B2 B3 Q0 GN0 rS rG
  have q2 : Below w1.heap.size w1 (w1.alloc (.cells #[.slice none 0 0, .slice none 0 0, .int .i64 0] 70)) := (Below.refl _ _).alloc (Nat.le_refl _) _
  have g2 := World.alloc_heap_new w1 (.cells #[.slice none 0 0, .slice none 0 0, .int .i64 0] 70)
  have TH := aA (show (w1.alloc (.cells #[.slice none 0 0, .slice none 0 0, .int .i64 0] 70)).there w1.heap.size 0 3 from aK (cs := [_, _, _]) g2)
  go_wp2_with (refine aF (by rfl) 70 (.tmp 12) (.tmp 18) (by rfl) w1.heap.size 0 (grL ⟨Sa, (g9 first.l).length, Sc⟩ ⟨Ga, (g9 first.l).length, Gc⟩ 0) (by rfl) (by rfl) (by exact TH.out) (by kernel_rfl) (by simp [Value.oneCell', grL, Sl.v]) ?_)
  intro w2 e2
  have hz := q2.size
  have z3 : w.heap.size + 1 + 1 < w1.heap.size := aH C3.out
  have s2 : Below w1.heap.size w1 w2 := by rw [e2.out]; exact q2.trans (aE (g := w1.heap.size) _ 0 _ (Nat.le_refl _))
  have G2 := aA (show w2.heap[w1.heap.size]? = some (.cells (grL ⟨Sa, (g9 first.l).length, Sc⟩ ⟨Ga, (g9 first.l).length, Gc⟩ 0).toArray 70 (0, 0)) by rw [e2.out]; exact aJ (grL ⟨Sa, (g9 first.l).length, Sc⟩ ⟨Ga, (g9 first.l).length, Gc⟩ 0) (xs := [_, _, _]) g2 rfl)
  have D1 := aA (aB C1.out s2)
  have D2 := aA (aB C2.out s2)
  have D3 := aA (aB C3.out s2)
  have Q2 := aA (aC Q1.out Q1.out.size s2)
  have RS2 := aA (Rd.next RS.out s2 s2.size)
  have RG2 := aA (Rd.next RG.out s2 s2.size)
  clear e2 g2 TH q2 hz s2 C1 C2 C3 Q1 RS RG
  generalize w1.heap.size = gb at *
  obtain ⟨c0, c1, c2⟩ := bK (show w2.heap[w.heap.size]? = some (.cells #[.int .i64 ly.L.size, .slice ly.A ly.L.sgs.length ly.c, .slice ly.B ly.L.nws.length ly.d] 66 (0, 0)) from D1.out)
  obtain ⟨d0, d1, d2, d3, d4⟩ := wt_cells D2.out
  obtain ⟨g0, g1, g2⟩ := bK (show w2.heap[gb]? = some (.cells #[.slice Sa (g9 first.l).length Sc, .slice Ga (g9 first.l).length Gc, .int .i64 0] 70 (0, 0)) from G2.out)
  obtain ⟨I, hI⟩ : ∃ I : Inn, I = ⟨ly, fl, ⟨g9 first.l, Sa, Sc⟩, ⟨g9 first.l, Ga, Gc⟩, 0, subs, wt⟩ := ⟨_, rfl⟩
  have q3 : Below w2.heap.size w2 (w2.alloc (.cells zIn.toArray 102)) := (Below.refl _ _).alloc (Nat.le_refl _) _
  have b3 := World.alloc_heap_new w2 (.cells zIn.toArray 102)
  have TH := aA (show (w2.alloc (.cells zIn.toArray 102)).there w2.heap.size 0 13 from aK (cs := zIn) b3)
  have hm := gnL_lim HFI.out.m
  have hn := gnL_len HFI.out.n
  have IO := aA (fun (W : World) (hb : Below w2.heap.size w2 W) => show I.Ok W from by
    have hbw := Q2.out.trans (hb.mono Q2.out.size)
    rw [hI]
    exact ⟨HLY.out.next hbw, HFL.out.next hbw, ⟨Rd.next RS2.out hb hb.size, hm, hn⟩, ⟨Rd.next RG2.out hb hb.size, hm, hn⟩, HSU.out.next hbw⟩)
  clear hm hn
  go_wp2_with (refine aF (by rfl) 102 (.tmp 14) (.tmp 25) (by rfl) w2.heap.size 0 (Inn.cs ⟨ly, fl, ⟨g9 first.l, Sa, Sc⟩, ⟨g9 first.l, Ga, Gc⟩, 0, subs, wt⟩) (by rfl) (by rfl) (by exact TH.out) (by kernel_rfl) (by simp [Value.oneCell', Inn.cs, Iv.v, Fv.v]) ?_)
  rw [← hI]
  intro w3 e3
  have z22 : w.heap.size + 1 + 1 < w2.heap.size := aH D3.out
  have s3 : Below w2.heap.size w2 w3 := by rw [e3.out]; exact q3.trans (aE (g := w2.heap.size) _ 0 _ (Nat.le_refl _))
  have I3 := aA (show w3.heap[w2.heap.size]? = some (.cells I.cs.toArray 102 (0, 0)) by rw [e3.out]; exact aJ I.cs (xs := zIn) b3 rfl)
  have E3 := aA (aB D3.out s3)
  have Q3 := aA (aC Q2.out Q2.out.size s3)
  have IO3 := aA (fun (W : World) (hb : Below w3.heap.size w3 W) => IO.out W (aC s3 s3.size hb))
  have z23 := s3.size
  clear e3 TH b3 q3 s3 IO c0 c1 c2 d0 d1 d2 d3 d4 g0 g1 g2 D1 D2 D3 G2 RS2 RG2 Q2
  generalize w2.heap.size = ib at *
  have RI1 := aA (RI.out I w3 (IO3.out _ (Below.refl _ _)))
  have HB := aA (show I.right = newInB ly fl first.l subs.l wt by rw [hI]; rfl)
  have HI := aA hI
  obtain ⟨y, hy⟩ : ∃ y, y = I.right := ⟨_, rfl⟩
  rw [← hy] at RI1 HB
  clear hy hI RI
  go_wp2_with (refine wpList_load_row rfl 102 (.tmp 14) (by rfl) ib (by rfl) 102 I.cs.toArray (0, 0) _ (by exact I3.out) Tryz.underlying102 (by rfl) (by kernel_rfl) ?_)
  (with_reducible refine (RI1.out).mono ?_)
  rintro e4 w4 ⟨rfl, q4⟩
  have I4 := aA (aB I3.out q4)
  have E4 := aA (aB E3.out q4)
  have Q4 := aA (aC Q3.out Q3.out.size q4)
  have IO4 := aA (fun (W : World) (hb : Below w4.heap.size w4 W) => IO3.out W (aC q4 q4.size hb))
  clear q4 I3 E3 Q3 IO3 RI1
  have TH := aA (show w4.there (w.heap.size + 1 + 1) 0 13 from aK (cs := zIn) E4.out)
  cases y with
  | false =>
    go_wp2_with (refine aF (by rfl) 102 (.tmp 10) (.tmp 29) (by rfl) (w.heap.size + 1 + 1) 0 zIn (by rfl) (by rfl) (by exact TH.out) (by kernel_rfl) (by simp [Value.oneCell', zIn, Inn.zero, Inn.cs, Iv.v, Fv.v]) ?_)
    intro w5 e5
    have A5 := aA (show w5.heap[w.heap.size + 1 + 1]? = some (.cells Inn.zero.cs.toArray 102 (0, 0)) by rw [e5.out]; exact aJ zIn (xs := zIn) E4.out rfl)
    have Q5 := aA (show Below w.heap.size w w5 by rw [e5.out]; exact Q4.out.trans (aE (g := w.heap.size + 1 + 1) _ 0 _ (by omega)))
    clear e5 TH
    go_wp2_with fail
    refine bodyPost_ret (aP (by rfl) _ w5 (w.heap.size + 1 + 1) 102 Inn.zero.cs.toArray (0, 0) _ (.int .i64 1) (by rfl) (by rfl) A5.out Tryz.underlying102 (by rfl) (by kernel_rfl)) rfl ⟨⟨.zero, 1, rfl, Inn.zero_ok _, Inn.zero_new _, .inr ⟨HB.out.symm, rfl, rfl⟩⟩, Q5.out⟩
  | true =>
    go_wp2_with (first | (refine wpList_load_row rfl 102 (.tmp 14) (by rfl) ib (by rfl) 102 I.cs.toArray (0, 0) _ (by exact I4.out) Tryz.underlying102 (by rfl) (by kernel_rfl) ?_) | (refine aF (by rfl) 102 (.tmp 10) (.tmp 30) (by rfl) (w.heap.size + 1 + 1) 0 I.cs (by rfl) (by rfl) (by exact TH.out) (by kernel_rfl) (by simp [Value.oneCell', Inn.cs, Iv.v, Fv.v]) ?_))
    intro w5 e5
    have A5 := aA (show w5.heap[w.heap.size + 1 + 1]? = some (.cells I.cs.toArray 102 (0, 0)) by rw [e5.out]; exact aJ I.cs (xs := zIn) E4.out rfl)
    have Q5 := aA (show Below w.heap.size w w5 by rw [e5.out]; exact Q4.out.trans (aE (g := w.heap.size + 1 + 1) _ 0 _ (by omega)))
    have o4 := IO4.out w4 (Below.refl _ _)
    rw [HI.out] at o4
    have hO := aA (show I.Ok w5 from by
      rw [HI.out]
      exact ⟨HLY.out.next Q5.out, HFL.out.next Q5.out, ⟨cH o4.S.r BS.out z0 e5.out, o4.S.m, o4.S.n⟩, ⟨cH o4.G.r BG.out z0 e5.out, o4.G.m, o4.G.n⟩, HSU.out.next Q5.out⟩)
    have hNW := aA (show I.New w.heap.size from by
      rw [HI.out]
      exact ⟨fun g off h => by have := BS.out g off h; omega, fun g off h => by have := BG.out g off h; omega⟩)
    clear e5 TH o4
    go_wp2_with fail
    refine bodyPost_ret (aP (by rfl) _ w5 (w.heap.size + 1 + 1) 102 I.cs.toArray (0, 0) _ (.int .i64 0) (by rfl) (by rfl) A5.out Tryz.underlying102 (by rfl) (by kernel_rfl)) rfl ⟨⟨I, 0, rfl, hO.out, hNW.out, .inl ⟨HB.out.symm, rfl, by rw [HI.out], by rw [HI.out], by rw [HI.out], by rw [HI.out], by rw [HI.out], by rw [HI.out], by rw [HI.out]⟩⟩, Q5.out⟩
structure Bv where
  l : List Bool
  a : Option Addr
  c : Nat
def Bv.v (i : Bv) : Value := .slice i.a i.l.length i.c
structure Bv.Ok (i : Bv) (w : World) : Prop where
  r : BoR w w.heap.size i.a i.l
  n : i.l.length ≤ 9223372036854775807
theorem Bv.Ok.next {i : Bv} {w w' : World} (h : i.Ok w) (q : Below w.heap.size w w') : i.Ok w' := ⟨Rd.next h.r q q.size, h.n⟩
def Bv.zero : Bv := ⟨[], none, 0⟩
theorem Bv.zero_ok (w : World) : Bv.zero.Ok w := ⟨Rd.nil, by simp [Bv.zero]⟩
structure Ou where
  ly : Lv
  fill : Int
  fl : Fv
  S : Iv
  G : Iv
  times : Int
  news : Bv
  snd : Snd
def Ou.cs (o : Ou) : List Value := [.int .i64 o.ly.L.size, .slice o.ly.A o.ly.L.sgs.length o.ly.c, .slice o.ly.B o.ly.L.nws.length o.ly.d, .int .u8 o.fill, o.fl.v, o.S.v, o.G.v, .int .i64 o.times, o.news.v, .int .i64 o.snd.yes.kind, .int .i64 o.snd.yes.first, .int .i64 o.snd.yes.period, .int .i64 o.snd.yes.reps, .int .i64 o.snd.yes.gap, .int .i64 o.snd.no.kind, .int .i64 o.snd.no.first, .int .i64 o.snd.no.period, .int .i64 o.snd.no.reps, .int .i64 o.snd.no.gap, .bool o.snd.on, .int .i64 o.snd.delay, .int .i64 o.snd.period, .int .i64 o.snd.gap, .int .i64 o.snd.left, .int .i64 o.snd.hold, .bool o.snd.asked]
structure Ou.Ok (o : Ou) (w : World) : Prop where
  ly : o.ly.Ok w
  fl : o.fl.Ok w
  S : o.S.Ok w
  G : o.G.Ok w
  news : o.news.Ok w
theorem Ou.Ok.next {o : Ou} {w w' : World} (h : o.Ok w) (q : Below w.heap.size w w') : o.Ok w' := ⟨h.ly.next q, h.fl.next q, h.S.next q, h.G.next q, h.news.next q⟩
def Ou.zero : Ou := ⟨.zero, 0, .zero, .zero, .zero, 0, .zero, eM⟩
theorem Ou.zero_ok (w : World) : Ou.zero.Ok w := ⟨Lv.zero_ok w, Fv.zero_ok w, Iv.zero_ok w, Iv.zero_ok w, Bv.zero_ok w⟩
def Ou.right (o : Ou) : Bool := jX o.ly.L o.fl.l o.S.l o.G.l o.times && (decide (o.news.l.length = o.ly.L.sgs.length) && sndB o.snd)
theorem ou_cells {W : World} {B : Nat} {o : Ou} {t : TypeId} {fz : Nat × Nat} (h : W.heap[B]? = some (.cells o.cs.toArray t fz)) :
    (W.cell? ⟨B, 0, none⟩ = some (.int .i64 o.ly.L.size) ∧ W.cell? ⟨B, 1, none⟩ = some (.slice o.ly.A o.ly.L.sgs.length o.ly.c) ∧ W.cell? ⟨B, 2, none⟩ = some (.slice o.ly.B o.ly.L.nws.length o.ly.d) ∧ W.cell? ⟨B, 3, none⟩ = some (.int .u8 o.fill) ∧ W.cell? ⟨B, 4, none⟩ = some o.fl.v ∧ W.cell? ⟨B, 5, none⟩ = some o.S.v ∧ W.cell? ⟨B, 6, none⟩ = some o.G.v ∧ W.cell? ⟨B, 7, none⟩ = some (.int .i64 o.times) ∧ W.cell? ⟨B, 8, none⟩ = some o.news.v) ∧
    W.cell? ⟨B, 9, none⟩ = some (.int .i64 o.snd.yes.kind) ∧ W.cell? ⟨B, 10, none⟩ = some (.int .i64 o.snd.yes.first) ∧ W.cell? ⟨B, 11, none⟩ = some (.int .i64 o.snd.yes.period) ∧ W.cell? ⟨B, 12, none⟩ = some (.int .i64 o.snd.yes.reps) ∧ W.cell? ⟨B, 13, none⟩ = some (.int .i64 o.snd.yes.gap) ∧
    W.cell? ⟨B, 14, none⟩ = some (.int .i64 o.snd.no.kind) ∧ W.cell? ⟨B, 15, none⟩ = some (.int .i64 o.snd.no.first) ∧ W.cell? ⟨B, 16, none⟩ = some (.int .i64 o.snd.no.period) ∧ W.cell? ⟨B, 17, none⟩ = some (.int .i64 o.snd.no.reps) ∧ W.cell? ⟨B, 18, none⟩ = some (.int .i64 o.snd.no.gap) ∧
    W.cell? ⟨B, 19, none⟩ = some (.bool o.snd.on) ∧ W.cell? ⟨B, 20, none⟩ = some (.int .i64 o.snd.delay) ∧ W.cell? ⟨B, 21, none⟩ = some (.int .i64 o.snd.period) ∧ W.cell? ⟨B, 22, none⟩ = some (.int .i64 o.snd.gap) ∧ W.cell? ⟨B, 23, none⟩ = some (.int .i64 o.snd.left) ∧ W.cell? ⟨B, 24, none⟩ = some (.int .i64 o.snd.hold) ∧ W.cell? ⟨B, 25, none⟩ = some (.bool o.snd.asked) := by
  simp [World.cell?, h, Ou.cs]
set_option maxRecDepth 100000 in
set_option maxHeartbeats 8000000 in
theorem rightOut_any (o : Ou) (w : World) (ho : o.Ok w) : Calls Tryz.prog 14 #[.agg o.cs.toArray] w fun e w' => e = .returned (.bool o.right) ∧ Below w.heap.size w w' := by
  obtain ⟨r, hr⟩ : ∃ r, r = o.right := ⟨_, rfl⟩
  rw [← hr]
  unfold Ou.right at hr
  have HR := aA hr
  clear hr
  have q0 : Below w.heap.size w (w.alloc (.cells o.cs.toArray 77)) := (Below.refl _ _).alloc (Nat.le_refl _) _
  have B0 := aA (World.alloc_heap_new w (.cells o.cs.toArray 77))
  have CM := aA (fun (W : World) (hb : Below w.heap.size w W) => have k := ho.next hb; j5 o.ly.L o.ly.A o.ly.c o.ly.B o.ly.d o.fl.l o.fl.a o.fl.c o.S.l o.G.l o.S.a o.S.c o.G.a o.G.c o.times W k.ly.a k.ly.b k.ly.s k.ly.n k.ly.c k.ly.d k.fl.r k.fl.n k.S.r k.G.r k.S.m k.G.m)
  have SR := aA (fun W => sndRight_any o.snd W)
  unfold lyV grV at *
  generalize jX o.ly.L o.fl.l o.S.l o.G.l o.times = cb at *
  generalize sndB o.snd = sb at *
  have Q0 := aA q0
  clear ho q0
  generalize hw0 : w.alloc (.cells o.cs.toArray 77) = w0 at *
  obtain ⟨⟨c0, c1, c2, c3, c4, c5, c6, c7, c8⟩, d0, d1, d2, d3, d4, d5, d6, d7, d8, d9, d10, d11, d12, d13, d14, d15, d16⟩ := ou_cells B0.out
  unfold Fv.v at c4
  unfold Iv.v at c5 c6
  clear d0 d1 d2 d3 d4 d5 d6 d7 d8 d9 d10 d11 d12 d13 d14 d15 d16 c8
  go_enter Tryz.func14, Tryz.ntmps14
  go_wp2_with fail
  (with_reducible refine (CM.out _ Q0.out).mono ?_)
  rintro e1 w1 ⟨rfl, q1⟩
  have B1 := aA (aB B0.out q1)
  have Q1 := aA (aC Q0.out Q0.out.size q1)
  clear q1 B0 Q0 hw0 CM c0 c1 c2 c3 c4 c5 c6 c7
  cases cb with
  | false =>
    have E := aA (show r = false by rw [HR.out]; rfl)
    clear HR SR
    go_wp2_with fail
    go_ret
    exact ⟨by rw [E.out]; rfl, Q1.out⟩
  | true =>
  obtain ⟨⟨c0, c1, c2, c3, c4, c5, c6, c7, c8⟩, d0, d1, d2, d3, d4, d5, d6, d7, d8, d9, d10, d11, d12, d13, d14, d15, d16⟩ := ou_cells B1.out
  unfold Bv.v at c8
  by_cases hn : o.news.l.length = o.ly.L.sgs.length
  · have e1 : ((o.news.l.length : Int) == (o.ly.L.sgs.length : Int)) = true := by rw [beq_iff_eq]; omega
    have E := aA (show r = sb by rw [HR.out, decide_eq_true hn]; rfl)
    clear HR hn
    go_wp2_with fail
    refine (SR.out _).mono ?_
    rintro e3 w3 ⟨rfl, q3⟩
    have Q3 := aA (aC Q1.out Q1.out.size q3)
    clear q3 B1 Q1 SR c0 c1 c2 c3 c4 c5 c6 c7 c8 d0 d1 d2 d3 d4 d5 d6 d7 d8 d9 d10 d11 d12 d13 d14 d15 d16
    go_wp2_with fail
    go_ret
    exact ⟨by rw [E.out]; rfl, Q3.out⟩
  · have e1 : ((o.news.l.length : Int) == (o.ly.L.sgs.length : Int)) = false := by rw [beq_eq_false_iff_ne]; omega
    have E := aA (show r = false by rw [HR.out, decide_eq_false hn]; rfl)
    clear HR hn SR d0 d1 d2 d3 d4 d5 d6 d7 d8 d9 d10 d11 d12 d13 d14 d15 d16
    go_wp2_with fail
    go_ret
    exact ⟨by rw [E.out]; rfl, Q1.out⟩
end Go.Proofs.YtkmddjbialpppaaGreatDoor
