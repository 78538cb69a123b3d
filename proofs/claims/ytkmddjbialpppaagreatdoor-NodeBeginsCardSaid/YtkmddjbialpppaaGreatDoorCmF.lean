import Derived.Test.YtkmddjbialpppaaGreatDoorMgCmD
namespace Go.Proofs.YtkmddjbialpppaaGreatDoor
open Go.ChangeShapes Go.WideShapes Go.ChangeAt Go.RowKit
open CM PD SG
def fX (ly : Lv) (fl : Fv) (first : List Int) (yes no : Wy) (delay : Int) : Bool := iL first.length && (jX ly.L fl.l (g9 first) (g9 first) 0 && fW yes no delay)
def NouV (ly : Lv) (fill : Int) (fl : Fv) (first : List Int) (yes no : Wy) (delay : Int) (V : Ou) (E : Int) : Prop :=
  (fX ly fl first yes no delay = true ∧ E = 0 ∧ V.ly = ly ∧ V.fill = fill ∧ V.fl = fl ∧ V.S.l = first ∧ V.G.l = first ∧ V.times = 0 ∧ V.news.l = List.replicate first.length false ∧ V.snd = jG yes no (passA fl.l first) delay) ∨ (fX ly fl first yes no delay = false ∧ E = 1 ∧ V = .zero)
structure Ou.New (i : Ou) (B : Nat) : Prop where
  S : ∀ g off, i.S.a = some ⟨g, off, none⟩ → B ≤ g
  G : ∀ g off, i.G.a = some ⟨g, off, none⟩ → B ≤ g
  news : ∀ g off, i.news.a = some ⟨g, off, none⟩ → B ≤ g
theorem Ou.zero_new (B : Nat) : Ou.zero.New B := ⟨fun _ _ h => by simp [Ou.zero, Iv.zero] at h, fun _ _ h => by simp [Ou.zero, Iv.zero] at h, fun _ _ h => by simp [Ou.zero, Bv.zero] at h⟩
def zOu : List Value := Ou.zero.cs
def eA (f : Wy) : List Value := [.int .i64 f.kind, .int .i64 f.first, .int .i64 f.period, .int .i64 f.reps, .int .i64 f.gap]
set_option maxRecDepth 100000 in
set_option maxHeartbeats 16000000 in
theorem newOut_any (ly : Lv) (fill : Int) (first : Iv) (fl : Fv) (yes no : Wy) (delay : Int) (w : World) (hly : ly.Ok w) (hfl : fl.Ok w) (hfi : first.Ok w) :
    Calls Tryz.prog 127 #[.agg ly.cs.toArray, .int .u8 fill, first.v, fl.v, .agg (eA yes).toArray, .agg (eA no).toArray, .int .i64 delay] w fun e w' => (∃ V E, e = .returned (.tuple #[.agg V.cs.toArray, .int .i64 E]) ∧ V.Ok w' ∧ V.New w.heap.size ∧ NouV ly fill fl first.l yes no delay V E) ∧ Below w.heap.size w w' := by
  have GN := aA (fun (W : World) (hb : Below w.heap.size w W) => have o := hfi.next hb; grNew_any first.l first.a first.c W o.r (by have := hfi.n; omega))
  have PA := aA (fun (W : World) (hb : Below w.heap.size w W) (hlv : fl.l.length ≤ first.l.length) => have o := hfi.next hb; have k := hfl.next hb; passesA_any fl.l fl.a fl.c first.l first.a first.c W k.r o.r (by have := hfl.n; omega) hlv)
  have SN := aA (fun on (W : World) => show Calls Tryz.prog 167 #[.agg (eA yes).toArray, .agg (eA no).toArray, .bool on, .int .i64 delay] W fun e w' => e = .returned (.tuple #[.agg (bV (jO yes no on delay)).toArray, .int .i64 (iM yes no delay)]) ∧ Below W.heap.size W w' from sndNew_any yes no on delay W)
  have HLY := aA hly
  have HFL := aA hfl
  have HFI := aA hfi
  obtain ⟨w0, hw0⟩ : ∃ w0, w0 = (((w.alloc (.cells ly.cs.toArray 66)).alloc (.cells (eA yes).toArray 73)).alloc (.cells (eA no).toArray 73)).alloc (.cells zOu.toArray 77) := ⟨_, rfl⟩
  have step : ∀ (W : World) (o : Obj), Below W.heap.size W (W.alloc o) := fun W o => (Below.refl _ _).alloc (Nat.le_refl _) _
  have B1 := aA (aB (aB (aB (World.alloc_heap_new w (.cells ly.cs.toArray 66)) (step _ (.cells (eA yes).toArray 73))) (step _ (.cells (eA no).toArray 73))) (step _ (.cells zOu.toArray 77)))
  have B2 := aA (aB (aB (World.alloc_heap_new (w.alloc (.cells ly.cs.toArray 66)) (.cells (eA yes).toArray 73)) (step _ (.cells (eA no).toArray 73))) (step _ (.cells zOu.toArray 77)))
  have B3 := aA (aB (World.alloc_heap_new ((w.alloc (.cells ly.cs.toArray 66)).alloc (.cells (eA yes).toArray 73)) (.cells (eA no).toArray 73)) (step _ (.cells zOu.toArray 77)))
  have B4 := aA (World.alloc_heap_new (((w.alloc (.cells ly.cs.toArray 66)).alloc (.cells (eA yes).toArray 73)).alloc (.cells (eA no).toArray 73)) (.cells zOu.toArray 77))
  have Q0 : Hid (Below w.heap.size w w0) := by rw [hw0]; exact aA ((((step _ _).alloc (by simp) _).alloc (by simp; omega) _).alloc (by simp; omega) _)
  rw [← hw0] at B1 B2 B3 B4
  simp only [World.size_alloc] at B2 B3 B4
  have GN0 := aA (GN.out _ Q0.out)
  clear step hly hfl hfi GN
  unfold Iv.v Fv.v
  go_enter Tryz.func127, Tryz.ntmps127
  go_upto_region 1 with fail
  change Code.wp _ _ _ _ ((((w.alloc (.cells ly.cs.toArray 66)).alloc (.cells (eA yes).toArray 73)).alloc (.cells (eA no).toArray 73)).alloc (.cells zOu.toArray 77))
  rw [← hw0]
  clear hw0
  go_wp2_with fail
  (with_reducible refine (GN0.out).mono ?_)
  rintro e1 w1 ⟨⟨⟨Sa, Sn, Sc⟩, ⟨Ga, Gn, Gc⟩, rfl, hSn, hGn, rS, rG, bS, bG⟩, q1⟩
  dsimp only at hSn hGn rS rG bS bG
  subst hSn hGn
  have z0 : w.heap.size + 1 + 1 + 1 < w0.heap.size := aH B4.out
  have BS := aA bS
  have BG := aA bG
  have C1 := aA (aB B1.out q1)
  have C2 := aA (aB B2.out q1)
  have C3 := aA (aB B3.out q1)
  have C4 := aA (aB B4.out q1)
  have Q1 := aA (aC Q0.out Q0.out.size q1)
  have RS := aA rS
  have RG := aA rG
  have z01 := q1.size
  clear q1 B1 B2 B3 B4 Q0 GN0 rS rG bS bG
  have q2 : Below w1.heap.size w1 (w1.alloc (.cells #[.slice none 0 0, .slice none 0 0, .int .i64 0] 70)) := (Below.refl _ _).alloc (Nat.le_refl _) _
  have g2 := World.alloc_heap_new w1 (.cells #[.slice none 0 0, .slice none 0 0, .int .i64 0] 70)
  have TH := aA (show (w1.alloc (.cells #[.slice none 0 0, .slice none 0 0, .int .i64 0] 70)).there w1.heap.size 0 3 from aK (cs := [_, _, _]) g2)
  go_wp2_with (refine aF (by rfl) 70 (.tmp 16) (.tmp 22) (by rfl) w1.heap.size 0 (grL ⟨Sa, (g9 first.l).length, Sc⟩ ⟨Ga, (g9 first.l).length, Gc⟩ 0) (by rfl) (by rfl) (by exact TH.out) (by kernel_rfl) (by simp [Value.oneCell', grL, Sl.v]) ?_)
  intro w2 e2
  have s2 : Below w1.heap.size w1 w2 := by rw [e2.out]; exact q2.trans (aE (g := w1.heap.size) _ 0 _ (Nat.le_refl _))
  have G2 := aA (show w2.heap[w1.heap.size]? = some (.cells (grL ⟨Sa, (g9 first.l).length, Sc⟩ ⟨Ga, (g9 first.l).length, Gc⟩ 0).toArray 70 (0, 0)) by rw [e2.out]; exact aJ (grL ⟨Sa, (g9 first.l).length, Sc⟩ ⟨Ga, (g9 first.l).length, Gc⟩ 0) (xs := [_, _, _]) g2 rfl)
  have D1 := aA (aB C1.out s2)
  have D2 := aA (aB C2.out s2)
  have D3 := aA (aB C3.out s2)
  have D4 := aA (aB C4.out s2)
  have Q2 := aA (aC Q1.out Q1.out.size s2)
  have RS2 := aA (Rd.next RS.out s2 s2.size)
  have RG2 := aA (Rd.next RG.out s2 s2.size)
  have zgb : w0.heap.size ≤ w1.heap.size := z01
  clear e2 g2 TH q2 s2 C1 C2 C3 C4 Q1 RS RG z01
  generalize w1.heap.size = gb at *
  have HGE := aA (show gnE first.l = if iL first.l.length = true then 0 else 1 from rfl)
  have HGL := aA (show g9 first.l = if iL first.l.length = true then first.l else [] from rfl)
  have HNB := aA (show fX ly fl first.l yes no delay = (iL first.l.length && (jX ly.L fl.l (g9 first.l) (g9 first.l) 0 && fW yes no delay)) from rfl)
  rcases hy : iL first.l.length with _ | _
  · have hge : gnE first.l = 1 := by rw [HGE.out, hy]; simp
    have HY := aA hy
    clear hy
    rw [hge]
    have TH := aA (show w2.there (w.heap.size + 1 + 1 + 1) 0 26 from aK (cs := zOu) D4.out)
    have F := aA (show fX ly fl first.l yes no delay = false from by rw [HNB.out, HY.out]; rfl)
    go_wp2_with (refine aF (by rfl) 77 (.tmp 14) (.tmp 33) (by rfl) (w.heap.size + 1 + 1 + 1) 0 zOu (by rfl) (by rfl) (by exact TH.out) (by kernel_rfl) (by simp [Value.oneCell', zOu, Ou.zero, Ou.cs, Iv.v, Fv.v, Bv.v]) ?_)
    intro w9 e9
    have A9 := aA (show w9.heap[(w.heap.size + 1 + 1 + 1)]? = some (.cells Ou.zero.cs.toArray 77 (0, 0)) by rw [e9.out]; exact aJ zOu (xs := zOu) D4.out rfl)
    have Q9 := aA (show Below w.heap.size w w9 by rw [e9.out]; exact Q2.out.trans (aE (g := (w.heap.size + 1 + 1 + 1)) _ 0 _ (by omega)))
    clear e9 TH
    go_wp2_with fail
    refine bodyPost_ret (aP (by rfl) _ w9 (w.heap.size + 1 + 1 + 1) 77 Ou.zero.cs.toArray (0, 0) _ (.int .i64 1) (by rfl) (by rfl) A9.out Tryz.underlying77 (by rfl) (by kernel_rfl)) rfl ⟨⟨.zero, 1, rfl, Ou.zero_ok _, Ou.zero_new _, .inr ⟨F.out, rfl, rfl⟩⟩, Q9.out⟩
  have hge : gnE first.l = 0 := by rw [HGE.out, hy]; simp
  have HMG := aA (mayG_le hy)
  have hgl : g9 first.l = first.l := by rw [HGL.out, hy]; simp
  have HY := aA hy
  clear hy
  rw [hge]
  rw [hgl] at RS2 RG2 HNB G2 ⊢
  clear HGE HGL hge hgl
  have CM := aA (fun (W : World) (hb : Below w2.heap.size w2 W) => have hbw := Q2.out.trans (hb.mono Q2.out.size); have l := HLY.out.next hbw; have f := HFL.out.next hbw; j5 ly.L ly.A ly.c ly.B ly.d fl.l fl.a fl.c first.l first.l Sa Sc Ga Gc 0 W l.a l.b l.s l.n l.c l.d f.r f.n (Rd.next RS2.out hb hb.size) (Rd.next RG2.out hb hb.size) HFI.out.m HFI.out.m)
  have CMW := CM.out w2 (Below.refl _ _)
  unfold lyV grV at CMW
  replace CMW := aA CMW
  clear CM
  obtain ⟨c0, c1, c2⟩ := bK (show w2.heap[w.heap.size]? = some (.cells #[.int .i64 ly.L.size, .slice ly.A ly.L.sgs.length ly.c, .slice ly.B ly.L.nws.length ly.d] 66 (0, 0)) from D1.out)
  obtain ⟨g0, g1, g2⟩ := bK (show w2.heap[gb]? = some (.cells #[.slice Sa first.l.length Sc, .slice Ga first.l.length Gc, .int .i64 0] 70 (0, 0)) from G2.out)
  go_wp2_with fail
  (with_reducible refine (CMW.out).mono ?_)
  rintro e3 w3 ⟨rfl, q3⟩
  have E1 := aA (aB D1.out q3)
  have E2 := aA (aB D2.out q3)
  have E3 := aA (aB D3.out q3)
  have E4 := aA (aB D4.out q3)
  have G3 := aA (aB G2.out q3)
  have Q3 := aA (aC Q2.out Q2.out.size q3)
  have RS3 := aA (Rd.next RS2.out q3 q3.size)
  have RG3 := aA (Rd.next RG2.out q3 q3.size)
  clear q3 c0 c1 c2 g0 g1 g2 D1 D2 D3 D4 G2 Q2 RS2 RG2 CMW
  rcases hcm : jX ly.L fl.l first.l first.l 0 with _ | _
  · have HC := aA hcm
    clear hcm
    have TH := aA (show w3.there (w.heap.size + 1 + 1 + 1) 0 26 from aK (cs := zOu) E4.out)
    have F := aA (show fX ly fl first.l yes no delay = false from by rw [HNB.out, HY.out, HC.out]; rfl)
    go_wp2_with (refine aF (by rfl) 77 (.tmp 14) (.tmp 33) (by rfl) (w.heap.size + 1 + 1 + 1) 0 zOu (by rfl) (by rfl) (by exact TH.out) (by kernel_rfl) (by simp [Value.oneCell', zOu, Ou.zero, Ou.cs, Iv.v, Fv.v, Bv.v]) ?_)
    intro w9 e9
    have A9 := aA (show w9.heap[(w.heap.size + 1 + 1 + 1)]? = some (.cells Ou.zero.cs.toArray 77 (0, 0)) by rw [e9.out]; exact aJ zOu (xs := zOu) E4.out rfl)
    have Q9 := aA (show Below w.heap.size w w9 by rw [e9.out]; exact Q3.out.trans (aE (g := (w.heap.size + 1 + 1 + 1)) _ 0 _ (by omega)))
    clear e9 TH
    go_wp2_with fail
    refine bodyPost_ret (aP (by rfl) _ w9 (w.heap.size + 1 + 1 + 1) 77 Ou.zero.cs.toArray (0, 0) _ (.int .i64 1) (by rfl) (by rfl) A9.out Tryz.underlying77 (by rfl) (by kernel_rfl)) rfl ⟨⟨.zero, 1, rfl, Ou.zero_ok _, Ou.zero_new _, .inr ⟨F.out, rfl, rfl⟩⟩, Q9.out⟩
  have hfl : fl.l.length ≤ first.l.length := by
    unfold jX at hcm
    simp only [Bool.and_eq_true, decide_eq_true_eq] at hcm
    omega
  have HC := aA hcm
  have PAW := aA (fun (W : World) (hb : Below w3.heap.size w3 W) => PA.out W (aC Q3.out Q3.out.size hb) hfl)
  clear hcm PA
  generalize hpa : passA fl.l first.l = pa at *
  have HPA := aA hpa
  clear hpa
  go_wp2_with fail
  generalize hSE : iM yes no delay = SE at *
  generalize hSV : jO yes no pa delay = SV at *
  go_cut [17, 18] from 34 (fun a b W => a = .int .i64 SE ∧ ∃ x, b = .pointer (some ⟨x, 0, none⟩) ∧ Hid (W.heap[x]? = some (.cells (bV SV).toArray 75 (0, 0))) ∧ Hid (Below w3.heap.size w3 W))
  case first =>
    have hSE := aA hSE
    have hSV := aA hSV
    refine bB [0, 1, 2, 3, 5, 7, 8, 9] [(0, fun W => W.heap[w.heap.size + 1]? = some (.cells (eA yes).toArray 73 (0, 0))), (1, fun W => W.heap[w.heap.size + 1 + 1]? = some (.cells (eA no).toArray 73 (0, 0)))] (by kernel_rfl) ?_
    have Y4 : Hid (w3.drew.heap[w.heap.size + 1]? = some (.cells (eA yes).toArray 73 (0, 0))) := E2
    have N4 : Hid (w3.drew.heap[w.heap.size + 1 + 1]? = some (.cells (eA no).toArray 73 (0, 0))) := E3
    have K4 := aA ((Below.refl w3.heap.size w3).drew)
    clear E1 E2 E3 E4 G3 Q3 RS3 RG3
    generalize w3.drew = w4 at *
    refine aQ (i := 0) (v := .agg (eA yes).toArray) rfl rfl (by kernel_rfl) (by kernel_rfl) (by kernel_rfl) (by kernel_rfl) (by kernel_rfl) (fun _ _ _ h => h) rfl (fun W h => bZ W (w.heap.size + 1) 73 _ _ h Tryz.underlying73 rfl (by kernel_rfl) _ _ (.tmp 11) (by rfl) (by rfl)) (Y4.out) ?_
    go_simp
    refine aQ (i := 1) (v := .agg (eA no).toArray) rfl rfl (by kernel_rfl) (by kernel_rfl) (by kernel_rfl) (by kernel_rfl) (by kernel_rfl) (fun _ _ _ h => h) rfl (fun W h => bZ W (w.heap.size + 1 + 1) 73 _ _ h Tryz.underlying73 rfl (by kernel_rfl) _ _ (.tmp 12) (by rfl) (by rfl)) (N4.out) ?_
    go_simp
    refine aD (i := 2) (v := .slice fl.a fl.l.length fl.c) rfl rfl (by kernel_rfl) (by kernel_rfl) (by kernel_rfl) (by kernel_rfl) (by kernel_rfl) (fun _ _ _ h => h) rfl (fun W => by go_simp) ?_
    go_simp
    refine aD (i := 3) (v := .slice first.a first.l.length first.c) rfl rfl (by kernel_rfl) (by kernel_rfl) (by kernel_rfl) (by kernel_rfl) (by kernel_rfl) (fun _ _ _ h => h) rfl (fun W => by go_simp) ?_
    go_simp
    refine aD (i := 5) (v := .int .i64 delay) rfl rfl (by kernel_rfl) (by kernel_rfl) (by kernel_rfl) (by kernel_rfl) (by kernel_rfl) (fun _ _ _ h => h) rfl (fun W => by go_simp) ?_
    go_simp
    refine cB (i := 4) (k := 10) (by kernel_rfl) ?_ ?_
    · refine aM rfl rfl ?_
      go_simp
      (with_reducible refine (PAW.out _ K4.out).mono ?_)
      rintro e5 w5 ⟨rfl, q5⟩
      have Y5 := aA (aB Y4.out q5)
      have N5 := aA (aB N4.out q5)
      have K5 := aA (aC K4.out K4.out.size q5)
      clear q5 Y4 N4 K4
      go_simp
      refine ⟨aO (by kernel_rfl) (.cons Y5.out (.cons N5.out .nil)), ?_⟩
      refine cB (i := 6) (k := 10) (by kernel_rfl) ?_ ?_
      · refine aM rfl rfl ?_
        go_simp
        (with_reducible refine (SN.out pa _).mono ?_)
        rintro e6 w6 ⟨rfl, q6⟩
        have Y6 := aA (aB Y5.out q6)
        have N6 := aA (aB N5.out q6)
        have K6 := aA (aC K5.out K5.out.size q6)
        clear q6 Y5 N5 K5
        rw [hSV.out]
        go_simp
        refine ⟨aN (by kernel_rfl) (by kernel_rfl), ?_⟩
        refine aD (i := 7) (v := .tuple #[.agg (bV SV).toArray, .int .i64 SE]) rfl rfl (by kernel_rfl) (by kernel_rfl) (by kernel_rfl) (by kernel_rfl) (by kernel_rfl) (fun _ _ _ h => h) rfl (fun W => by go_simp) ?_
        go_simp
        refine aD (i := 8) (v := .agg (bV SV).toArray) rfl rfl (by kernel_rfl) (by kernel_rfl) (by kernel_rfl) (by kernel_rfl) (by kernel_rfl) (fun _ _ _ h => h) rfl (fun W => by go_simp) ?_
        go_simp
        refine aD (i := 9) (v := .int .i64 SE) rfl rfl (by kernel_rfl) (by kernel_rfl) (by kernel_rfl) (by kernel_rfl) (by kernel_rfl) (fun _ _ _ h => h) rfl (fun W => by go_simp) ?_
        go_simp
        refine aI (i := 10) (by kernel_rfl) ?_
        refine aM rfl rfl ?_
        go_simp
        have al := (Below.refl w6.heap.size w6).alloc (Nat.le_refl _) (.cells #[.int .i64 0, .int .i64 0, .int .i64 0, .int .i64 0, .int .i64 0, .int .i64 0, .int .i64 0, .int .i64 0, .int .i64 0, .int .i64 0, .bool false, .int .i64 0, .int .i64 0, .int .i64 0, .int .i64 0, .int .i64 0, .bool false] 75)
        have F7 := aA (World.alloc_heap_new w6 (.cells #[.int .i64 0, .int .i64 0, .int .i64 0, .int .i64 0, .int .i64 0, .int .i64 0, .int .i64 0, .int .i64 0, .int .i64 0, .int .i64 0, .bool false, .int .i64 0, .int .i64 0, .int .i64 0, .int .i64 0, .int .i64 0, .bool false] 75))
        have zx : w3.heap.size ≤ w6.heap.size := K6.out.size
        have Y7 := aA (aB Y6.out al)
        have N7 := aA (aB N6.out al)
        have K7 := aA (aC K6.out K6.out.size al)
        clear al Y6 N6 K6
        refine ⟨aO (by kernel_rfl) (.cons Y7.out (.cons N7.out .nil)), ?_⟩
        refine aI (i := 11) (by kernel_rfl) ?_
        refine aM rfl rfl ?_
        have TX := aK (cs := [.int .i64 0, .int .i64 0, .int .i64 0, .int .i64 0, .int .i64 0, .int .i64 0, .int .i64 0, .int .i64 0, .int .i64 0, .int .i64 0, .bool false, .int .i64 0, .int .i64 0, .int .i64 0, .int .i64 0, .int .i64 0, .bool false]) F7.out
        refine bP 75 (.tmp 18) (.tmp 42) rfl w6.heap.size 0 (bV SV) (by rfl) (by rfl) (by exact TX) (by kernel_rfl) (by simp [Value.oneCell', bV]) ?_
        intro W7 e7
        have F7 := aJ (bV SV) (xs := [_, _, _, _, _, _, _, _, _, _, _, _, _, _, _, _, _]) F7.out rfl
        have q7 := K7.out.trans (aE (g := w6.heap.size) (bV SV) 0 _ zx)
        rw [← e7] at F7 q7
        replace F7 := aA F7
        replace q7 := aA q7
        clear e7
        refine ⟨aN (by kernel_rfl) (by kernel_rfl), ?_⟩
        refine aI (i := 12) (by kernel_rfl) ?_
        refine aM rfl rfl ?_
        go_simp
        refine ⟨aN (by kernel_rfl) (by kernel_rfl), ?_⟩
        refine aS (by kernel_rfl) ?_ _
        go_wp2_with fail
        go_meet
        exact ⟨rfl, _, rfl, F7, q7⟩
      · refine aM rfl rfl ?_
        go_simp
        have al := (Below.refl w5.heap.size w5).alloc (Nat.le_refl _) (.cells #[.int .i64 0, .int .i64 0, .int .i64 0, .int .i64 0, .int .i64 0, .int .i64 0, .int .i64 0, .int .i64 0, .int .i64 0, .int .i64 0, .bool false, .int .i64 0, .int .i64 0, .int .i64 0, .int .i64 0, .int .i64 0, .bool false] 75)
        have F6 := aA (World.alloc_heap_new w5 (.cells #[.int .i64 0, .int .i64 0, .int .i64 0, .int .i64 0, .int .i64 0, .int .i64 0, .int .i64 0, .int .i64 0, .int .i64 0, .int .i64 0, .bool false, .int .i64 0, .int .i64 0, .int .i64 0, .int .i64 0, .int .i64 0, .bool false] 75))
        have zx : w3.heap.size ≤ w5.heap.size := K5.out.size
        have Y6 := aA (aB Y5.out al)
        have N6 := aA (aB N5.out al)
        have K6 := aA (aC K5.out K5.out.size al)
        clear al Y5 N5 K5
        refine ⟨aO (by kernel_rfl) (.cons Y6.out (.cons N6.out .nil)), ?_⟩
        refine aI (i := 6) (by kernel_rfl) ?_
        refine aM rfl rfl ?_
        go_simp
        (with_reducible refine (SN.out pa _).mono ?_)
        rintro e7 w7 ⟨rfl, q7⟩
        have Y7 := aA (aB Y6.out q7)
        have N7 := aA (aB N6.out q7)
        have F7 := aA (aB F6.out q7)
        have K7 := aA (aC K6.out K6.out.size q7)
        clear q7 Y6 N6 K6 F6
        rw [hSV.out]
        go_simp
        refine ⟨aN (by kernel_rfl) (by kernel_rfl), ?_⟩
        refine aD (i := 7) (v := .tuple #[.agg (bV SV).toArray, .int .i64 SE]) rfl rfl (by kernel_rfl) (by kernel_rfl) (by kernel_rfl) (by kernel_rfl) (by kernel_rfl) (fun _ _ _ h => h) rfl (fun W => by go_simp) ?_
        go_simp
        refine aD (i := 8) (v := .agg (bV SV).toArray) rfl rfl (by kernel_rfl) (by kernel_rfl) (by kernel_rfl) (by kernel_rfl) (by kernel_rfl) (fun _ _ _ h => h) rfl (fun W => by go_simp) ?_
        go_simp
        refine aD (i := 9) (v := .int .i64 SE) rfl rfl (by kernel_rfl) (by kernel_rfl) (by kernel_rfl) (by kernel_rfl) (by kernel_rfl) (fun _ _ _ h => h) rfl (fun W => by go_simp) ?_
        go_simp
        refine aI (i := 11) (by kernel_rfl) ?_
        refine aM rfl rfl ?_
        have TX := aK (cs := [.int .i64 0, .int .i64 0, .int .i64 0, .int .i64 0, .int .i64 0, .int .i64 0, .int .i64 0, .int .i64 0, .int .i64 0, .int .i64 0, .bool false, .int .i64 0, .int .i64 0, .int .i64 0, .int .i64 0, .int .i64 0, .bool false]) F7.out
        refine bP 75 (.tmp 18) (.tmp 42) rfl w5.heap.size 0 (bV SV) (by rfl) (by rfl) (by exact TX) (by kernel_rfl) (by simp [Value.oneCell', bV]) ?_
        intro W7 e7
        have F7 := aJ (bV SV) (xs := [_, _, _, _, _, _, _, _, _, _, _, _, _, _, _, _, _]) F7.out rfl
        have q7 := K7.out.trans (aE (g := w5.heap.size) (bV SV) 0 _ zx)
        rw [← e7] at F7 q7
        replace F7 := aA F7
        replace q7 := aA q7
        clear e7
        refine ⟨aN (by kernel_rfl) (by kernel_rfl), ?_⟩
        refine aI (i := 12) (by kernel_rfl) ?_
        refine aM rfl rfl ?_
        go_simp
        refine ⟨aN (by kernel_rfl) (by kernel_rfl), ?_⟩
        refine aS (by kernel_rfl) ?_ _
        go_wp2_with fail
        go_meet
        exact ⟨rfl, _, rfl, F7, q7⟩
    · refine aM rfl rfl ?_
      go_simp
      have al := (Below.refl w4.heap.size w4).alloc (Nat.le_refl _) (.cells #[.int .i64 0, .int .i64 0, .int .i64 0, .int .i64 0, .int .i64 0, .int .i64 0, .int .i64 0, .int .i64 0, .int .i64 0, .int .i64 0, .bool false, .int .i64 0, .int .i64 0, .int .i64 0, .int .i64 0, .int .i64 0, .bool false] 75)
      have F5 := aA (World.alloc_heap_new w4 (.cells #[.int .i64 0, .int .i64 0, .int .i64 0, .int .i64 0, .int .i64 0, .int .i64 0, .int .i64 0, .int .i64 0, .int .i64 0, .int .i64 0, .bool false, .int .i64 0, .int .i64 0, .int .i64 0, .int .i64 0, .int .i64 0, .bool false] 75))
      have zx : w3.heap.size ≤ w4.heap.size := K4.out.size
      have Y5 := aA (aB Y4.out al)
      have N5 := aA (aB N4.out al)
      have K5 := aA (aC K4.out K4.out.size al)
      clear al Y4 N4 K4
      refine ⟨aO (by kernel_rfl) (.cons Y5.out (.cons N5.out .nil)), ?_⟩
      refine aI (i := 4) (by kernel_rfl) ?_
      refine aM rfl rfl ?_
      go_simp
      (with_reducible refine (PAW.out _ K5.out).mono ?_)
      rintro e6 w6 ⟨rfl, q6⟩
      have Y6 := aA (aB Y5.out q6)
      have N6 := aA (aB N5.out q6)
      have F6 := aA (aB F5.out q6)
      have K6 := aA (aC K5.out K5.out.size q6)
      clear q6 Y5 N5 K5 F5
      go_simp
      refine ⟨aO (by kernel_rfl) (.cons Y6.out (.cons N6.out .nil)), ?_⟩
      refine aI (i := 6) (by kernel_rfl) ?_
      refine aM rfl rfl ?_
      go_simp
      (with_reducible refine (SN.out pa _).mono ?_)
      rintro e7 w7 ⟨rfl, q7⟩
      have Y7 := aA (aB Y6.out q7)
      have N7 := aA (aB N6.out q7)
      have F7 := aA (aB F6.out q7)
      have K7 := aA (aC K6.out K6.out.size q7)
      clear q7 Y6 N6 K6 F6
      rw [hSV.out]
      go_simp
      refine ⟨aN (by kernel_rfl) (by kernel_rfl), ?_⟩
      refine aD (i := 7) (v := .tuple #[.agg (bV SV).toArray, .int .i64 SE]) rfl rfl (by kernel_rfl) (by kernel_rfl) (by kernel_rfl) (by kernel_rfl) (by kernel_rfl) (fun _ _ _ h => h) rfl (fun W => by go_simp) ?_
      go_simp
      refine aD (i := 8) (v := .agg (bV SV).toArray) rfl rfl (by kernel_rfl) (by kernel_rfl) (by kernel_rfl) (by kernel_rfl) (by kernel_rfl) (fun _ _ _ h => h) rfl (fun W => by go_simp) ?_
      go_simp
      refine aD (i := 9) (v := .int .i64 SE) rfl rfl (by kernel_rfl) (by kernel_rfl) (by kernel_rfl) (by kernel_rfl) (by kernel_rfl) (fun _ _ _ h => h) rfl (fun W => by go_simp) ?_
      go_simp
      refine aI (i := 11) (by kernel_rfl) ?_
      refine aM rfl rfl ?_
      have TX := aK (cs := [.int .i64 0, .int .i64 0, .int .i64 0, .int .i64 0, .int .i64 0, .int .i64 0, .int .i64 0, .int .i64 0, .int .i64 0, .int .i64 0, .bool false, .int .i64 0, .int .i64 0, .int .i64 0, .int .i64 0, .int .i64 0, .bool false]) F7.out
      refine bP 75 (.tmp 18) (.tmp 42) rfl w4.heap.size 0 (bV SV) (by rfl) (by rfl) (by exact TX) (by kernel_rfl) (by simp [Value.oneCell', bV]) ?_
      intro W7 e7
      have F7 := aJ (bV SV) (xs := [_, _, _, _, _, _, _, _, _, _, _, _, _, _, _, _, _]) F7.out rfl
      have q7 := K7.out.trans (aE (g := w4.heap.size) (bV SV) 0 _ zx)
      rw [← e7] at F7 q7
      replace F7 := aA F7
      replace q7 := aA q7
      clear e7
      refine ⟨aN (by kernel_rfl) (by kernel_rfl), ?_⟩
      refine aI (i := 12) (by kernel_rfl) ?_
      refine aM rfl rfl ?_
      go_simp
      refine ⟨aN (by kernel_rfl) (by kernel_rfl), ?_⟩
      refine aS (by kernel_rfl) ?_ _
      go_wp2_with fail
      go_meet
      exact ⟨rfl, _, rfl, F7, q7⟩
  case rest =>
    rename_i hK2 _ hK
    obtain ⟨rfl, x, rfl, SX, K4⟩ := hcut
    refine hK _ _ ?_
    have D1 := aA (aB E1.out K4.out)
    have D4 := aA (aB E4.out K4.out)
    have H3 := aA (aB G3.out K4.out)
    have Q4 := aA (aC Q3.out Q3.out.size K4.out)
    have RS4 := aA (Rd.next RS3.out K4.out K4.out.size)
    have RG4 := aA (Rd.next RG3.out K4.out K4.out.size)
    clear hK PAW SN E1 E2 E3 E4 G3 Q3 RS3 RG3 K4
    rcases hnb : fW yes no delay with _ | _
    · have hs : SE = 1 := by rw [← hSE, iM, hnb]; simp
      have HD := aA hnb
      clear hSE hSV hnb
      subst hs
      have TH := aA (show wc.there (w.heap.size + 1 + 1 + 1) 0 26 from aK (cs := zOu) D4.out)
      have F := aA (show fX ly fl first.l yes no delay = false from by rw [HNB.out, HY.out, HC.out, HD.out]; rfl)
      go_wp2_with (refine aF (by rfl) 77 (.tmp 14) (.tmp 46) (by rfl) (w.heap.size + 1 + 1 + 1) 0 zOu (by rfl) (by rfl) (by exact TH.out) (by kernel_rfl) (by simp [Value.oneCell', zOu, Ou.zero, Ou.cs, Iv.v, Fv.v, Bv.v]) ?_)
      intro w9 e9
      have A9 := aA (show w9.heap[(w.heap.size + 1 + 1 + 1)]? = some (.cells Ou.zero.cs.toArray 77 (0, 0)) by rw [e9.out]; exact aJ zOu (xs := zOu) D4.out rfl)
      have Q9 := aA (show Below w.heap.size w w9 by rw [e9.out]; exact Q4.out.trans (aE (g := (w.heap.size + 1 + 1 + 1)) _ 0 _ (by omega)))
      clear e9 TH
      go_wp2_with fail
      refine bodyPost_ret (aP (by rfl) _ w9 (w.heap.size + 1 + 1 + 1) 77 Ou.zero.cs.toArray (0, 0) _ (.int .i64 1) (by rfl) (by rfl) A9.out Tryz.underlying77 (by rfl) (by kernel_rfl)) rfl ⟨⟨.zero, 1, rfl, Ou.zero_ok _, Ou.zero_new _, .inr ⟨F.out, rfl, rfl⟩⟩, Q9.out⟩
    have hs : SE = 0 := by rw [← hSE, iM, hnb]; simp
    have HV := aA (show SV = jG yes no pa delay by rw [← hSV, jO, hnb]; simp)
    have HD := aA hnb
    clear hSE hSV hnb
    subst hs
    go_wp2_with fail
    refine bB [0, 1, 2, 3, 4, 5, 7] [(0, fun W => W.heap[w.heap.size]? = some (.cells #[.int .i64 ly.L.size, .slice ly.A ly.L.sgs.length ly.c, .slice ly.B ly.L.nws.length ly.d] 66 (0, 0))), (3, fun W => W.heap[gb]? = some (.cells #[.slice Sa first.l.length Sc, .slice Ga first.l.length Gc, .int .i64 0] 70 (0, 0))), (7, fun W => W.heap[x]? = some (.cells #[.int .i64 SV.yes.kind, .int .i64 SV.yes.first, .int .i64 SV.yes.period, .int .i64 SV.yes.reps, .int .i64 SV.yes.gap, .int .i64 SV.no.kind, .int .i64 SV.no.first, .int .i64 SV.no.period, .int .i64 SV.no.reps, .int .i64 SV.no.gap, .bool SV.on, .int .i64 SV.delay, .int .i64 SV.period, .int .i64 SV.gap, .int .i64 SV.left, .int .i64 SV.hold, .bool SV.asked] 75 (0, 0)))] (by kernel_rfl) ?_
    have J1 : Hid (wc.drew.heap[w.heap.size]? = some (.cells #[.int .i64 ly.L.size, .slice ly.A ly.L.sgs.length ly.c, .slice ly.B ly.L.nws.length ly.d] 66 (0, 0))) := D1
    have J4 : Hid (wc.drew.heap[(w.heap.size + 1 + 1 + 1)]? = some (.cells zOu.toArray 77 (0, 0))) := D4
    have J3 : Hid (wc.drew.heap[gb]? = some (.cells #[.slice Sa first.l.length Sc, .slice Ga first.l.length Gc, .int .i64 0] 70 (0, 0))) := H3
    have JX : Hid (wc.drew.heap[x]? = some (.cells #[.int .i64 SV.yes.kind, .int .i64 SV.yes.first, .int .i64 SV.yes.period, .int .i64 SV.yes.reps, .int .i64 SV.yes.gap, .int .i64 SV.no.kind, .int .i64 SV.no.first, .int .i64 SV.no.period, .int .i64 SV.no.reps, .int .i64 SV.no.gap, .bool SV.on, .int .i64 SV.delay, .int .i64 SV.period, .int .i64 SV.gap, .int .i64 SV.left, .int .i64 SV.hold, .bool SV.asked] 75 (0, 0))) := SX
    have q5 : Below wc.heap.size wc wc.drew := (Below.refl _ _).drew
    have Q5 := aA (aC Q4.out Q4.out.size q5)
    have RS5 := aA (Rd.next RS4.out q5 q5.size)
    have RG5 := aA (Rd.next RG4.out q5 q5.size)
    clear q5 D1 D4 H3 SX Q4 RS4 RG4
    generalize wc.drew = wd at *
    refine aQ (i := 0) (v := .agg #[.int .i64 ly.L.size, .slice ly.A ly.L.sgs.length ly.c, .slice ly.B ly.L.nws.length ly.d]) rfl rfl (by kernel_rfl) (by kernel_rfl) (by kernel_rfl) (by kernel_rfl) (by kernel_rfl) (fun _ _ _ h => h) rfl (fun W h => bZ W w.heap.size 66 _ _ h Tryz.underlying66 rfl (by kernel_rfl) _ _ (.tmp 7) (by rfl) (by rfl)) (J1.out) ?_
    go_simp
    refine aD (i := 1) (v := .int .u8 fill) rfl rfl (by kernel_rfl) (by kernel_rfl) (by kernel_rfl) (by kernel_rfl) (by kernel_rfl) (fun _ _ _ h => h) rfl (fun W => by go_simp) ?_
    go_simp
    refine aD (i := 2) (v := .slice fl.a fl.l.length fl.c) rfl rfl (by kernel_rfl) (by kernel_rfl) (by kernel_rfl) (by kernel_rfl) (by kernel_rfl) (fun _ _ _ h => h) rfl (fun W => by go_simp) ?_
    go_simp
    refine aQ (i := 3) (v := .agg #[.slice Sa first.l.length Sc, .slice Ga first.l.length Gc, .int .i64 0]) rfl rfl (by kernel_rfl) (by kernel_rfl) (by kernel_rfl) (by kernel_rfl) (by kernel_rfl) (fun _ _ _ h => h) rfl (fun W h => bZ W gb 70 _ _ h Tryz.underlying70 rfl (by kernel_rfl) _ _ (.tmp 16) (by rfl) (by rfl)) (J3.out) ?_
    go_simp
    refine aD (i := 4) (v := .slice first.a first.l.length first.c) rfl rfl (by kernel_rfl) (by kernel_rfl) (by kernel_rfl) (by kernel_rfl) (by kernel_rfl) (fun _ _ _ h => h) rfl (fun W => by go_simp) ?_
    go_simp
    refine aD (i := 5) (v := .int .i64 first.l.length) rfl rfl (by kernel_rfl) (by kernel_rfl) (by kernel_rfl) (by kernel_rfl) (by kernel_rfl) (fun _ _ _ h => h) rfl (fun W => by go_simp) ?_
    go_simp
    refine aQ (i := 7) (v := .agg #[.int .i64 SV.yes.kind, .int .i64 SV.yes.first, .int .i64 SV.yes.period, .int .i64 SV.yes.reps, .int .i64 SV.yes.gap, .int .i64 SV.no.kind, .int .i64 SV.no.first, .int .i64 SV.no.period, .int .i64 SV.no.reps, .int .i64 SV.no.gap, .bool SV.on, .int .i64 SV.delay, .int .i64 SV.period, .int .i64 SV.gap, .int .i64 SV.left, .int .i64 SV.hold, .bool SV.asked]) rfl rfl (by kernel_rfl) (by kernel_rfl) (by kernel_rfl) (by kernel_rfl) (by kernel_rfl) (fun _ _ _ h => h) rfl (fun W h => bZ W x 75 _ _ h Tryz.underlying75 rfl (by kernel_rfl) _ _ (.tmp 18) (by rfl) (by rfl)) (JX.out) ?_
    go_simp
    have hn := HMG.out
    have hmk := fun W => run_make_row' (P := Tryz.prog) 71 4 (.bool false) 1 Tryz.underlying71 (by kernel_rfl) rfl .i64 .i64 first.l.length (by omega) (by omega) W
    refine aI (i := 6) (by kernel_rfl) ?_
    refine aM rfl rfl ?_
    go_simp
    clear hmk hn
    have MB := aA (made_bools wd first.l.length)
    have q6 : Below wd.heap.size wd (wd.alloc (.cells (madeCells #[.bool false] first.l.length) 4)) := (Below.refl _ _).alloc (Nat.le_refl _) _
    have J5 := aA (aB J4.out q6)
    have Q6 := aA (aC Q5.out Q5.out.size q6)
    have RS6 := aA (Rd.next RS5.out q6 q6.size)
    have RG6 := aA (Rd.next RG5.out q6 q6.size)
    have z6 : (w.heap.size + 1 + 1 + 1) < wd.heap.size := aH J4.out
    clear q6
    refine ⟨aO (by kernel_rfl) (.cons (aB J1.out ((Below.refl _ _).alloc (Nat.le_refl _) _)) (.cons (aB J3.out ((Below.refl _ _).alloc (Nat.le_refl _) _)) (.cons (aB JX.out ((Below.refl _ _).alloc (Nat.le_refl _) _)) .nil))), ?_⟩
    clear J1 J3 JX J4 Q5 RS5 RG5
    refine aI (i := 8) (by kernel_rfl) ?_
    refine aM rfl rfl ?_
    go_simp
    refine ⟨aN (by kernel_rfl) (by kernel_rfl), ?_⟩
    obtain ⟨V, hV⟩ : ∃ V : Ou, V = (⟨ly, fill, fl, ⟨first.l, Sa, Sc⟩, ⟨first.l, Ga, Gc⟩, 0, ⟨List.replicate first.l.length false, some ⟨wd.heap.size, 0, none⟩, first.l.length⟩, SV⟩ : Ou) := ⟨_, rfl⟩
    have hX : [.int .i64 ly.L.size, .slice ly.A ly.L.sgs.length ly.c, .slice ly.B ly.L.nws.length ly.d, .int .u8 fill, .slice fl.a fl.l.length fl.c, .slice Sa first.l.length Sc, .slice Ga first.l.length Gc, .int .i64 0, .slice (some ⟨wd.heap.size, 0, none⟩) first.l.length first.l.length, .int .i64 SV.yes.kind, .int .i64 SV.yes.first, .int .i64 SV.yes.period, .int .i64 SV.yes.reps, .int .i64 SV.yes.gap, .int .i64 SV.no.kind, .int .i64 SV.no.first, .int .i64 SV.no.period, .int .i64 SV.no.reps, .int .i64 SV.no.gap, .bool SV.on, .int .i64 SV.delay, .int .i64 SV.period, .int .i64 SV.gap, .int .i64 SV.left, .int .i64 SV.hold, .bool SV.asked] = V.cs := by rw [hV]; simp [Ou.cs, Fv.v, Iv.v, Bv.v]
    have TX := aK (cs := zOu) J5.out
    refine aI (i := 9) (by kernel_rfl) ?_
    refine aM rfl rfl ?_
    refine bP 77 (.tmp 14) (.tmp 55) rfl (w.heap.size + 1 + 1 + 1) 0 [.int .i64 ly.L.size, .slice ly.A ly.L.sgs.length ly.c, .slice ly.B ly.L.nws.length ly.d, .int .u8 fill, .slice fl.a fl.l.length fl.c, .slice Sa first.l.length Sc, .slice Ga first.l.length Gc, .int .i64 0, .slice (some ⟨wd.heap.size, 0, none⟩) first.l.length first.l.length, .int .i64 SV.yes.kind, .int .i64 SV.yes.first, .int .i64 SV.yes.period, .int .i64 SV.yes.reps, .int .i64 SV.yes.gap, .int .i64 SV.no.kind, .int .i64 SV.no.first, .int .i64 SV.no.period, .int .i64 SV.no.reps, .int .i64 SV.no.gap, .bool SV.on, .int .i64 SV.delay, .int .i64 SV.period, .int .i64 SV.gap, .int .i64 SV.left, .int .i64 SV.hold, .bool SV.asked] (by rfl) (by rfl) (by exact TX) (by kernel_rfl) (by simp [Value.oneCell']) ?_
    rw [hX]
    intro W7 e7
    have A9 := aA (show W7.heap[(w.heap.size + 1 + 1 + 1)]? = some (.cells V.cs.toArray 77 (0, 0)) by rw [e7]; exact aJ V.cs (xs := zOu) J5.out (by rw [hV]; rfl))
    have Q9 := aA (show Below w.heap.size w W7 by rw [e7]; exact Q6.out.trans (aE (g := (w.heap.size + 1 + 1 + 1)) _ 0 _ (by omega)))
    have hO := aA (show V.Ok W7 from by
      rw [hV]
      exact ⟨HLY.out.next Q9.out, HFL.out.next Q9.out, ⟨cH RS6.out BS.out z0 e7, HFI.out.m, HFI.out.n⟩, ⟨cH RG6.out BG.out z0 e7, HFI.out.m, HFI.out.n⟩, ⟨cH MB.out (fun g off h => by cases h; exact Nat.le_refl _) z6 e7, by simpa using HFI.out.n⟩⟩)
    have F := aA (show fX ly fl first.l yes no delay = true by rw [HNB.out, HY.out, HC.out, HD.out]; rfl)
    have hNW := aA (show V.New w.heap.size from by
      rw [hV]
      exact ⟨fun g off h => by have := BS.out g off h; omega, fun g off h => by have := BG.out g off h; omega, fun g off h => by cases h; omega⟩)
    have HVV := aA hV
    clear e7 hX TX J5 Q6 RS6 RG6 MB hV
    refine ⟨aN (by kernel_rfl) (by kernel_rfl), ?_⟩
    refine aI (i := 10) (by kernel_rfl) ?_
    refine aM rfl rfl ?_
    go_simp
    refine ⟨aN (by kernel_rfl) (by kernel_rfl), ?_⟩
    refine aS (by kernel_rfl) ?_ _
    go_wp2_with fail
    refine bodyPost_ret (aP (by rfl) _ W7 (w.heap.size + 1 + 1 + 1) 77 V.cs.toArray (0, 0) _ (.int .i64 0) (by rfl) (by rfl) A9.out Tryz.underlying77 (by rfl) (by kernel_rfl)) rfl ⟨⟨V, 0, rfl, hO.out, hNW.out, .inl ⟨F.out, rfl, by rw [HVV.out], by rw [HVV.out], by rw [HVV.out], by rw [HVV.out], by rw [HVV.out], by rw [HVV.out], by rw [HVV.out], by rw [HVV.out]; show SV = _; rw [HV.out, HPA.out]⟩⟩, Q9.out⟩
end Go.Proofs.YtkmddjbialpppaaGreatDoor
