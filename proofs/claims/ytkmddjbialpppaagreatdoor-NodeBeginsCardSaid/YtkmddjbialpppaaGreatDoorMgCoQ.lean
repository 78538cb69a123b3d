import Derived.Test.YtkmddjbialpppaaGreatDoorMgCoG
import Derived.Test.YtkmddjbialpppaaGreatDoorMgBxC
import Derived.Test.YtkmddjbialpppaaGreatDoorMgCsD
import Derived.Test.YtkmddjbialpppaaGreatDoorMgSgC
import Derived.Test.YtkmddjbialpppaaGreatDoorMgFin
import Derived.Laws.BitsAllLaws
import Derived.Test.YtkmddjbialpppaaGreatDoorMgPdG
import Derived.Test.YtkmddjbialpppaaGreatDoorMgOrdL
import Derived.Deep.AppendLies
namespace Go.Proofs.YtkmddjbialpppaaGreatDoor
open Go.ChangeShapes Go.WideShapes Go.ChangeAt Go.RowKit
open CM PD SG
def COutV (c : Cf) (i : Int) (V : Ou) (E : Int) : Prop :=
  (∃ (k : Nat) (h : k < c.l.length), i = k ∧ cF c = true ∧ NouV c.l[k].ly c.l[k].fill c.l[k].fl c.l[k].S.l c.l[k].yes c.l[k].no c.l[k].delay V E) ∨ ((cK i 0 ((c.l.length : Int) - 1) && cF c) = false ∧ E = 1 ∧ V = .zero)
set_option maxRecDepth 100000 in
set_option maxHeartbeats 16000000 in
theorem confOutN_any (c : Cf) (i : Int) (w : World) (ho : c.Ok w) : Calls Tryz.prog 24 #[.agg c.cs.toArray, .int .i64 i] w fun e w' => (∃ V E, e = .returned (.tuple #[.agg V.cs.toArray, .int .i64 E]) ∧ V.Ok w' ∧ V.New w.heap.size ∧ COutV c i V E) ∧ Below w.heap.size w w' := by
  obtain ⟨w0, hw0⟩ : ∃ w0, w0 = (w.alloc (.cells c.cs.toArray 25)).alloc (.cells zOu.toArray 77) := ⟨_, rfl⟩
  have step : ∀ (W : World) (o : Obj), Below W.heap.size W (W.alloc o) := fun W o => (Below.refl _ _).alloc (Nat.le_refl _) _
  have B1 := aA (aB (World.alloc_heap_new w (.cells c.cs.toArray 25)) (step _ (.cells zOu.toArray 77)))
  have B2 := aA (World.alloc_heap_new (w.alloc (.cells c.cs.toArray 25)) (.cells zOu.toArray 77))
  have Q0 : Hid (Below w.heap.size w w0) := by rw [hw0]; exact aA ((step _ _).alloc (by simp) _)
  rw [← hw0] at B1 B2
  simp only [World.size_alloc] at B2
  have z0 : w.heap.size + 1 < w0.heap.size := aH B2.out
  have WI := aA dR
  have RT := cD c w0 (ho.next Q0.out)
  unfold Cf.cs at RT
  replace RT := aA RT
  have HO := aA ho
  have hl := ho.n
  clear step ho
  obtain ⟨c0, c1, c2, c3, c4, c5, c6, c7⟩ := bL B1.out
  go_enter Tryz.func24, Tryz.ntmps24
  go_upto_region 1 with fail
  change Code.wp _ _ _ _ ((w.alloc (.cells c.cs.toArray 25)).alloc (.cells zOu.toArray 77))
  rw [← hw0]
  clear hw0
  go_wp2_with fail
  (with_reducible refine (WI.out _ _ _ _).mono ?_)
  rintro e1 w1 ⟨rfl, rfl⟩
  rcases h1 : cK i 0 ((c.l.length : Int) - 1) with _ | _
  · have TH := aA (show w1.there (w.heap.size + 1) 0 26 from aK (cs := zOu) B2.out)
    have HV := aA (show COutV c i .zero 1 from .inr ⟨by rw [h1]; rfl, rfl, rfl⟩)
    clear h1
    go_wp2_with (refine aF (by rfl) 77 (.tmp 4) (.tmp 18) (by rfl) (w.heap.size + 1) 0 zOu (by rfl) (by rfl) (by exact TH.out) (by kernel_rfl) (by simp [Value.oneCell', zOu, Ou.zero, Ou.cs, Iv.v, Fv.v, Bv.v]) ?_)
    intro w9 e9
    have A9 := aA (show w9.heap[w.heap.size + 1]? = some (.cells Ou.zero.cs.toArray 77 (0, 0)) by rw [e9.out]; exact aJ zOu (xs := zOu) B2.out rfl)
    have Q9 := aA (show Below w.heap.size w w9 by rw [e9.out]; exact Q0.out.trans (aE (g := w.heap.size + 1) _ 0 _ (by omega)))
    clear e9 TH
    go_wp2_with fail
    refine bodyPost_ret (aP (by rfl) _ w9 (w.heap.size + 1) 77 Ou.zero.cs.toArray (0, 0) _ (.int .i64 1) (by rfl) (by rfl) A9.out Tryz.underlying77 (by rfl) (by kernel_rfl)) rfl ⟨⟨.zero, 1, rfl, Ou.zero_ok _, Ou.zero_new _, HV.out⟩, Q9.out⟩
  have k1 := b8 h1
  go_wp2_with fail
  (with_reducible refine (RT.out).mono ?_)
  rintro e2 w2 ⟨rfl, q2⟩
  have C1 := aA (aB B1.out q2)
  have C2 := aA (aB B2.out q2)
  have Q2 := aA (aC Q0.out Q0.out.size q2)
  have z2 : w.heap.size + 1 < w2.heap.size := aH C2.out
  clear q2 B1 Q0 RT c0 c2 c3 c4 c5 c6 c7 c1
  rcases hb : cF c with _ | _
  · have TH := aA (show w2.there (w.heap.size + 1) 0 26 from aK (cs := zOu) C2.out)
    have HV := aA (show COutV c i .zero 1 from .inr ⟨by rw [h1, hb]; rfl, rfl, rfl⟩)
    clear h1 hb
    go_wp2_with (refine aF (by rfl) 77 (.tmp 4) (.tmp 18) (by rfl) (w.heap.size + 1) 0 zOu (by rfl) (by rfl) (by exact TH.out) (by kernel_rfl) (by simp [Value.oneCell', zOu, Ou.zero, Ou.cs, Iv.v, Fv.v, Bv.v]) ?_)
    intro w9 e9
    have A9 := aA (show w9.heap[w.heap.size + 1]? = some (.cells Ou.zero.cs.toArray 77 (0, 0)) by rw [e9.out]; exact aJ zOu (xs := zOu) C2.out rfl)
    have Q9 := aA (show Below w.heap.size w w9 by rw [e9.out]; exact Q2.out.trans (aE (g := w.heap.size + 1) _ 0 _ (by omega)))
    clear e9 TH
    go_wp2_with fail
    refine bodyPost_ret (aP (by rfl) _ w9 (w.heap.size + 1) 77 Ou.zero.cs.toArray (0, 0) _ (.int .i64 1) (by rfl) (by rfl) A9.out Tryz.underlying77 (by rfl) (by kernel_rfl)) rfl ⟨⟨.zero, 1, rfl, Ou.zero_ok _, Ou.zero_new _, HV.out⟩, Q9.out⟩
  obtain ⟨k, rfl⟩ := Int.eq_ofNat_of_zero_le k1.1
  have hk : k < c.l.length := by omega
  have hki : (k : Int) < (c.l.length : Int) := by omega
  obtain ⟨pb, po, hca, hpb, hrg⟩ := PdR.at_ (HO.out.next Q2.out).r hk
  have RG := aA hrg
  have Q2s := Q2.out.size
  have HPO := aA ((HO.out.next Q2.out).p c.l[k] (List.getElem_mem hk))
  have HW := aA (fun V E (h : NouV c.l[k].ly c.l[k].fill c.l[k].fl c.l[k].S.l c.l[k].yes c.l[k].no c.l[k].delay V E) => show COutV c k V E from .inl ⟨k, hk, rfl, hb, h⟩)
  have HPW := aA (HO.out.p c.l[k] (List.getElem_mem hk))
  obtain ⟨c0, c1, c2, c3, c4, c5, c6, c7⟩ := bL C1.out
  clear c0 c2 c3 c4 c5 c6 c7 hrg hb h1 C1
  generalize c.l[k] = p at *
  rw [hca] at c1
  have CO := aA (i9 p w2 HPO.out)
  go_wp2_with (refine wpList_load_mid rfl 79 (.tmp 22) (by rfl) pb (po + k * 22) (by rfl) p.cs _ (by exact RG.out) Tryz.underlying79 (by rfl) (by kernel_rfl) ?_)
  (with_reducible refine (CO.out).mono ?_)
  rintro e3 w3 ⟨⟨V, E, rfl, hV, hN, hD⟩, q3⟩
  have D2 := aA (aB C2.out q3)
  have Q3 := aA (aC Q2.out Q2.out.size q3)
  have HV := aA hV
  have HN := aA hN
  have HD := aA hD
  clear q3 hV hN hD CO C2 Q2 RG c1
  have TH := aA (show w3.there (w.heap.size + 1) 0 26 from aK (cs := zOu) D2.out)
  go_wp2_with (refine aF (by rfl) 77 (.tmp 4) (.tmp 25) (by rfl) (w.heap.size + 1) 0 V.cs (by rfl) (by rfl) (by exact TH.out) (by kernel_rfl) (by simp [Value.oneCell', Ou.cs, Iv.v, Fv.v, Bv.v]) ?_)
  intro w9 e9
  have A9 := aA (show w9.heap[w.heap.size + 1]? = some (.cells V.cs.toArray 77 (0, 0)) by rw [e9.out]; exact aJ V.cs (xs := zOu) D2.out rfl)
  have Q9 := aA (show Below w.heap.size w w9 by rw [e9.out]; exact Q3.out.trans (aE (g := w.heap.size + 1) _ 0 _ (by omega)))
  have hO := aA (show V.Ok w9 from by
    have hly : V.ly.Ok w9 ∧ V.fl.Ok w9 := by
      rcases HD.out with ⟨_, _, h1, _, h2, _⟩ | ⟨_, _, h⟩
      · rw [h1, h2]; exact ⟨HPW.out.ly.next Q9.out, HPW.out.fl.next Q9.out⟩
      · rw [h]; exact ⟨(Ou.zero_ok _).ly, (Ou.zero_ok _).fl⟩
    exact ⟨hly.1, hly.2, ⟨cH HV.out.S.r HN.out.S z2 e9.out, HV.out.S.m, HV.out.S.n⟩, ⟨cH HV.out.G.r HN.out.G z2 e9.out, HV.out.G.m, HV.out.G.n⟩, ⟨cH HV.out.news.r HN.out.news z2 e9.out, HV.out.news.n⟩⟩)
  have hNW := aA (show V.New w.heap.size from ⟨fun g off h => by have := HN.out.S g off h; have := Q2s; omega, fun g off h => by have := HN.out.G g off h; have := Q2s; omega, fun g off h => by have := HN.out.news g off h; have := Q2s; omega⟩)
  have HX := aA (HW.out V E HD.out)
  clear e9 TH D2 HW HD
  go_wp2_with fail
  refine bodyPost_ret (aP (by rfl) _ w9 (w.heap.size + 1) 77 V.cs.toArray (0, 0) _ (.int .i64 E) (by rfl) (by rfl) A9.out Tryz.underlying77 (by rfl) (by kernel_rfl)) rfl ⟨⟨V, E, rfl, hO.out, hNW.out, HX.out⟩, Q9.out⟩
set_option maxRecDepth 100000 in
set_option maxHeartbeats 16000000 in
theorem confInN_any (c : Cf) (i : Int) (w : World) (ho : c.Ok w) : Calls Tryz.prog 26 #[.agg c.cs.toArray, .int .i64 i] w fun e w' => (∃ V E, e = .returned (.tuple #[.agg V.cs.toArray, .int .i64 E]) ∧ V.Ok w' ∧ V.New w.heap.size ∧ CInV c i V E) ∧ Below w.heap.size w w' := by
  obtain ⟨w0, hw0⟩ : ∃ w0, w0 = (w.alloc (.cells c.cs.toArray 25)).alloc (.cells zIn.toArray 102) := ⟨_, rfl⟩
  have step : ∀ (W : World) (o : Obj), Below W.heap.size W (W.alloc o) := fun W o => (Below.refl _ _).alloc (Nat.le_refl _) _
  have B1 := aA (aB (World.alloc_heap_new w (.cells c.cs.toArray 25)) (step _ (.cells zIn.toArray 102)))
  have B2 := aA (World.alloc_heap_new (w.alloc (.cells c.cs.toArray 25)) (.cells zIn.toArray 102))
  have Q0 : Hid (Below w.heap.size w w0) := by rw [hw0]; exact aA ((step _ _).alloc (by simp) _)
  rw [← hw0] at B1 B2
  simp only [World.size_alloc] at B2
  have z0 : w.heap.size + 1 < w0.heap.size := aH B2.out
  have WI := aA dR
  have RT := cD c w0 (ho.next Q0.out)
  unfold Cf.cs at RT
  replace RT := aA RT
  have HO := aA ho
  have hl := ho.n
  clear step ho
  obtain ⟨c0, c1, c2, c3, c4, c5, c6, c7⟩ := bL B1.out
  go_enter Tryz.func26, Tryz.ntmps26
  go_upto_region 1 with fail
  change Code.wp _ _ _ _ ((w.alloc (.cells c.cs.toArray 25)).alloc (.cells zIn.toArray 102))
  rw [← hw0]
  clear hw0
  go_wp2_with fail
  (with_reducible refine (WI.out _ _ _ _).mono ?_)
  rintro e1 w1 ⟨rfl, rfl⟩
  rcases h1 : cK i 0 ((c.l.length : Int) - 1) with _ | _
  · have TH := aA (show w1.there (w.heap.size + 1) 0 13 from aK (cs := zIn) B2.out)
    have HV := aA (show CInV c i .zero 1 from .inr ⟨by rw [h1]; rfl, rfl, rfl⟩)
    clear h1
    go_wp2_with (refine aF (by rfl) 102 (.tmp 4) (.tmp 18) (by rfl) (w.heap.size + 1) 0 zIn (by rfl) (by rfl) (by exact TH.out) (by kernel_rfl) (by simp [Value.oneCell', zIn, Inn.zero, Inn.cs, Iv.v, Fv.v]) ?_)
    intro w9 e9
    have A9 := aA (show w9.heap[w.heap.size + 1]? = some (.cells Inn.zero.cs.toArray 102 (0, 0)) by rw [e9.out]; exact aJ zIn (xs := zIn) B2.out rfl)
    have Q9 := aA (show Below w.heap.size w w9 by rw [e9.out]; exact Q0.out.trans (aE (g := w.heap.size + 1) _ 0 _ (by omega)))
    clear e9 TH
    go_wp2_with fail
    refine bodyPost_ret (aP (by rfl) _ w9 (w.heap.size + 1) 102 Inn.zero.cs.toArray (0, 0) _ (.int .i64 1) (by rfl) (by rfl) A9.out Tryz.underlying102 (by rfl) (by kernel_rfl)) rfl ⟨⟨.zero, 1, rfl, Inn.zero_ok _, Inn.zero_new _, HV.out⟩, Q9.out⟩
  have k1 := b8 h1
  go_wp2_with fail
  (with_reducible refine (RT.out).mono ?_)
  rintro e2 w2 ⟨rfl, q2⟩
  have C1 := aA (aB B1.out q2)
  have C2 := aA (aB B2.out q2)
  have Q2 := aA (aC Q0.out Q0.out.size q2)
  have z2 : w.heap.size + 1 < w2.heap.size := aH C2.out
  clear q2 B1 Q0 RT c0 c2 c3 c4 c5 c6 c7 c1
  rcases hb : cF c with _ | _
  · have TH := aA (show w2.there (w.heap.size + 1) 0 13 from aK (cs := zIn) C2.out)
    have HV := aA (show CInV c i .zero 1 from .inr ⟨by rw [h1, hb]; rfl, rfl, rfl⟩)
    clear h1 hb
    go_wp2_with (refine aF (by rfl) 102 (.tmp 4) (.tmp 18) (by rfl) (w.heap.size + 1) 0 zIn (by rfl) (by rfl) (by exact TH.out) (by kernel_rfl) (by simp [Value.oneCell', zIn, Inn.zero, Inn.cs, Iv.v, Fv.v]) ?_)
    intro w9 e9
    have A9 := aA (show w9.heap[w.heap.size + 1]? = some (.cells Inn.zero.cs.toArray 102 (0, 0)) by rw [e9.out]; exact aJ zIn (xs := zIn) C2.out rfl)
    have Q9 := aA (show Below w.heap.size w w9 by rw [e9.out]; exact Q2.out.trans (aE (g := w.heap.size + 1) _ 0 _ (by omega)))
    clear e9 TH
    go_wp2_with fail
    refine bodyPost_ret (aP (by rfl) _ w9 (w.heap.size + 1) 102 Inn.zero.cs.toArray (0, 0) _ (.int .i64 1) (by rfl) (by rfl) A9.out Tryz.underlying102 (by rfl) (by kernel_rfl)) rfl ⟨⟨.zero, 1, rfl, Inn.zero_ok _, Inn.zero_new _, HV.out⟩, Q9.out⟩
  obtain ⟨k, rfl⟩ := Int.eq_ofNat_of_zero_le k1.1
  have hk : k < c.l.length := by omega
  have hki : (k : Int) < (c.l.length : Int) := by omega
  obtain ⟨pb, po, hca, hpb, hrg⟩ := PdR.at_ (HO.out.next Q2.out).r hk
  have RG := aA hrg
  have Q2s := Q2.out.size
  have HPO := aA ((HO.out.next Q2.out).p c.l[k] (List.getElem_mem hk))
  have HW := aA (fun V E (h : CinV c.l[k] V E) => show CInV c k V E from .inl ⟨k, hk, rfl, hb, h⟩)
  have HPW := aA (HO.out.p c.l[k] (List.getElem_mem hk))
  obtain ⟨c0, c1, c2, c3, c4, c5, c6, c7⟩ := bL C1.out
  clear c0 c2 c3 c4 c5 c6 c7 hrg hb h1 C1
  generalize c.l[k] = p at *
  rw [hca] at c1
  have CO := aA (kA p w2 HPO.out)
  go_wp2_with (refine wpList_load_mid rfl 79 (.tmp 22) (by rfl) pb (po + k * 22) (by rfl) p.cs _ (by exact RG.out) Tryz.underlying79 (by rfl) (by kernel_rfl) ?_)
  (with_reducible refine (CO.out).mono ?_)
  rintro e3 w3 ⟨⟨V, E, rfl, hV, hN, hD⟩, q3⟩
  have D2 := aA (aB C2.out q3)
  have Q3 := aA (aC Q2.out Q2.out.size q3)
  have HV := aA hV
  have HN := aA hN
  have HD := aA hD
  clear q3 hV hN hD CO C2 Q2 RG c1
  have TH := aA (show w3.there (w.heap.size + 1) 0 13 from aK (cs := zIn) D2.out)
  go_wp2_with (refine aF (by rfl) 102 (.tmp 4) (.tmp 25) (by rfl) (w.heap.size + 1) 0 V.cs (by rfl) (by rfl) (by exact TH.out) (by kernel_rfl) (by simp [Value.oneCell', Inn.cs, Iv.v, Fv.v]) ?_)
  intro w9 e9
  have A9 := aA (show w9.heap[w.heap.size + 1]? = some (.cells V.cs.toArray 102 (0, 0)) by rw [e9.out]; exact aJ V.cs (xs := zIn) D2.out rfl)
  have Q9 := aA (show Below w.heap.size w w9 by rw [e9.out]; exact Q3.out.trans (aE (g := w.heap.size + 1) _ 0 _ (by omega)))
  have hO := aA (show V.Ok w9 from by
    have hly : V.ly.Ok w9 ∧ V.fl.Ok w9 ∧ V.subs.Ok w9 := by
      rcases HD.out with ⟨_, _, h1, h2, _, _, _, h3, _⟩ | ⟨_, _, h⟩
      · rw [h1, h2, h3]; exact ⟨HPW.out.ly.next Q9.out, HPW.out.fl.next Q9.out, HPW.out.subs.next Q9.out⟩
      · rw [h]; exact ⟨(Inn.zero_ok _).ly, (Inn.zero_ok _).fl, (Inn.zero_ok _).subs⟩
    exact ⟨hly.1, hly.2.1, ⟨cH HV.out.S.r HN.out.S z2 e9.out, HV.out.S.m, HV.out.S.n⟩, ⟨cH HV.out.G.r HN.out.G z2 e9.out, HV.out.G.m, HV.out.G.n⟩, hly.2.2⟩)
  have hNW := aA (show V.New w.heap.size from ⟨fun g off h => by have := HN.out.S g off h; have := Q2s; omega, fun g off h => by have := HN.out.G g off h; have := Q2s; omega⟩)
  have HX := aA (HW.out V E HD.out)
  clear e9 TH D2 HW HD
  go_wp2_with fail
  refine bodyPost_ret (aP (by rfl) _ w9 (w.heap.size + 1) 102 V.cs.toArray (0, 0) _ (.int .i64 E) (by rfl) (by rfl) A9.out Tryz.underlying102 (by rfl) (by kernel_rfl)) rfl ⟨⟨V, E, rfl, hO.out, hNW.out, HX.out⟩, Q9.out⟩
end Go.Proofs.YtkmddjbialpppaaGreatDoor
namespace Go.Proofs.YtkmddjbialpppaaGreatDoor
open Go.ChangeShapes Go.WideShapes Go.ChangeAt Go.RowKit
theorem fJ {W : World} {B : Nat} {A : Option Addr} {sz : Nat} {R : List (List Value)} (h : Rd W B A sz R) : OffS (fun k => B ≤ k) A R.length := by
  by_cases hn : 0 < R.length
  · obtain ⟨g, off, e, hb, _⟩ := h hn
    refine .inr fun g2 off2 e2 h2 => ?_
    rw [e] at e2
    cases e2
    exact Nat.not_le.2 hb h2
  · exact .inl (by omega)
theorem OffS.mono {S T : Nat → Prop} {A : Option Addr} {n : Nat} (h : OffS S A n) (hT : ∀ k, T k → S k) : OffS T A n := h.elim .inl fun f => .inr fun g off e t => f g off e (hT g t)
theorem OffS.or {S T : Nat → Prop} {A : Option Addr} {n : Nat} (h : OffS S A n) (k : OffS T A n) : OffS (fun x => S x ∨ T x) A n := h.elim .inl fun f => k.elim .inl fun f2 => .inr fun g off e t => t.elim (f g off e) (f2 g off e)
theorem gI {N n : Nat} {A : Option Addr} {S : Nat → Prop} (h : Fresh N A) (hS : ∀ k, S k → k < N) : OffS S A n := .inr fun g off e t => by have := h g off e; have := hS g t; omega
end Go.Proofs.YtkmddjbialpppaaGreatDoor
namespace Go.Proofs.YtkmddjbialpppaaGreatDoor
open Go.ChangeShapes Go.WideShapes Go.ChangeAt Go.RowKit
open CM PD SG
section
variable {S T : Nat → Prop} {W W1 : World}
theorem kp_sg {A : Option Addr} {l : List Sg} (k : Kp S W W1) (h : SgR W W.heap.size A l) (a : OffS S A l.length) : SgR W1 W1.heap.size A l := k.rd h (by rw [List.length_map]; exact a)
theorem kp_in {A : Option Addr} {l : List Int} (k : Kp S W W1) (h : InR W W.heap.size A l) (a : OffS S A l.length) : InR W1 W1.heap.size A l := k.rd h (by unfold eS; rw [List.length_map]; exact a)
theorem kp_bo {A : Option Addr} {l : List Bool} (k : Kp S W W1) (h : BoR W W.heap.size A l) (a : OffS S A l.length) : BoR W1 W1.heap.size A l := k.rd h (by unfold boRow; rw [List.length_map]; exact a)
theorem kp_fl {A : Option Addr} {l : List Flt} (k : Kp S W W1) (h : FlR W W.heap.size A l) (a : OffS S A l.length) : FlR W1 W1.heap.size A l := k.rd h (by rw [List.length_map]; exact a)
structure Lv.Away (S : Nat → Prop) (l : Lv) : Prop where
  a : OffS S l.A l.L.sgs.length
  b : OffS S l.B l.L.nws.length
theorem Lv.Ok.kp {l : Lv} (h : l.Ok W) (k : Kp S W W1) (a : l.Away S) : l.Ok W1 := ⟨kp_sg k h.a a.a, kp_in k h.b a.b, h.s, h.n, h.c, h.d⟩
theorem Lv.Ok.away {l : Lv} (h : l.Ok W) : l.Away (fun k => W.heap.size ≤ k) := ⟨by have := fJ h.a; rwa [List.length_map] at this, by have := fJ h.b; unfold eS at this; rwa [List.length_map] at this⟩
theorem Lv.Away.mono {l : Lv} (h : l.Away S) (hT : ∀ k, T k → S k) : l.Away T := ⟨h.a.mono hT, h.b.mono hT⟩
theorem Lv.Away.or {l : Lv} (h : l.Away S) (k : l.Away T) : l.Away (fun x => S x ∨ T x) := ⟨h.a.or k.a, h.b.or k.b⟩
theorem Iv.Ok.kp {i : Iv} (h : i.Ok W) (k : Kp S W W1) (a : OffS S i.a i.l.length) : i.Ok W1 := ⟨kp_in k h.r a, h.m, h.n⟩
theorem Iv.Ok.away {i : Iv} (h : i.Ok W) : OffS (fun k => W.heap.size ≤ k) i.a i.l.length := by have := fJ h.r; unfold eS at this; rwa [List.length_map] at this
theorem Fv.Ok.kp {i : Fv} (h : i.Ok W) (k : Kp S W W1) (a : OffS S i.a i.l.length) : i.Ok W1 := ⟨kp_fl k h.r a, h.n⟩
theorem Fv.Ok.away {i : Fv} (h : i.Ok W) : OffS (fun k => W.heap.size ≤ k) i.a i.l.length := by have := fJ h.r; rwa [List.length_map] at this
theorem Bv.Ok.kp {i : Bv} (h : i.Ok W) (k : Kp S W W1) (a : OffS S i.a i.l.length) : i.Ok W1 := ⟨kp_bo k h.r a, h.n⟩
theorem Bv.Ok.away {i : Bv} (h : i.Ok W) : OffS (fun k => W.heap.size ≤ k) i.a i.l.length := by have := fJ h.r; unfold boRow at this; rwa [List.length_map] at this
structure Ou.Away (Z : Nat → Prop) (o : Ou) : Prop where
  ly : o.ly.Away Z
  fl : OffS Z o.fl.a o.fl.l.length
  S : OffS Z o.S.a o.S.l.length
  G : OffS Z o.G.a o.G.l.length
  news : OffS Z o.news.a o.news.l.length
structure Inn.Away (Z : Nat → Prop) (o : Inn) : Prop where
  ly : o.ly.Away Z
  fl : OffS Z o.fl.a o.fl.l.length
  S : OffS Z o.S.a o.S.l.length
  G : OffS Z o.G.a o.G.l.length
  subs : OffS Z o.subs.a o.subs.l.length
theorem Ou.Ok.kp {o : Ou} (h : o.Ok W) (k : Kp S W W1) (a : o.Away S) : o.Ok W1 := ⟨h.ly.kp k a.ly, h.fl.kp k a.fl, h.S.kp k a.S, h.G.kp k a.G, h.news.kp k a.news⟩
theorem Inn.Ok.kp {o : Inn} (h : o.Ok W) (k : Kp S W W1) (a : o.Away S) : o.Ok W1 := ⟨h.ly.kp k a.ly, h.fl.kp k a.fl, h.S.kp k a.S, h.G.kp k a.G, h.subs.kp k a.subs⟩
theorem Ou.Ok.away {o : Ou} (h : o.Ok W) : o.Away (fun k => W.heap.size ≤ k) := ⟨h.ly.away, h.fl.away, h.S.away, h.G.away, h.news.away⟩
theorem Inn.Ok.away {o : Inn} (h : o.Ok W) : o.Away (fun k => W.heap.size ≤ k) := ⟨h.ly.away, h.fl.away, h.S.away, h.G.away, h.subs.away⟩
theorem Ou.Away.mono {o : Ou} (h : o.Away S) (hT : ∀ k, T k → S k) : o.Away T := ⟨h.ly.mono hT, h.fl.mono hT, h.S.mono hT, h.G.mono hT, h.news.mono hT⟩
theorem Inn.Away.mono {o : Inn} (h : o.Away S) (hT : ∀ k, T k → S k) : o.Away T := ⟨h.ly.mono hT, h.fl.mono hT, h.S.mono hT, h.G.mono hT, h.subs.mono hT⟩
theorem Ou.Away.or {o : Ou} (h : o.Away S) (k : o.Away T) : o.Away (fun x => S x ∨ T x) := ⟨h.ly.or k.ly, h.fl.or k.fl, h.S.or k.S, h.G.or k.G, h.news.or k.news⟩
theorem Inn.Away.or {o : Inn} (h : o.Away S) (k : o.Away T) : o.Away (fun x => S x ∨ T x) := ⟨h.ly.or k.ly, h.fl.or k.fl, h.S.or k.S, h.G.or k.G, h.subs.or k.subs⟩
theorem Ou.Ok.set {o : Ou} (h : o.Ok W) (a : o.Away S) {x : Nat} (hx : S x) (off : Nat) (vs : List Value) : o.Ok (W.setCells x off vs) := h.kp (Kp.set W x off vs hx) a
theorem Inn.Ok.set {o : Inn} (h : o.Ok W) (a : o.Away S) {x : Nat} (hx : S x) (off : Nat) (vs : List Value) : o.Ok (W.setCells x off vs) := h.kp (Kp.set W x off vs hx) a
end
end Go.Proofs.YtkmddjbialpppaaGreatDoor
namespace Go.Proofs.YtkmddjbialpppaaGreatDoor
open Go.ChangeShapes Go.WideShapes Go.ChangeAt Go.RowKit
section
variable {P : Program} {ops : Array Oper} {rest : List Oper} {o : Oper} {a : Act} {Q : Exit → Act → World → Prop}
theorem run_append_lies1 (w : World) {t ty e : TypeId} {sz bytes : Nat} (T : SlT P t e sz bytes) (base : Nat) (A : Option Addr) (c : Nat) (cs : List (List Value)) (hown : Own w base e sz A c cs)
    (B : Option Addr) (d : Nat) (r : List Value) (hrd : Rd w w.heap.size B sz [r]) (hr : r.length = sz) (h1 : ∀ u ∈ r, u.oneCell' = true)
    (hbytes : (cs.length + 1) * bytes ≤ 140737488355328) (h63 : cs.length + 1 ≤ maxLen) (hbase : base ≤ w.heap.size) :
    ∃ A' c' w', (Builtin.append_ #[t, t] ty #[.slice A cs.length c, .slice B 1 d]).run P w = .ok (.slice A' (cs.length + 1) c') w' ∧ Own w' base e sz A' c' (cs ++ [r]) ∧ w.grownBy w' (Value.slice A cs.length c).ownBlock ∧
      (∀ g off, A' = some ⟨g, off, none⟩ → (Value.slice A cs.length c).ownBlock = some g ∨ g = w.heap.size) := by
  obtain ⟨i, z, ht, hi, hz, hsz, hby, hzs, h0⟩ := T
  obtain ⟨b, off, rfl, hblt, hc⟩ := hrd (by simp)
  have hnews : ∀ j u, r[j]? = some u → w.cell? ((⟨b, off, none⟩ : Addr).add j) = some u := fun j u hu => by
    have h3 := hc 0 r j u rfl hu
    rw [Go.WideShapes.add_plain]
    rw [show off + 0 * sz + j = off + j by omega] at h3
    exact h3
  obtain ⟨g, cap, w', hrun, h2, h3, h4, _⟩ := run_append_lies (P := P) w t ty base e i z sz bytes ht hi hz hsz hby hzs h0 (.slice A cs.length c) cs.length cs.flatten hown ⟨b, off, none⟩ 1 d r (by rw [hr]; omega) hnews h1 (by omega) h63 hbytes hbase w.heap.size rfl
  refine ⟨_, _, w', hrun, ?_, h3, fun g' off' he => ?_⟩
  · unfold Own
    rw [List.length_append, List.flatten_append]
    simpa using h2
  · cases he
    exact h4
theorem wp_append_lies1 {K : Act → World → Prop} (w : World) (s x : Operand) (t : TypeId)
    (ho : o.op = .call { callee := .builtin .append, args := #[s, x], argTypes := #[t, t] })
    {e : TypeId} {sz bytes : Nat} (T : SlT P t e sz bytes) (base : Nat) (A : Option Addr) (N c : Nat) (cs : List (List Value)) (hs : a.eval s = .slice A N c) (hown : Own w base e sz A c cs)
    (B : Option Addr) (d : Nat) (r : List Value) (hx : a.eval x = .slice B 1 d) (hrd : Rd w w.heap.size B sz [r]) (hr : r.length = sz) (h1 : ∀ u ∈ r, u.oneCell' = true)
    (hbytes : (cs.length + 1) * bytes ≤ 140737488355328) (h63 : cs.length + 1 ≤ maxLen) (hbase : base ≤ w.heap.size) (hN : N = cs.length)
    (h : ∀ A' c' w', Own w' base e sz A' c' (cs ++ [r]) → w.grownBy w' (Value.slice A N c).ownBlock → (∀ g off, A' = some ⟨g, off, none⟩ → (Value.slice A N c).ownBlock = some g ∨ g = w.heap.size) → K (a.put o.dst (.slice A' (N + 1) c')) w') : Oper.wp P o a w K Q := by
  subst hN
  obtain ⟨A', c', w', hrun, h2, h3, h4⟩ := run_append_lies1 (P := P) (ty := o.type) w T base A c cs hown B d r hrd hr h1 hbytes h63 hbase
  unfold Oper.wp execOp
  simp only [ho, resolve, invoke, builtin, Sem.run_bind, Sem.run_pure, Result.andThen_ok, List.map_toArray, List.map_cons, List.map_nil, hs, hx, hrun]
  exact h A' c' w' h2 h3 h4
end
section
variable {P : Program} {ops : Array Oper} {rest : List Oper} {o : Oper} {a : Act} {Q : Exit → Act → World → Prop}
theorem dM (w : World) (cs : Array Value) (row : List Value) (hcs : cs = row.toArray) (hgd : o.guard = none) (s x : Operand) (t : TypeId)
    (ho : o.op = .call { callee := .builtin .append, args := #[s, x], argTypes := #[t, t] })
    {e : TypeId} {sz bytes : Nat} (T : SlT P t e sz bytes) (hby : bytes ≤ 4096) (hr : row.length = sz) (h1 : ∀ u ∈ row, u.oneCell' = true) (base : Nat) (A : Option Addr) (N c : Nat) (rows : List (List Value)) (hs : a.eval s = .slice A N c) (hown : Own w base e sz A c rows)
    (d : Nat) (hx : a.eval x = .slice (some ⟨w.heap.size, 0, none⟩) 1 d)
    (hl : rows.length ≤ 1000000000) (hbase : base ≤ w.heap.size) (hN : N = rows.length)
    (h : ∀ A' c' w', Ap1 w w' base e sz A c rows row A' c' → (∀ g off, A' = some ⟨g, off, none⟩ → (Value.slice A N c).ownBlock = some g ∨ g = w.heap.size + 1) → wpList P ops Q rest (a.put o.dst (.slice A' (N + 1) c')) w') : wpList P ops Q (o :: rest) a (w.alloc (.cells cs e)) := by
  subst hcs
  have q : Below w.heap.size w (w.alloc (.cells row.toArray e)) := (Below.refl _ _).alloc (Nat.le_refl _) _
  refine wpList_plain hgd fun _ hK => wp_append_lies1 (w.alloc (.cells row.toArray e)) s x t ho T base A N c rows hs (hown.alloc _) _ d row hx (ap1_side w row hr) hr h1
    (Nat.le_trans (Nat.mul_le_mul (show rows.length + 1 ≤ 1000000001 by omega) hby) (by decide)) (by simp [maxLen]; omega) (by simp; omega) hN fun A' c' w' o1 g1 l1 => hK _ _ (h A' c' w' ⟨o1, hown, ?_, hbase, ?_⟩ ?_)
  · subst hN
    exact (q.mono hbase).trans (jK g1 (hown.alloc _) (by simp; omega))
  · subst hN
    exact g1
  · intro g off he
    have := l1 g off he
    simpa using this
end
theorem fM {α : Type} : ∀ (a b b' c : List α), b'.length = b.length → eH (a ++ (b ++ c)) a.length b' = a ++ (b' ++ c)
  | [], b, [], c, h => by
    have : b = [] := by simpa using h.symm
    subst this
    rfl
  | [], [], _ :: _, _, h => by simp at h
  | [], x :: b, y :: b', c, h => by
    have ih := fM [y] b b' c (by simpa using h)
    simpa [eH] using ih
  | x :: a, b, [], c, h => by
    have : b = [] := by simpa using h.symm
    subst this
    rfl
  | x :: a, [], _ :: _, _, h => by simp at h
  | x :: a, v :: b, y :: b', c, h => by
    have e : ((x :: a) ++ ((v :: b) ++ c)).set (x :: a).length y = (x :: a ++ [y]) ++ (b ++ c) := by
      rw [List.set_append_right _ _ (Nat.le_refl _)]
      simp
    have ih := fM ((x :: a) ++ [y]) b b' c (by simpa using h)
    rw [show eH ((x :: a) ++ ((v :: b) ++ c)) (x :: a).length (y :: b') = eH (((x :: a) ++ ((v :: b) ++ c)).set (x :: a).length y) ((x :: a).length + 1) b' from rfl, e]
    rw [List.length_append] at ih
    rw [show (x :: a).length + 1 = (x :: a).length + [y].length from rfl, ih]
    simp
termination_by a b b' _ _ => b'.length
end Go.Proofs.YtkmddjbialpppaaGreatDoor
