/- The walk of conf.Out. -/
import Derived.Test.YtplpnnjjjfcibaaMgCoH
import Derived.Test.YtplpnnjjjfcibaaMgCoU
import Derived.Test.YtplpnnjjjfcibaaMgCoL
namespace Go.Proofs.Ytplpnnjjjfcibaa
open Go.ChangeShapes Go.WideShapes Go.ChangeAt Go.RowKit
open CM PD SG

def COutV (c : Cf) (i : Int) (V : Ou) (E : Int) : Prop :=
  (∃ (k : Nat) (h : k < c.l.length), i = k ∧ confB c = true ∧ NouV c.l[k].ly c.l[k].fill c.l[k].fl c.l[k].S.l c.l[k].yes c.l[k].no c.l[k].delay V E) ∨ ((inI i 0 ((c.l.length : Int) - 1) && confB c) = false ∧ E = 1 ∧ V = .zero)

set_option maxRecDepth 100000 in
set_option maxHeartbeats 16000000 in
theorem confOutAt_any (c : Cf) (i : Int) (w : World) (ho : c.Ok w) : Calls Try.prog 30 #[.agg c.cs.toArray, .int .i64 i] w fun e w' => (∃ V E, e = .returned (.tuple #[.agg V.cs.toArray, .int .i64 E]) ∧ V.Ok w' ∧ COutV c i V E) ∧ Below w.heap.size w w' := by
  obtain ⟨w0, hw0⟩ : ∃ w0, w0 = (w.alloc (.cells c.cs.toArray 52)).alloc (.cells zOu.toArray 73) := ⟨_, rfl⟩
  have step : ∀ (W : World) (o : Obj), Below W.heap.size W (W.alloc o) := fun W o => (Below.refl _ _).alloc (Nat.le_refl _) _
  have B1 := hide (heap_below (World.alloc_heap_new w (.cells c.cs.toArray 52)) (step _ (.cells zOu.toArray 73)))
  have B2 := hide (World.alloc_heap_new (w.alloc (.cells c.cs.toArray 52)) (.cells zOu.toArray 73))
  have Q0 : Hid (Below w.heap.size w w0) := by rw [hw0]; exact hide ((step _ _).alloc (by simp) _)
  rw [← hw0] at B1 B2
  simp only [World.size_alloc] at B2
  have z0 : w.heap.size + 1 < w0.heap.size := heap_lt B2.out
  have WI := hide confWithin_any
  have RT := confRight_any c w0 (ho.next Q0.out)
  unfold Cf.cs at RT
  replace RT := hide RT
  have HO := hide ho
  have hl := ho.n
  clear step ho
  obtain ⟨c0, c1, c2, c3, c4, c5, c6, c7⟩ := cf_cells B1.out
  go_enter Try.func30, Try.ntmps30
  go_upto_region 1 with fail
  change Code.wp _ _ _ _ ((w.alloc (.cells c.cs.toArray 52)).alloc (.cells zOu.toArray 73))
  rw [← hw0]
  clear hw0
  go_wp2_with fail
  (with_reducible refine (WI.out _ _ _ _).mono ?_)
  rintro e1 w1 ⟨rfl, rfl⟩
  rcases h1 : inI i 0 ((c.l.length : Int) - 1) with _ | _
  · have TH := hide (show w1.there (w.heap.size + 1) 0 26 from there_heap (cs := zOu) B2.out)
    have HV := hide (show COutV c i .zero 1 from .inr ⟨by rw [h1]; rfl, rfl, rfl⟩)
    clear h1
    go_wp2_with (refine wpList_store_hid (by rfl) 73 (.tmp 4) (.tmp 18) (by rfl) (w.heap.size + 1) 0 zOu (by rfl) (by rfl) (by exact TH.out) (by kernel_rfl) (by simp [Value.oneCell', zOu, Ou.zero, Ou.cs, Iv.v, Fv.v, Bv.v]) ?_)
    intro w9 e9
    have A9 := hide (show w9.heap[w.heap.size + 1]? = some (.cells Ou.zero.cs.toArray 73 (0, 0)) by rw [e9.out]; exact whole_heap zOu (xs := zOu) B2.out rfl)
    have Q9 := hide (show Below w.heap.size w w9 by rw [e9.out]; exact Q0.out.trans (below_setCells (g := w.heap.size + 1) _ 0 _ (by omega)))
    clear e9 TH
    go_wp2_with fail
    refine bodyPost_ret (results_cell_tmp (by rfl) _ w9 (w.heap.size + 1) 73 Ou.zero.cs.toArray (0, 0) _ (.int .i64 1) (by rfl) (by rfl) A9.out Try.underlying73 (by rfl) (by kernel_rfl)) rfl ⟨⟨.zero, 1, rfl, Ou.zero_ok _, HV.out⟩, Q9.out⟩
  have k1 := inI_true h1
  go_wp2_with fail
  (with_reducible refine (RT.out).mono ?_)
  rintro e2 w2 ⟨rfl, q2⟩
  have C1 := hide (heap_below B1.out q2)
  have C2 := hide (heap_below B2.out q2)
  have Q2 := hide (below_next Q0.out Q0.out.size q2)
  have z2 : w.heap.size + 1 < w2.heap.size := heap_lt C2.out
  clear q2 B1 Q0 RT c0 c2 c3 c4 c5 c6 c7 c1
  rcases hb : confB c with _ | _
  · have TH := hide (show w2.there (w.heap.size + 1) 0 26 from there_heap (cs := zOu) C2.out)
    have HV := hide (show COutV c i .zero 1 from .inr ⟨by rw [h1, hb]; rfl, rfl, rfl⟩)
    clear h1 hb
    go_wp2_with (refine wpList_store_hid (by rfl) 73 (.tmp 4) (.tmp 18) (by rfl) (w.heap.size + 1) 0 zOu (by rfl) (by rfl) (by exact TH.out) (by kernel_rfl) (by simp [Value.oneCell', zOu, Ou.zero, Ou.cs, Iv.v, Fv.v, Bv.v]) ?_)
    intro w9 e9
    have A9 := hide (show w9.heap[w.heap.size + 1]? = some (.cells Ou.zero.cs.toArray 73 (0, 0)) by rw [e9.out]; exact whole_heap zOu (xs := zOu) C2.out rfl)
    have Q9 := hide (show Below w.heap.size w w9 by rw [e9.out]; exact Q2.out.trans (below_setCells (g := w.heap.size + 1) _ 0 _ (by omega)))
    clear e9 TH
    go_wp2_with fail
    refine bodyPost_ret (results_cell_tmp (by rfl) _ w9 (w.heap.size + 1) 73 Ou.zero.cs.toArray (0, 0) _ (.int .i64 1) (by rfl) (by rfl) A9.out Try.underlying73 (by rfl) (by kernel_rfl)) rfl ⟨⟨.zero, 1, rfl, Ou.zero_ok _, HV.out⟩, Q9.out⟩
  obtain ⟨k, rfl⟩ := Int.eq_ofNat_of_zero_le k1.1
  have hk : k < c.l.length := by omega
  have hki : (k : Int) < (c.l.length : Int) := by omega
  obtain ⟨pb, po, hca, hpb, hrg⟩ := PdR.at_ (HO.out.next Q2.out).r hk
  have RG := hide hrg
  have HPO := hide ((HO.out.next Q2.out).p c.l[k] (List.getElem_mem hk))
  have HW := hide (fun V E (h : NouV c.l[k].ly c.l[k].fill c.l[k].fl c.l[k].S.l c.l[k].yes c.l[k].no c.l[k].delay V E) => show COutV c k V E from .inl ⟨k, hk, rfl, hb, h⟩)
  have HPW := hide (HO.out.p c.l[k] (List.getElem_mem hk))
  obtain ⟨c0, c1, c2, c3, c4, c5, c6, c7⟩ := cf_cells C1.out
  clear c0 c2 c3 c4 c5 c6 c7 hrg hb h1 C1
  generalize c.l[k] = p at *
  rw [hca] at c1
  have CO := hide (confOut_any p w2 HPO.out)
  go_wp2_with (refine wpList_load_mid rfl 67 (.tmp 22) (by rfl) pb (po + k * 22) (by rfl) p.cs _ (by exact RG.out) Try.underlying67 (by rfl) (by kernel_rfl) ?_)
  (with_reducible refine (CO.out).mono ?_)
  rintro e3 w3 ⟨⟨V, E, rfl, hV, hN, hD⟩, q3⟩
  have D2 := hide (heap_below C2.out q3)
  have Q3 := hide (below_next Q2.out Q2.out.size q3)
  have HV := hide hV
  have HN := hide hN
  have HD := hide hD
  clear q3 hV hN hD CO C2 Q2 RG c1
  have TH := hide (show w3.there (w.heap.size + 1) 0 26 from there_heap (cs := zOu) D2.out)
  go_wp2_with (refine wpList_store_hid (by rfl) 73 (.tmp 4) (.tmp 25) (by rfl) (w.heap.size + 1) 0 V.cs (by rfl) (by rfl) (by exact TH.out) (by kernel_rfl) (by simp [Value.oneCell', Ou.cs, Iv.v, Fv.v, Bv.v]) ?_)
  intro w9 e9
  have A9 := hide (show w9.heap[w.heap.size + 1]? = some (.cells V.cs.toArray 73 (0, 0)) by rw [e9.out]; exact whole_heap V.cs (xs := zOu) D2.out rfl)
  have Q9 := hide (show Below w.heap.size w w9 by rw [e9.out]; exact Q3.out.trans (below_setCells (g := w.heap.size + 1) _ 0 _ (by omega)))
  have hO := hide (show V.Ok w9 from by
    have hly : V.ly.Ok w9 ∧ V.fl.Ok w9 := by
      rcases HD.out with ⟨_, _, h1, _, h2, _⟩ | ⟨_, _, h⟩
      · rw [h1, h2]; exact ⟨HPW.out.ly.next Q9.out, HPW.out.fl.next Q9.out⟩
      · rw [h]; exact ⟨(Ou.zero_ok _).ly, (Ou.zero_ok _).fl⟩
    exact ⟨hly.1, hly.2, ⟨rd_behind HV.out.S.r HN.out.S z2 e9.out, HV.out.S.m, HV.out.S.n⟩, ⟨rd_behind HV.out.G.r HN.out.G z2 e9.out, HV.out.G.m, HV.out.G.n⟩, ⟨rd_behind HV.out.news.r HN.out.news z2 e9.out, HV.out.news.n⟩⟩)
  have HX := hide (HW.out V E HD.out)
  clear e9 TH D2 HW HD
  go_wp2_with fail
  refine bodyPost_ret (results_cell_tmp (by rfl) _ w9 (w.heap.size + 1) 73 V.cs.toArray (0, 0) _ (.int .i64 E) (by rfl) (by rfl) A9.out Try.underlying73 (by rfl) (by kernel_rfl)) rfl ⟨⟨V, E, rfl, hO.out, HX.out⟩, Q9.out⟩
end Go.Proofs.Ytplpnnjjjfcibaa

/- The walk of conf.In. -/
namespace Go.Proofs.Ytplpnnjjjfcibaa
open Go.ChangeShapes Go.WideShapes Go.ChangeAt Go.RowKit
open CM PD SG

def CInV (c : Cf) (i : Int) (V : Inn) (E : Int) : Prop :=
  (∃ (k : Nat) (h : k < c.l.length), i = k ∧ confB c = true ∧ CinV c.l[k] V E) ∨ ((inI i 0 ((c.l.length : Int) - 1) && confB c) = false ∧ E = 1 ∧ V = .zero)

set_option maxRecDepth 100000 in
set_option maxHeartbeats 16000000 in
theorem confInAt_any (c : Cf) (i : Int) (w : World) (ho : c.Ok w) : Calls Try.prog 31 #[.agg c.cs.toArray, .int .i64 i] w fun e w' => (∃ V E, e = .returned (.tuple #[.agg V.cs.toArray, .int .i64 E]) ∧ V.Ok w' ∧ CInV c i V E) ∧ Below w.heap.size w w' := by
  obtain ⟨w0, hw0⟩ : ∃ w0, w0 = (w.alloc (.cells c.cs.toArray 52)).alloc (.cells zIn.toArray 79) := ⟨_, rfl⟩
  have step : ∀ (W : World) (o : Obj), Below W.heap.size W (W.alloc o) := fun W o => (Below.refl _ _).alloc (Nat.le_refl _) _
  have B1 := hide (heap_below (World.alloc_heap_new w (.cells c.cs.toArray 52)) (step _ (.cells zIn.toArray 79)))
  have B2 := hide (World.alloc_heap_new (w.alloc (.cells c.cs.toArray 52)) (.cells zIn.toArray 79))
  have Q0 : Hid (Below w.heap.size w w0) := by rw [hw0]; exact hide ((step _ _).alloc (by simp) _)
  rw [← hw0] at B1 B2
  simp only [World.size_alloc] at B2
  have z0 : w.heap.size + 1 < w0.heap.size := heap_lt B2.out
  have WI := hide confWithin_any
  have RT := confRight_any c w0 (ho.next Q0.out)
  unfold Cf.cs at RT
  replace RT := hide RT
  have HO := hide ho
  have hl := ho.n
  clear step ho
  obtain ⟨c0, c1, c2, c3, c4, c5, c6, c7⟩ := cf_cells B1.out
  go_enter Try.func31, Try.ntmps31
  go_upto_region 1 with fail
  change Code.wp _ _ _ _ ((w.alloc (.cells c.cs.toArray 52)).alloc (.cells zIn.toArray 79))
  rw [← hw0]
  clear hw0
  go_wp2_with fail
  (with_reducible refine (WI.out _ _ _ _).mono ?_)
  rintro e1 w1 ⟨rfl, rfl⟩
  rcases h1 : inI i 0 ((c.l.length : Int) - 1) with _ | _
  · have TH := hide (show w1.there (w.heap.size + 1) 0 13 from there_heap (cs := zIn) B2.out)
    have HV := hide (show CInV c i .zero 1 from .inr ⟨by rw [h1]; rfl, rfl, rfl⟩)
    clear h1
    go_wp2_with (refine wpList_store_hid (by rfl) 79 (.tmp 4) (.tmp 18) (by rfl) (w.heap.size + 1) 0 zIn (by rfl) (by rfl) (by exact TH.out) (by kernel_rfl) (by simp [Value.oneCell', zIn, Inn.zero, Inn.cs, Iv.v, Fv.v]) ?_)
    intro w9 e9
    have A9 := hide (show w9.heap[w.heap.size + 1]? = some (.cells Inn.zero.cs.toArray 79 (0, 0)) by rw [e9.out]; exact whole_heap zIn (xs := zIn) B2.out rfl)
    have Q9 := hide (show Below w.heap.size w w9 by rw [e9.out]; exact Q0.out.trans (below_setCells (g := w.heap.size + 1) _ 0 _ (by omega)))
    clear e9 TH
    go_wp2_with fail
    refine bodyPost_ret (results_cell_tmp (by rfl) _ w9 (w.heap.size + 1) 79 Inn.zero.cs.toArray (0, 0) _ (.int .i64 1) (by rfl) (by rfl) A9.out Try.underlying79 (by rfl) (by kernel_rfl)) rfl ⟨⟨.zero, 1, rfl, Inn.zero_ok _, HV.out⟩, Q9.out⟩
  have k1 := inI_true h1
  go_wp2_with fail
  (with_reducible refine (RT.out).mono ?_)
  rintro e2 w2 ⟨rfl, q2⟩
  have C1 := hide (heap_below B1.out q2)
  have C2 := hide (heap_below B2.out q2)
  have Q2 := hide (below_next Q0.out Q0.out.size q2)
  have z2 : w.heap.size + 1 < w2.heap.size := heap_lt C2.out
  clear q2 B1 Q0 RT c0 c2 c3 c4 c5 c6 c7 c1
  rcases hb : confB c with _ | _
  · have TH := hide (show w2.there (w.heap.size + 1) 0 13 from there_heap (cs := zIn) C2.out)
    have HV := hide (show CInV c i .zero 1 from .inr ⟨by rw [h1, hb]; rfl, rfl, rfl⟩)
    clear h1 hb
    go_wp2_with (refine wpList_store_hid (by rfl) 79 (.tmp 4) (.tmp 18) (by rfl) (w.heap.size + 1) 0 zIn (by rfl) (by rfl) (by exact TH.out) (by kernel_rfl) (by simp [Value.oneCell', zIn, Inn.zero, Inn.cs, Iv.v, Fv.v]) ?_)
    intro w9 e9
    have A9 := hide (show w9.heap[w.heap.size + 1]? = some (.cells Inn.zero.cs.toArray 79 (0, 0)) by rw [e9.out]; exact whole_heap zIn (xs := zIn) C2.out rfl)
    have Q9 := hide (show Below w.heap.size w w9 by rw [e9.out]; exact Q2.out.trans (below_setCells (g := w.heap.size + 1) _ 0 _ (by omega)))
    clear e9 TH
    go_wp2_with fail
    refine bodyPost_ret (results_cell_tmp (by rfl) _ w9 (w.heap.size + 1) 79 Inn.zero.cs.toArray (0, 0) _ (.int .i64 1) (by rfl) (by rfl) A9.out Try.underlying79 (by rfl) (by kernel_rfl)) rfl ⟨⟨.zero, 1, rfl, Inn.zero_ok _, HV.out⟩, Q9.out⟩
  obtain ⟨k, rfl⟩ := Int.eq_ofNat_of_zero_le k1.1
  have hk : k < c.l.length := by omega
  have hki : (k : Int) < (c.l.length : Int) := by omega
  obtain ⟨pb, po, hca, hpb, hrg⟩ := PdR.at_ (HO.out.next Q2.out).r hk
  have RG := hide hrg
  have HPO := hide ((HO.out.next Q2.out).p c.l[k] (List.getElem_mem hk))
  have HW := hide (fun V E (h : CinV c.l[k] V E) => show CInV c k V E from .inl ⟨k, hk, rfl, hb, h⟩)
  have HPW := hide (HO.out.p c.l[k] (List.getElem_mem hk))
  obtain ⟨c0, c1, c2, c3, c4, c5, c6, c7⟩ := cf_cells C1.out
  clear c0 c2 c3 c4 c5 c6 c7 hrg hb h1 C1
  generalize c.l[k] = p at *
  rw [hca] at c1
  have CO := hide (confIn_any p w2 HPO.out)
  go_wp2_with (refine wpList_load_mid rfl 67 (.tmp 22) (by rfl) pb (po + k * 22) (by rfl) p.cs _ (by exact RG.out) Try.underlying67 (by rfl) (by kernel_rfl) ?_)
  (with_reducible refine (CO.out).mono ?_)
  rintro e3 w3 ⟨⟨V, E, rfl, hV, hN, hD⟩, q3⟩
  have D2 := hide (heap_below C2.out q3)
  have Q3 := hide (below_next Q2.out Q2.out.size q3)
  have HV := hide hV
  have HN := hide hN
  have HD := hide hD
  clear q3 hV hN hD CO C2 Q2 RG c1
  have TH := hide (show w3.there (w.heap.size + 1) 0 13 from there_heap (cs := zIn) D2.out)
  go_wp2_with (refine wpList_store_hid (by rfl) 79 (.tmp 4) (.tmp 25) (by rfl) (w.heap.size + 1) 0 V.cs (by rfl) (by rfl) (by exact TH.out) (by kernel_rfl) (by simp [Value.oneCell', Inn.cs, Iv.v, Fv.v]) ?_)
  intro w9 e9
  have A9 := hide (show w9.heap[w.heap.size + 1]? = some (.cells V.cs.toArray 79 (0, 0)) by rw [e9.out]; exact whole_heap V.cs (xs := zIn) D2.out rfl)
  have Q9 := hide (show Below w.heap.size w w9 by rw [e9.out]; exact Q3.out.trans (below_setCells (g := w.heap.size + 1) _ 0 _ (by omega)))
  have hO := hide (show V.Ok w9 from by
    have hly : V.ly.Ok w9 ∧ V.fl.Ok w9 ∧ V.subs.Ok w9 := by
      rcases HD.out with ⟨_, _, h1, h2, _, _, _, h3, _⟩ | ⟨_, _, h⟩
      · rw [h1, h2, h3]; exact ⟨HPW.out.ly.next Q9.out, HPW.out.fl.next Q9.out, HPW.out.subs.next Q9.out⟩
      · rw [h]; exact ⟨(Inn.zero_ok _).ly, (Inn.zero_ok _).fl, (Inn.zero_ok _).subs⟩
    exact ⟨hly.1, hly.2.1, ⟨rd_behind HV.out.S.r HN.out.S z2 e9.out, HV.out.S.m, HV.out.S.n⟩, ⟨rd_behind HV.out.G.r HN.out.G z2 e9.out, HV.out.G.m, HV.out.G.n⟩, hly.2.2⟩)
  have HX := hide (HW.out V E HD.out)
  clear e9 TH D2 HW HD
  go_wp2_with fail
  refine bodyPost_ret (results_cell_tmp (by rfl) _ w9 (w.heap.size + 1) 79 V.cs.toArray (0, 0) _ (.int .i64 E) (by rfl) (by rfl) A9.out Try.underlying79 (by rfl) (by kernel_rfl)) rfl ⟨⟨V, E, rfl, hO.out, HX.out⟩, Q9.out⟩
end Go.Proofs.Ytplpnnjjjfcibaa

/- The reference's SameInts of places. -/
namespace Go.Proofs.Ytplpnnjjjfcibaa
open Go.ChangeShapes Go.WideShapes Go.ChangeAt Go.RowKit
open CM PD SG

set_option maxRecDepth 100000 in
set_option maxHeartbeats 1000000 in
theorem sameNats13 (l : List Nat) (A : Option Addr) (c : Nat) (B : Option Addr) (d : Nat) (w : World) (hA : NR w w.heap.size A l) (hB : NR w w.heap.size B l) (hl : l.length ≤ 1000) :
    Calls Try.prog 32 #[.slice A l.length c, .slice B l.length d] w fun e w' => e = .returned (.bool true) ∧ Below w.heap.size w w' := by
  have HA := hide hA
  have HB := hide hB
  clear hA hB
  go_enter Try.func32, Try.ntmps32
  go_wp2
  go_loopw [13] (fun i W => ∃ k : Nat, k ≤ l.length ∧ i = .int .i64 k ∧ Below w.heap.size w W) (fun i _ => l.length - (intOf i).toNat)
  case atStart => exact ⟨0, Nat.zero_le _, rfl, Below.refl _ _⟩
  case round =>
    obtain ⟨k, hk, rfl, q⟩ := hrel
    by_cases hlt : k < l.length
    · obtain ⟨b, off, rfl, hb, ca⟩ := NR.at_ (Rd.next HA.out q q.size) hlt
      obtain ⟨b', off', rfl, hb', cb⟩ := NR.at_ (Rd.next HB.out q q.size) hlt
      have mA := fun s : InW wr => s.cell hb ca
      have mB := fun s : InW wr => s.cell hb' cb
      have h1 : (k : Int) < (l.length : Int) := by omega
      have h0 : (0 : Int) ≤ (k : Int) := by omega
      clear ca cb
      go_wp2_with fail
      refine wp_region_tame (by kernel_rfl) (by kernel_rfl) ?_
      repeat (go_big_quiet_step (fail))
      refine wpQuiet_nil ?_
      rintro _ ⟨s, rfl⟩
      have qs := q.trans (s.h.mono q.size)
      clear mA mB
      go_wp2
      go_roundw
      case rel => exact ⟨k + 1, by omega, by go_num, qs⟩
      case measure => simp [intOf]; omega
    · go_wp2
      go_ret
      exact ⟨rfl, q⟩
end Go.Proofs.Ytplpnnjjjfcibaa

/- The walk of campanilelaw21.ConfParts. -/
namespace Go.Proofs.Ytplpnnjjjfcibaa
open Go.ChangeShapes Go.WideShapes Go.ChangeAt Go.RowKit Go.Maps
open CM PD SG

/-- A frame's cells. -/
def frC (id : Int) (ext rem : Bool) (dlc : Int) (dt : ByteArray) : List Value := [.int .u32 id, .bool ext, .bool rem, .int .i64 dlc, .string dt]
theorem out_ok {c : Cf} {i : Int} {V : Ou} {E : Int} (hc : confB c = true) (h : COutV c i V E) : (∃ (k : Nat) (hk : k < c.l.length), i = k ∧ E = 0 ∧ V.right = true ∧ V.fill = c.l[k].fill ∧ V.snd.delay = c.l[k].delay ∧ V.news.l.length = c.l[k].S.l.length) ∨ (inI i 0 ((c.l.length : Int) - 1) = false ∧ E = 1) := by
  rcases h with ⟨k, hk, rfl, _, hN⟩ | ⟨h1, rfl, _⟩
  · refine .inl ⟨k, hk, rfl, ?_⟩
    have ho := (confB_all hc hk).2.1
    unfold outB at ho
    rcases hN with ⟨h0, rfl, e1, e2, e3, e4, e5, e6, e7, e8⟩ | ⟨h0, _⟩
    · unfold newOutB at h0
      obtain ⟨g1, g2⟩ := Bool.and_eq_true_iff.1 h0
      obtain ⟨g3, g4⟩ := Bool.and_eq_true_iff.1 g2
      have hg : gnL c.l[k].S.l = c.l[k].S.l := by unfold gnL; rw [if_pos g1]
      rw [hg] at g3
      refine ⟨rfl, ?_, e2, by rw [e8]; rfl, by rw [e7, List.length_replicate]⟩
      unfold Ou.right
      rw [e1, e3, e4, e5, e6, g3, e7, e8, sndNew_right g4, List.length_replicate]
      have g5 := g3
      unfold comB at g5
      simp only [Bool.and_eq_true, decide_eq_true_eq] at g5
      simp [g5.2.2.2.2.1]
    · rw [h0] at ho; cases ho
  · rw [hc, Bool.and_true] at h1
    exact .inr ⟨h1, rfl⟩
theorem out_bad {c : Cf} {i : Int} {V : Ou} {E : Int} (hc : confB c = false) (h : COutV c i V E) : E = 1 ∧ V = .zero := by
  rcases h with ⟨k, hk, rfl, h1, _⟩ | ⟨_, rfl, rfl⟩
  · rw [hc] at h1; cases h1
  · exact ⟨rfl, rfl⟩
theorem in_ok {c : Cf} {i : Int} {V : Inn} {E : Int} (hc : confB c = true) (h : CInV c i V E) : (∃ (k : Nat) (hk : k < c.l.length), i = k ∧ E = 0 ∧ V.right = true ∧ V.w = wtOf c.l[k] ∧ V.subs.l.length = c.l[k].S.l.length) ∨ (inI i 0 ((c.l.length : Int) - 1) = false ∧ E = 1) := by
  rcases h with ⟨k, hk, rfl, _, hN⟩ | ⟨h1, rfl, _⟩
  · refine .inl ⟨k, hk, rfl, ?_⟩
    have ho := (confB_all hc hk).2.2
    rcases hN with ⟨h0, rfl, e1, e2, e3, e4, e5, e6, e7⟩ | ⟨h0, _⟩
    · have h0' := h0
      unfold inB newInB at h0
      obtain ⟨g1, g2⟩ := Bool.and_eq_true_iff.1 h0
      obtain ⟨g3, g4⟩ := Bool.and_eq_true_iff.1 g2
      refine ⟨rfl, ?_, e7, ?_⟩
      · unfold Inn.right
        rw [e1, e2, e3, e4, e5, e6, e7, g3, g4]
        rfl
      · have g5 := g3
        unfold comB at g5
        simp only [Bool.and_eq_true, decide_eq_true_eq] at g5
        have g6 := (Bool.and_eq_true_iff.1 g4).1
        unfold fitA at g6
        simp only [Bool.and_eq_true, decide_eq_true_eq] at g6
        have g7 := g5.2.2.2.2.1
        have hg : gnL c.l[k].S.l = c.l[k].S.l := by
          unfold gnL at g7 ⊢
          split at g7
          · rename_i hm; rw [if_pos hm]
          · exfalso; have := g5.2.1; simp at g7; simp [← g7] at this
        rw [hg] at g7
        rw [e6, g6.1, g7]
    · rw [h0] at ho; cases ho
  · rw [hc, Bool.and_true] at h1
    exact .inr ⟨h1, rfl⟩
theorem in_bad {c : Cf} {i : Int} {V : Inn} {E : Int} (hc : confB c = false) (h : CInV c i V E) : E = 1 ∧ V = .zero := by
  rcases h with ⟨k, hk, rfl, h1, _⟩ | ⟨_, rfl, rfl⟩
  · rw [hc] at h1; cases h1
  · exact ⟨rfl, rfl⟩
/-- The last of the first k that a frame finds. -/
def fo (c : Cf) (id : Int) (g : Bool) (k : Nat) : Option Int := if g = true then none else seen c.l k id
theorem find_ok {c : Cf} {id : Int} {ext rem : Bool} {a : Int} {is : Bool} (hc : confB c = true) (h : FindV c id ext rem a is) : a = (fo c id (ext || rem) c.l.length).getD 0 ∧ is = (fo c id (ext || rem) c.l.length).isSome := by
  unfold fo
  rcases h with ⟨h1, rfl, rfl⟩ | ⟨h1, _, rfl, rfl⟩
  · rw [hc, Bool.not_true, Bool.or_false] at h1
    rw [h1]; simp
  · rw [h1]; simp
theorem find_bad {c : Cf} {id : Int} {ext rem : Bool} {a : Int} {is : Bool} (hc : confB c = false) (h : FindV c id ext rem a is) : a = 0 ∧ is = false := by
  rcases h with ⟨_, rfl, rfl⟩ | ⟨_, h1, _⟩
  · exact ⟨rfl, rfl⟩
  · rw [hc] at h1; cases h1
theorem fo_succ {c : Cf} {id : Int} {g : Bool} {k : Nat} (h : k < c.l.length) : fo c id g (k + 1) = if g = false ∧ c.l[k].id = id then some (k : Int) else fo c id g k := by
  unfold fo
  cases g with
  | true => simp
  | false =>
    simp only [Bool.false_eq_true, if_false, true_and]
    rw [seen_succ h]
    by_cases e : id = c.l[k].id
    · simp [e]
    · have : ¬ c.l[k].id = id := fun h => e h.symm
      simp [e, this]
theorem whichL_bad {c : Cf} {pB : Pd → Bool} (hc : confB c = false) : whichL c pB = [] := by unfold whichL; rw [hc]; simp
theorem whichL_ok {c : Cf} {pB : Pd → Bool} (hc : confB c = true) : whichL c pB = whP c.l pB c.l.length := by unfold whichL; rw [hc]; simp
theorem in_range8 {W : World} {b : Nat} {i : Inn} {t : TypeId} {fz : Nat × Nat} (h : W.heap[b]? = some (.cells i.cs.toArray t fz)) : W.rangeAt b 8 (wtcL i.w) := fun j v hj => by
  have hr := range_heap h (8 + j) v
  rw [Nat.zero_add] at hr
  refine hr ?_
  have e : wtcL i.w = i.cs.drop 8 := rfl
  rw [e, List.getElem?_drop] at hj
  exact hj

set_option maxRecDepth 100000 in
set_option maxHeartbeats 32000000 in
theorem confParts_walk (c0 : Cf) (at_ node : Int) (id : Int) (ext rem : Bool) (dlc : Int) (dt : ByteArray) (w : World) (ho : c0.Raw w) (hcm : c0.c ≤ maxLen) (hid : 0 ≤ id ∧ id < 4294967296) :
    Calls Try.prog 9 #[.agg c0.cs.toArray, .int .i64 at_, .int .i64 node, .agg (frC id ext rem dlc dt).toArray] w fun e w' => e = .returned (.bool true) ∧ Below w.heap.size w w' := by
  obtain ⟨w0, hw0⟩ : ∃ w0, w0 = (w.alloc (.cells c0.cs.toArray 52)).alloc (.cells (frC id ext rem dlc dt).toArray 62) := ⟨_, rfl⟩
  have step : ∀ (W : World) (o : Obj), Below W.heap.size W (W.alloc o) := fun W o => (Below.refl _ _).alloc (Nat.le_refl _) _
  have B0 := hide (heap_below (World.alloc_heap_new w (.cells c0.cs.toArray 52)) (step _ (.cells (frC id ext rem dlc dt).toArray 62)))
  have G0 := hide (World.alloc_heap_new (w.alloc (.cells c0.cs.toArray 52)) (.cells (frC id ext rem dlc dt).toArray 62))
  have Q0 : Hid (Below w.heap.size w w0) := by rw [hw0]; exact hide ((step _ _).alloc (by simp) _)
  rw [← hw0] at B0 G0
  simp only [World.size_alloc] at G0
  have FW := hide (few21_any c0 w0 ⟨Rd.next ho.r Q0.out Q0.out.size, fun p hp => (ho.p p hp).next Q0.out, ho.n, ho.base⟩ hcm)
  clear hcm step
  go_enter Try.func9, Try.ntmps9
  go_upto_region 1 with fail
  change Code.wp _ _ _ _ ((w.alloc (.cells c0.cs.toArray 52)).alloc (.cells (frC id ext rem dlc dt).toArray 62))
  rw [← hw0]
  clear hw0
  go_wp2_with (refine wpList_load_row rfl 52 (.tmp 4) (by rfl) w.heap.size (by rfl) 52 c0.cs.toArray (0, 0) _ (by exact B0.out) Try.underlying52 (by rfl) (by kernel_rfl) ?_)
  (with_reducible refine (FW.out).mono ?_)
  rintro e1 w1 ⟨⟨A, n, rfl, hR, hA⟩, q1⟩
  have B1 := hide (heap_below B0.out q1)
  have G1 := hide (heap_below G0.out q1)
  have Q1 := hide (below_next Q0.out Q0.out.size q1)
  have z0 : w.heap.size < w0.heap.size := heap_lt B0.out
  have HR := hide hR
  have HA := hide (show ∀ g off, A = some ⟨g, off, none⟩ → g ≠ w.heap.size from fun g off h => by have := hA g off h; omega)
  have HC := hide (show ∀ W, Rd W W.heap.size A 22 (pdRow (cutCf c0 A n).l) → Below w.heap.size w W → (cutCf c0 A n).Ok W from fun W h q => ho.cut h q)
  generalize cutCf c0 A n = c at *
  have TH := hide (show w1.there w.heap.size 0 8 from there_heap (cs := c0.cs) B1.out)
  clear q1 B0 G0 Q0 FW hR hA ho
  go_wp2_with (refine wpList_store_hid (by rfl) 52 (.tmp 4) (.tmp 23) (by rfl) w.heap.size 0 c.cs (by rfl) (by rfl) (by exact TH.out) (by kernel_rfl) (by simp [Value.oneCell', Cf.cs]) ?_)
  intro w2 e2
  have B2 := hide (show w2.heap[w.heap.size]? = some (.cells c.cs.toArray 52 (0, 0)) by rw [e2.out]; exact whole_heap c.cs (xs := c0.cs) B1.out rfl)
  have G2 := hide (show w2.heap[w.heap.size + 1]? = some (.cells (frC id ext rem dlc dt).toArray 62 (0, 0)) by rw [e2.out]; exact other_heap (by omega) _ _ _ G1.out)
  have Q2 := hide (show Below w.heap.size w w2 by rw [e2.out]; exact Q1.out.trans (below_setCells (g := w.heap.size) _ 0 _ (Nat.le_refl _)))
  have HO := hide (show c.Ok w2 from HC.out w2 (by rw [e2.out]; exact rd_setCells HA.out c.cs 0 w1 HR.out) Q2.out)
  clear e2 TH B1 G1 Q1 HR HA HC z0
  have OU := hide (confOutAt_any c at_ w2 HO.out)
  go_wp2_with (refine wpList_load_row rfl 52 (.tmp 4) (by rfl) w.heap.size (by rfl) 52 c.cs.toArray (0, 0) _ (by exact B2.out) Try.underlying52 (by rfl) (by kernel_rfl) ?_)
  (with_reducible refine (OU.out).mono ?_)
  rintro e3 w3 ⟨⟨V, E, rfl, hV, hN⟩, q3⟩
  have q3' : Below w3.heap.size w3 (w3.alloc (.cells zOu.toArray 73)) := (Below.refl _ _).alloc (Nat.le_refl _) _
  have g3 := World.alloc_heap_new w3 (.cells zOu.toArray 73)
  have TH := hide (show (w3.alloc (.cells zOu.toArray 73)).there w3.heap.size 0 26 from there_heap (cs := zOu) g3)
  have B3 := hide (heap_below B2.out q3)
  have G3 := hide (heap_below G2.out q3)
  have Q3 := hide (below_next Q2.out Q2.out.size q3)
  have HO3 := hide (HO.out.next q3)
  have HV := hide hV
  have HN := hide hN
  clear B2 G2 Q2 HO OU hV hN q3
  go_wp2_with (refine wpList_store_hid (by rfl) 73 (.tmp 9) (.tmp 28) (by rfl) w3.heap.size 0 V.cs (by rfl) (by rfl) (by exact TH.out) (by kernel_rfl) (by simp [Value.oneCell', Ou.cs, Iv.v, Fv.v, Bv.v]) ?_)
  intro w4 e4
  have s4 : Below w3.heap.size w3 w4 := by rw [e4.out]; exact q3'.trans (below_setCells (g := w3.heap.size) _ 0 _ (Nat.le_refl _))
  have X4 := hide (show w4.heap[w3.heap.size]? = some (.cells V.cs.toArray 73 (0, 0)) by rw [e4.out]; exact whole_heap V.cs (xs := zOu) g3 rfl)
  have B4 := hide (heap_below B3.out s4)
  have G4 := hide (heap_below G3.out s4)
  have Q4 := hide (below_next Q3.out Q3.out.size s4)
  have HO4 := hide (HO3.out.next s4)
  have HV4 := hide (HV.out.next s4)
  have IN := hide (confInAt_any c at_ w4 HO4.out)
  clear e4 TH g3 q3' s4 B3 G3 Q3 HO3 HV
  generalize w3.heap.size = ob at *
  go_wp2_with (refine wpList_load_row rfl 52 (.tmp 4) (by rfl) w.heap.size (by rfl) 52 c.cs.toArray (0, 0) _ (by exact B4.out) Try.underlying52 (by rfl) (by kernel_rfl) ?_)
  (with_reducible refine (IN.out).mono ?_)
  rintro e5 w5 ⟨⟨I, F, rfl, hI, hM⟩, q5⟩
  have q5' : Below w5.heap.size w5 (w5.alloc (.cells zIn.toArray 79)) := (Below.refl _ _).alloc (Nat.le_refl _) _
  have g5 := World.alloc_heap_new w5 (.cells zIn.toArray 79)
  have TH := hide (show (w5.alloc (.cells zIn.toArray 79)).there w5.heap.size 0 13 from there_heap (cs := zIn) g5)
  have B5 := hide (heap_below B4.out q5)
  have G5 := hide (heap_below G4.out q5)
  have X5 := hide (heap_below X4.out q5)
  have Q5 := hide (below_next Q4.out Q4.out.size q5)
  have HO5 := hide (HO4.out.next q5)
  have HV5 := hide (HV4.out.next q5)
  have HI := hide hI
  have HM := hide hM
  clear B4 G4 X4 Q4 HO4 HV4 IN hI hM q5
  go_wp2_with (refine wpList_store_hid (by rfl) 79 (.tmp 11) (.tmp 34) (by rfl) w5.heap.size 0 I.cs (by rfl) (by rfl) (by exact TH.out) (by kernel_rfl) (by simp [Value.oneCell', Inn.cs, Iv.v, Fv.v]) ?_)
  intro w6 e6
  have s6 : Below w5.heap.size w5 w6 := by rw [e6.out]; exact q5'.trans (below_setCells (g := w5.heap.size) _ 0 _ (Nat.le_refl _))
  have Y6 := hide (show w6.heap[w5.heap.size]? = some (.cells I.cs.toArray 79 (0, 0)) by rw [e6.out]; exact whole_heap I.cs (xs := zIn) g5 rfl)
  have B6 := hide (heap_below B5.out s6)
  have G6 := hide (heap_below G5.out s6)
  have X6 := hide (heap_below X5.out s6)
  have Q6 := hide (below_next Q5.out Q5.out.size s6)
  have HO6 := hide (HO5.out.next s6)
  have HV6 := hide (HV5.out.next s6)
  have HI6 := hide (HI.out.next s6)
  have FI := hide (show Calls Try.prog 29 #[.agg c.cs.toArray, .agg (frC id ext rem dlc dt).toArray] w6 _ from confFind_any c id ext rem dlc dt w6 HO6.out hid)
  clear e6 TH g5 q5' s6 B5 G5 X5 Q5 HO5 HV5 HI
  generalize w5.heap.size = ib at *
  go_wp2_with (first | (refine wpList_load_row rfl 52 (.tmp 4) (by rfl) w.heap.size (by rfl) 52 c.cs.toArray (0, 0) _ (by exact B6.out) Try.underlying52 (by rfl) (by kernel_rfl) ?_) | (refine wpList_load_row rfl 62 (.tmp 7) (by rfl) (w.heap.size + 1) (by rfl) 62 (frC id ext rem dlc dt).toArray (0, 0) _ (by exact G6.out) Try.underlying62 (by rfl) (by kernel_rfl) ?_))
  (with_reducible refine (FI.out).mono ?_)
  rintro e7 w7 ⟨⟨a, is, rfl, hf⟩, q7⟩
  have B7 := hide (heap_below B6.out q7)
  have G7 := hide (heap_below G6.out q7)
  have X7 := hide (heap_below X6.out q7)
  have Y7 := hide (heap_below Y6.out q7)
  have Q7 := hide (below_next Q6.out Q6.out.size q7)
  have HO7 := hide (HO6.out.next q7)
  have HV7 := hide (HV6.out.next q7)
  have HI7 := hide (HI6.out.next q7)
  have HF := hide hf
  clear q7 B6 G6 X6 Y6 Q6 HO6 HV6 HI6 FI hf
  go_wp2_with fail
  refine wp_region_L [0, 1, 3, 4] [(0, fun W => W.heap[w.heap.size]? = some (.cells c.cs.toArray 52 (0, 0))), (3, fun W => W.heap[w.heap.size]? = some (.cells c.cs.toArray 52 (0, 0)))] (by kernel_rfl) ?_
  replace B7 := hide (show w7.drew.heap[_]? = _ from B7.out)
  replace G7 := hide (show w7.drew.heap[_]? = _ from G7.out)
  replace X7 := hide (show w7.drew.heap[_]? = _ from X7.out)
  replace Y7 := hide (show w7.drew.heap[_]? = _ from Y7.out)
  have qd : Below w7.heap.size w7 w7.drew := (Below.refl _ _).drew
  replace Q7 := hide (below_next Q7.out Q7.out.size qd)
  replace HO7 := hide (HO7.out.next qd)
  replace HV7 := hide (HV7.out.next qd)
  replace HI7 := hide (HI7.out.next qd)
  clear qd
  generalize w7.drew = w8 at *
  refine wpAnyL_load (i := 0) (v := .agg c.cs.toArray) rfl rfl (by kernel_rfl) (by kernel_rfl) (by kernel_rfl) (by kernel_rfl) (by kernel_rfl) (fun _ _ _ h => h) rfl (fun W h => exec_heap W w.heap.size 52 _ _ h Try.underlying52 rfl (by kernel_rfl) _ _ (.tmp 4) (by rfl) (by rfl)) (B7.out) ?_
  go_simp
  refine wpAnyL_pure (i := 1) (v := .int .i64 node) rfl rfl (by kernel_rfl) (by kernel_rfl) (by kernel_rfl) (by kernel_rfl) (by kernel_rfl) (fun _ _ _ h => h) rfl (fun W => by go_simp) ?_
  go_simp
  refine wpAnyL_load (i := 3) (v := .agg c.cs.toArray) rfl rfl (by kernel_rfl) (by kernel_rfl) (by kernel_rfl) (by kernel_rfl) (by kernel_rfl) (fun _ _ _ h => h) rfl (fun W h => exec_heap W w.heap.size 52 _ _ h Try.underlying52 rfl (by kernel_rfl) _ _ (.tmp 4) (by rfl) (by rfl)) (B7.out) ?_
  go_simp
  refine wpAnyL_pure (i := 4) (v := .int .i64 node) rfl rfl (by kernel_rfl) (by kernel_rfl) (by kernel_rfl) (by kernel_rfl) (by kernel_rfl) (fun _ _ _ h => h) rfl (fun W => by go_simp) ?_
  go_simp
  have SE := hide (confSent_any c node w8 HO7.out)
  refine wpAnyL_one (i := 2) (by kernel_rfl) ?_
  refine wpOp_do rfl rfl ?_
  go_simp
  (with_reducible refine (SE.out).mono ?_)
  rintro e9 w9 ⟨⟨SA, sc, rfl, hS, _⟩, q9⟩
  have B9 := hide (heap_below B7.out q9)
  have G9 := hide (heap_below G7.out q9)
  have X9 := hide (heap_below X7.out q9)
  have Y9 := hide (heap_below Y7.out q9)
  have Q9 := hide (below_next Q7.out Q7.out.size q9)
  have HO9 := hide (HO7.out.next q9)
  have HV9 := hide (HV7.out.next q9)
  have HI9 := hide (HI7.out.next q9)
  have HS := hide hS
  have HE := hide (confHeard_any c node w9 HO9.out)
  clear q9 B7 G7 X7 Y7 Q7 HO7 HV7 HI7 SE hS
  go_simp
  refine ⟨keepsL_mk (by kernel_rfl) (.past (by kernel_rfl) (.cons B9.out .nil)), ?_⟩
  go_simp
  refine wpAnyL_one (i := 5) (by kernel_rfl) ?_
  refine wpOp_do rfl rfl ?_
  go_simp
  (with_reducible refine (HE.out).mono ?_)
  rintro e10 w10 ⟨⟨HA, hc, rfl, hH, _⟩, q10⟩
  have B10 := hide (heap_below B9.out q10)
  have G10 := hide (heap_below G9.out q10)
  have X10 := hide (heap_below X9.out q10)
  have Y10 := hide (heap_below Y9.out q10)
  have Q10 := hide (below_next Q9.out Q9.out.size q10)
  have HO10 := hide (HO9.out.next q10)
  have HV10 := hide (HV9.out.next q10)
  have HI10 := hide (HI9.out.next q10)
  have HS10 := hide (show NR w10 w10.heap.size SA (whichL c (sentB node)) from Rd.next HS.out q10 q10.size)
  have HH := hide hH
  clear q10 B9 G9 X9 Y9 Q9 HO9 HV9 HI9 HE HS hH
  go_simp
  refine ⟨keepsL_all (by kernel_rfl) (by kernel_rfl), ?_⟩
  go_simp
  refine wpAnyL_one (i := 6) (by kernel_rfl) ?_
  refine wpOp_do rfl rfl ?_
  go_simp
  refine ⟨keepsL_all (by kernel_rfl) (by kernel_rfl), ?_⟩
  go_simp
  refine wpAnyL_one (i := 7) (by kernel_rfl) ?_
  refine wpOp_do rfl rfl ?_
  go_simp
  refine ⟨keepsL_all (by kernel_rfl) (by kernel_rfl), ?_⟩
  go_simp
  refine wpAnyL_done (by kernel_rfl) ?_ _
  have WR := hide (wrong_any c w10 HO10.out)
  go_wp2_with (refine wpList_load_row rfl 52 (.tmp 4) (by rfl) w.heap.size (by rfl) 52 c.cs.toArray (0, 0) _ (by exact B10.out) Try.underlying52 (by rfl) (by kernel_rfl) ?_)
  (with_reducible refine (WR.out).mono ?_)
  rintro e11 w11 ⟨⟨v, rfl, hv⟩, q11⟩
  have B11 := hide (heap_below B10.out q11)
  have G11 := hide (heap_below G10.out q11)
  have X11 := hide (heap_below X10.out q11)
  have Y11 := hide (heap_below Y10.out q11)
  have Q11 := hide (below_next Q10.out Q10.out.size q11)
  have HO11 := hide (HO10.out.next q11)
  have HV11 := hide (HV10.out.next q11)
  have HI11 := hide (HI10.out.next q11)
  have HS11 := hide (show NR w11 w11.heap.size SA (whichL c (sentB node)) from Rd.next HS10.out q11 q11.size)
  have HH11 := hide (show NR w11 w11.heap.size HA (whichL c (hearB c node)) from Rd.next HH.out q11 q11.size)
  have HW := hide (wrong_conf hv)
  have AL := hide alive21_any
  clear q11 B10 G10 X10 Y10 Q10 HO10 HV10 HI10 HS10 HH WR hv
  rcases HW.out with ⟨rfl, hc⟩ | ⟨hne, hc⟩
  case inr =>
    obtain ⟨rfl, rfl⟩ := out_bad hc HN.out
    obtain ⟨rfl, rfl⟩ := in_bad hc HM.out
    obtain ⟨rfl, rfl⟩ := find_bad hc HF.out
    rw [whichL_bad hc, whichL_bad hc]
    clear hc HW HN HM HF HS11 HH11
    have A1 := hide (AL.out w11)
    go_wp2_with fail
    (with_reducible refine (A1.out).mono ?_)
    rintro e12 w12 ⟨rfl, q12⟩
    have X12 := hide (heap_below X11.out q12)
    have Y12 := hide (heap_below Y11.out q12)
    have Q12 := hide (below_next Q11.out Q11.out.size q12)
    have o8 : w12.cell? ⟨ob, 8, none⟩ = some (.slice none 0 0) := (ou_cells X12.out).1.2.2.2.2.2.2.2.2
    have i7 : w12.cell? ⟨ib, 7, none⟩ = some (.slice none 0 0) := (in_cells Y12.out).2.2.2.2.2.2.2.1
    clear q12 X11 Y11 X12 Y12 A1 AL
    go_wp2_with fail
    go_ret
    exact ⟨rfl, Q12.out⟩
  have HC := hide hc
  have HOU := hide (out_ok hc HN.out)
  have HIN := hide (in_ok hc HM.out)
  have HFI := hide (find_ok hc HF.out)
  rw [whichL_ok hc, whichL_ok hc]
  rw [whichL_ok hc] at HS11 HH11
  have hn := (fastB_nodes (confB_fast hc)).1
  have hl := HO11.out.n
  have RS := hide (refSent_any c node w11 HO11.out)
  have RH := hide (fun (W : World) (q : Below w11.heap.size w11 W) => refHeard_any c node W (HO11.out.next q) hn (fun p hp => conf_dst hc hp))
  have HLS := whP_len c.l (sentB node) c.l.length
  have HLH := whP_len c.l (hearB c node) c.l.length
  clear hc HW HN HM HF
  generalize whP c.l (sentB node) c.l.length = L at *
  generalize whP c.l (hearB c node) c.l.length = K at *
  go_wp2_with (refine wpList_load_row rfl 52 (.tmp 4) (by rfl) w.heap.size (by rfl) 52 c.cs.toArray (0, 0) _ (by exact B11.out) Try.underlying52 (by rfl) (by kernel_rfl) ?_)
  (with_reducible refine (RS.out).mono ?_)
  rintro e12 w12 ⟨⟨RA, rc, rfl, hR⟩, q12⟩
  have B12 := hide (heap_below B11.out q12)
  have G12 := hide (heap_below G11.out q12)
  have X12 := hide (heap_below X11.out q12)
  have Y12 := hide (heap_below Y11.out q12)
  have Q12 := hide (below_next Q11.out Q11.out.size q12)
  have HO12 := hide (HO11.out.next q12)
  have HV12 := hide (HV11.out.next q12)
  have HI12 := hide (HI11.out.next q12)
  clear B11 G11 X11 Y11 Q11 HO11 HV11 HI11
  have HS12 := hide (show NR w12 w12.heap.size SA L from Rd.next HS11.out q12 q12.size)
  have HH12 := hide (show NR w12 w12.heap.size HA K from Rd.next HH11.out q12 q12.size)
  have SM := hide (sameNats13 L SA sc RA rc w12 HS12.out hR (by omega))
  have qq := q12
  have QQ := hide qq
  clear q12 HS11 HH11 RS hR qq HS12
  go_wp2_with fail
  (with_reducible refine (SM.out).mono ?_)
  rintro e13 w13 ⟨rfl, q13⟩
  have B13 := hide (heap_below B12.out q13)
  have G13 := hide (heap_below G12.out q13)
  have X13 := hide (heap_below X12.out q13)
  have Y13 := hide (heap_below Y12.out q13)
  have Q13 := hide (below_next Q12.out Q12.out.size q13)
  have HO13 := hide (HO12.out.next q13)
  have HV13 := hide (HV12.out.next q13)
  have HI13 := hide (HI12.out.next q13)
  clear B12 G12 X12 Y12 Q12 HO12 HV12 HI12
  have HH13 := hide (show NR w13 w13.heap.size HA K from Rd.next HH12.out q13 q13.size)
  have RH13 := hide (RH.out w13 (below_next QQ.out QQ.out.size q13))
  clear q13 HH12 SM RH QQ
  go_wp2_with (refine wpList_load_rowG (by kernel_rfl) 52 (.tmp 4) (by rfl) w.heap.size (by rfl) 52 c.cs.toArray (0, 0) _ (by exact B13.out) Try.underlying52 (by rfl) (by kernel_rfl) ?_)
  (with_reducible refine (RH13.out).mono ?_)
  rintro e14 w14 ⟨⟨RB, rd, rfl, hR⟩, q14⟩
  have B14 := hide (heap_below B13.out q14)
  have G14 := hide (heap_below G13.out q14)
  have X14 := hide (heap_below X13.out q14)
  have Y14 := hide (heap_below Y13.out q14)
  have Q14 := hide (below_next Q13.out Q13.out.size q14)
  have HO14 := hide (HO13.out.next q14)
  have HV14 := hide (HV13.out.next q14)
  have HI14 := hide (HI13.out.next q14)
  clear B13 G13 X13 Y13 Q13 HO13 HV13 HI13
  have HH14 := hide (show NR w14 w14.heap.size HA K from Rd.next HH13.out q14 q14.size)
  have SM := hide (sameNats13 K HA hc RB rd w14 HH14.out hR (by omega))
  clear q14 HH13 RH13 hR HH14
  go_wp2_with fail
  (with_reducible refine (SM.out).mono ?_)
  rintro e15 w15 ⟨rfl, q15⟩
  have B15 := hide (heap_below B14.out q15)
  have G15 := hide (heap_below G14.out q15)
  have X15 := hide (heap_below X14.out q15)
  have Y15 := hide (heap_below Y14.out q15)
  have Q15 := hide (below_next Q14.out Q14.out.size q15)
  have HO15 := hide (HO14.out.next q15)
  have HV15 := hide (HV14.out.next q15)
  have HI15 := hide (HI14.out.next q15)
  clear B14 G14 X14 Y14 Q14 HO14 HV14 HI14
  have A1 := hide (AL.out w15)
  clear q15 SM AL
  go_wp2_with fail
  (with_reducible refine (A1.out).mono ?_)
  rintro e16 w16 ⟨rfl, q16⟩
  have B16 := hide (heap_below B15.out q16)
  have G16 := hide (heap_below G15.out q16)
  have X16 := hide (heap_below X15.out q16)
  have Y16 := hide (heap_below Y15.out q16)
  have Q16 := hide (below_next Q15.out Q15.out.size q16)
  have HO16 := hide (HO15.out.next q16)
  have HV16 := hide (HV15.out.next q16)
  have HI16 := hide (HI15.out.next q16)
  clear B15 G15 X15 Y15 Q15 HO15 HV15 HI15
  clear q16 A1
  obtain ⟨g, hg⟩ : ∃ g, g = (ext || rem) := ⟨_, rfl⟩
  rw [← hg] at HFI
  have HG := hide hg
  clear hg
  obtain ⟨d0, d1, d2, d3, d4, d5, d6, d7⟩ := cf_cells B16.out
  clear d0 d2 d3 d4 d5 d6 d7
  have F0 : fo c id g 0 = none := by unfold fo; cases g <;> rfl
  have F00 := hide (show (Value.int .i64 0 = .int .i64 ((fo c id g 0).getD 0)) ∧ (Value.bool false = .bool (fo c id g 0).isSome) by rw [F0]; exact ⟨rfl, rfl⟩)
  clear F0
  have zf : w.heap.size + 1 < w16.heap.size := heap_lt G16.out
  go_wp2_with fail
  clear d1
  go_loopw [17, 18, 107] (fun wa fb vi W => ∃ k : Nat, k ≤ c.l.length ∧ vi = .int .i64 k ∧ wa = .int .i64 ((fo c id g k).getD 0) ∧ fb = .bool (fo c id g k).isSome ∧ Hid (Below w16.heap.size w16 W)) (fun _ _ vi _ => c.l.length - (intOf vi).toNat)
  case atStart => exact ⟨0, Nat.zero_le _, rfl, F00.out.1, F00.out.2, hide (Below.refl _ _)⟩
  case round =>
    obtain ⟨k, hk, rfl, rfl, rfl, hQ⟩ := hrel
    clear F00
    by_cases hkl : k < c.l.length
    · have hki : (k : Int) < (c.l.length : Int) := by omega
      obtain ⟨pb, po, hca, hpb, hrg⟩ := PdR.at_ (HO16.out.next hQ.out).r hkl
      have RG := hide hrg
      have FS := hide (fo_succ (id := id) (g := g) hkl)
      clear hrg
      generalize c.l[k] = p at *
      generalize hfk : fo c id g k = fk at *
      clear hfk
      generalize hfk : fo c id g (k + 1) = fk1 at *
      have HFK := hide hfk
      clear hfk
      rw [hca]
      have q2 : Below wr.heap.size wr (wr.alloc (.cells zPd.cs.toArray 67)) := (Below.refl _ _).alloc (Nat.le_refl _) _
      have g2 := World.alloc_heap_new wr (.cells zPd.cs.toArray 67)
      have TH := hide (show (wr.alloc (.cells zPd.cs.toArray 67)).there wr.heap.size 0 22 from there_heap (cs := zPd.cs) g2)
      go_wp2_with (first | (refine wpList_load_mid rfl 67 (.tmp 110) (by rfl) pb (po + k * 22) (by rfl) p.cs _ (by exact RG.out) Try.underlying67 (by rfl) (by kernel_rfl) ?_) | (refine wpList_store_hid (by rfl) 67 (.tmp 20) (.tmp 111) (by rfl) wr.heap.size 0 p.cs (by rfl) (by rfl) (by exact TH.out) (by kernel_rfl) (by simp [Value.oneCell', Pd.cs, Iv.v, Fv.v]) ?_))
      intro w17 e17
      have s2 : Below wr.heap.size wr w17 := by rw [e17.out]; exact q2.trans (below_setCells (g := wr.heap.size) _ 0 _ (Nat.le_refl _))
      have P17 := hide (show w17.heap[wr.heap.size]? = some (.cells p.cs.toArray 67 (0, 0)) by rw [e17.out]; exact whole_heap p.cs (xs := zPd.cs) g2 rfl)
      have Q17 := hide (below_next hQ.out hQ.out.size s2)
      clear e17 TH g2 q2 s2 RG hQ
      generalize wr.heap.size = pbx at *
      obtain ⟨⟨p0, _⟩, _⟩ := pd_cells P17.out
      have GF := heapB G16.out Q17.out zf
      have f0 : w17.cell? ⟨w.heap.size + 1, 0, none⟩ = some (.int .u32 id) := by simp [World.cell?, GF, frC]
      have f1 : w17.cell? ⟨w.heap.size + 1, 1, none⟩ = some (.bool ext) := by simp [World.cell?, GF, frC]
      have f2 : w17.cell? ⟨w.heap.size + 1, 2, none⟩ = some (.bool rem) := by simp [World.cell?, GF, frC]
      clear GF P17
      rcases hx : (p.id == id) with _ | _
      · have hne : ¬ p.id = id := by simpa using hx
        have hF : fk1 = fk := by have := FS.out; rw [if_neg (fun h => hne h.2)] at this; exact this
        subst hF
        have HK2 := hide HFK.out
        clear FS HFK hne
        go_wp2_with fail
        go_roundw
        case rel => exact ⟨k + 1, by omega, by go_num, by rw [HK2.out], by rw [HK2.out], Q17⟩
        case measure => simp [intOf]; omega
      · have he : p.id = id := by simpa using hx
        rcases (Bool.eq_false_or_eq_true ext).symm with he1 | he1
        · rcases (Bool.eq_false_or_eq_true rem).symm with he2 | he2
          · have hg0 : g = false := by rw [HG.out, he1, he2]; rfl
            have hF : fk1 = some (k : Int) := by have := FS.out; rw [if_pos ⟨hg0, he⟩] at this; exact this
            subst hF
            have HK2 := hide HFK.out
            rw [he1] at f1
            rw [he2] at f2
            clear FS HFK he he1 he2 hg0
            go_wp2_with fail
            go_roundw
            case rel => exact ⟨k + 1, by omega, by go_num, by rw [HK2.out]; rfl, by rw [HK2.out]; rfl, Q17⟩
            case measure => simp [intOf]; omega
          · have hg0 : g = true := by rw [HG.out, he1, he2]; rfl
            have hF : fk1 = fk := by have := FS.out; rw [if_neg (fun h => by rw [hg0] at h; cases h.1)] at this; exact this
            subst hF
            have HK2 := hide HFK.out
            rw [he1] at f1
            rw [he2] at f2
            clear FS HFK he he1 he2 hg0
            go_wp2_with fail
            go_roundw
            case rel => exact ⟨k + 1, by omega, by go_num, by rw [HK2.out], by rw [HK2.out], Q17⟩
            case measure => simp [intOf]; omega
        · have hg0 : g = true := by rw [HG.out, he1]; rfl
          have hF : fk1 = fk := by have := FS.out; rw [if_neg (fun h => by rw [hg0] at h; cases h.1)] at this; exact this
          subst hF
          have HK2 := hide HFK.out
          rw [he1] at f1
          clear FS HFK he he1 hg0
          go_wp2_with fail
          go_roundw
          case rel => exact ⟨k + 1, by omega, by go_num, by rw [HK2.out], by rw [HK2.out], Q17⟩
          case measure => simp [intOf]; omega
    · obtain rfl : k = c.l.length := by omega
      rw [← HFI.out.1, ← HFI.out.2]
      have haa : (a != a) = false := by simp
      have hii : (is != is) = false := by simp
      have qr := hQ.out
      have B17 := hide (heap_below B16.out qr)
      have X17 := hide (heap_below X16.out qr)
      have Y17 := hide (heap_below Y16.out qr)
      have Q17 := hide (below_next Q16.out Q16.out.size qr)
      have HO17 := hide (HO16.out.next qr)
      have HV17 := hide (HV16.out.next qr)
      have HI17 := hide (HI16.out.next qr)
      clear qr hQ B16 X16 Y16 G16 Q16 HO16 HV16 HI16 HFI
      obtain ⟨d0, d1, d2, d3, d4, d5, d6, d7⟩ := cf_cells B17.out
      clear d0 d2 d3 d4 d5 d6 d7
      rcases HOU.out with ⟨k, hk', rfl, rfl, hr, hfl, hdl, hnw⟩ | ⟨hr, rfl⟩
      case inr =>
        rcases HIN.out with ⟨k, hk', rfl, _⟩ | ⟨_, rfl⟩
        · exfalso
          rw [show inI (k : Int) 0 ((c.l.length : Int) - 1) = true by unfold inI; simp; omega] at hr
          cases hr
        have hat : at_ < 0 ∨ (0 ≤ at_ ∧ (c.l.length : Int) ≤ at_) := by
          unfold inI at hr
          rw [decide_eq_false_iff_not] at hr
          omega
        clear HOU HIN hr
        rcases hat with hat | ⟨hat, hat2⟩
        · go_wp2_with fail
          go_ret
          exact ⟨rfl, Q17.out⟩
        · go_wp2_with fail
          go_ret
          exact ⟨rfl, Q17.out⟩
      rcases HIN.out with ⟨k2, hk2', hkk, rfl, ir, iw, isb⟩ | ⟨h2, _⟩
      case inr =>
        exfalso
        rw [show inI (k : Int) 0 ((c.l.length : Int) - 1) = true by unfold inI; simp; omega] at h2
        cases h2
      obtain rfl : k = k2 := by omega
      clear hkk HOU HIN
      have hki : (k : Int) < (c.l.length : Int) := by omega
      obtain ⟨pb, po, hca, hpb, hrg⟩ := PdR.at_ HO17.out.r hk'
      have RG := hide hrg
      clear hrg
      generalize c.l[k] = p at *
      rw [hca] at d1
      have q2 : Below wr.heap.size wr (wr.alloc (.cells zPd.cs.toArray 67)) := (Below.refl _ _).alloc (Nat.le_refl _) _
      have g2 := World.alloc_heap_new wr (.cells zPd.cs.toArray 67)
      have TH := hide (show (wr.alloc (.cells zPd.cs.toArray 67)).there wr.heap.size 0 22 from there_heap (cs := zPd.cs) g2)
      go_wp2_with (first | (refine wpList_load_mid rfl 67 (.tmp 155) (by rfl) pb (po + k * 22) (by rfl) p.cs _ (by exact RG.out) Try.underlying67 (by rfl) (by kernel_rfl) ?_) | (refine wpList_store_hid (by rfl) 67 (.tmp 21) (.tmp 156) (by rfl) wr.heap.size 0 p.cs (by rfl) (by rfl) (by exact TH.out) (by kernel_rfl) (by simp [Value.oneCell', Pd.cs, Iv.v, Fv.v]) ?_))
      intro w18 e18
      have s2 : Below wr.heap.size wr w18 := by rw [e18.out]; exact q2.trans (below_setCells (g := wr.heap.size) _ 0 _ (Nat.le_refl _))
      have P18 := hide (show w18.heap[wr.heap.size]? = some (.cells p.cs.toArray 67 (0, 0)) by rw [e18.out]; exact whole_heap p.cs (xs := zPd.cs) g2 rfl)
      have X18 := hide (heap_below X17.out s2)
      have Y18 := hide (heap_below Y17.out s2)
      have Q18 := hide (below_next Q17.out Q17.out.size s2)
      have HV18 := hide (HV17.out.next s2)
      have HI18 := hide (HI17.out.next s2)
      clear e18 TH g2 q2 s2 RG d1 B17 X17 Y17 Q17 HO17 HV17 HI17
      generalize wr.heap.size = pbx at *
      have RO := rightOut_any V w18 HV18.out
      rw [hr] at RO
      replace RO := hide RO
      have RI := hide (fun (W : World) (q : Below w18.heap.size w18 W) => rightIn_any I W (HI18.out.next q))
      rw [ir] at RI
      go_wp2_with (refine wpList_load_rowG (by kernel_rfl) 73 (.tmp 9) (by rfl) ob (by rfl) 73 V.cs.toArray (0, 0) _ (by exact X18.out) Try.underlying73 (by rfl) (by kernel_rfl) ?_)
      (with_reducible refine (RO.out).mono ?_)
      rintro e19 w19 ⟨rfl, q19⟩
      have P19 := hide (heap_below P18.out q19)
      have X19 := hide (heap_below X18.out q19)
      have Y19 := hide (heap_below Y18.out q19)
      have Q19 := hide (below_next Q18.out Q18.out.size q19)
      have RI19 := hide (RI.out w19 q19)
      clear q19 P18 X18 Y18 Q18 RO RI HV18 HI18
      go_wp2_with (refine wpList_load_rowG (by kernel_rfl) 79 (.tmp 11) (by rfl) ib (by rfl) 79 I.cs.toArray (0, 0) _ (by exact Y19.out) Try.underlying79 (by rfl) (by kernel_rfl) ?_)
      (with_reducible refine (RI19.out).mono ?_)
      rintro e20 w20 ⟨rfl, q20⟩
      have P20 := hide (heap_below P19.out q20)
      have X20 := hide (heap_below X19.out q20)
      have Y20 := hide (heap_below Y19.out q20)
      have Q20 := hide (below_next Q19.out Q19.out.size q20)
      clear q20 P19 X19 Y19 Q19 RI19
      have o3 : w20.cell? ⟨ob, 3, none⟩ = some (.int .u8 p.fill) := by have := (ou_cells X20.out).1.2.2.2.1; rwa [hfl] at this
      have o8 : w20.cell? ⟨ob, 8, none⟩ = some (.slice V.news.a p.S.l.length V.news.c) := by have := (ou_cells X20.out).1.2.2.2.2.2.2.2.2; unfold Bv.v at this; rwa [hnw] at this
      have o20 : w20.cell? ⟨ob, 20, none⟩ = some (.int .i64 p.delay) := by
        obtain ⟨_, _, _, _, _, _, _, _, _, _, _, _, h, _⟩ := ou_cells X20.out
        rwa [hdl] at h
      have i7 : w20.cell? ⟨ib, 7, none⟩ = some (.slice I.subs.a p.S.l.length I.subs.c) := by have := (in_cells Y20.out).2.2.2.2.2.2.2.1; unfold Iv.v at this; rwa [isb] at this
      have IR := hide (show w20.rangeAt ib 8 [.int .i64 p.limit, .int .i64 p.limit, .int .i64 0, .bool false, .bool false] by have := in_range8 Y20.out; rw [iw] at this; exact this)
      obtain ⟨⟨p0, p1, p2, p3, p4, p5, p6, p7, p8, p9⟩, r0, r1, r2, r3, r4, r5, r6, r7, r8, r9, r10, r11⟩ := pd_cells P20.out
      clear p0 p1 p2 p3 p4 p5 p8 p9 r0 r1 r2 r3 r4 r5 r6 r7 r8 r9 hr hfl hdl hnw ir iw isb P20 X20 Y20
      generalize p.S.l.length = ns at *
      go_wp2_with (refine wpList_load_midG (by kernel_rfl) 77 (.tmp 187) (by rfl) ib 8 (by rfl) [.int .i64 p.limit, .int .i64 p.limit, .int .i64 0, .bool false, .bool false] _ (by exact IR.out) Try.underlying77 (by rfl) (by kernel_rfl) ?_)
      go_ret
      exact ⟨rfl, Q20.out⟩
end Go.Proofs.Ytplpnnjjjfcibaa
