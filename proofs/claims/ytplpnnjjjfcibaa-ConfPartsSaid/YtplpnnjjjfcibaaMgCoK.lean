/- The walk of campanilelaw21.ends. -/
import Derived.Test.YtplpnnjjjfcibaaCoF
import Derived.Test.YtplpnnjjjfcibaaMgPdU
import Derived.Test.YtplpnnjjjfcibaaCoV
namespace Go.Proofs.Ytplpnnjjjfcibaa
open Go.ChangeShapes Go.WideShapes Go.ChangeAt Go.RowKit
open CM PD SG

set_option maxRecDepth 100000 in
set_option maxHeartbeats 16000000 in
theorem ends21_any (p : Pd) (w : World) (ho : p.Ok w) : Calls Try.prog 59 #[.agg p.cs.toArray] w fun e w' => e = .returned (.bool (outB p && inB p)) ∧ Below w.heap.size w w' := by
  obtain ⟨r, hr⟩ : ∃ r, r = (outB p && inB p) := ⟨_, rfl⟩
  rw [← hr]
  have HR := hide hr
  clear hr
  obtain ⟨w0, hw0⟩ : ∃ w0, w0 = w.alloc (.cells p.cs.toArray 67) := ⟨_, rfl⟩
  have B1 := hide (World.alloc_heap_new w (.cells p.cs.toArray 67))
  have Q0 : Hid (Below w.heap.size w w0) := by rw [hw0]; exact hide ((Below.refl _ _).alloc (Nat.le_refl _) _)
  rw [← hw0] at B1
  have o0 := ho.next Q0.out
  have NO := newOut_any p.ly p.fill p.S p.fl p.yes p.no p.delay w0 o0.ly o0.fl o0.S
  unfold Lv.cs wycL Iv.v Fv.v at NO
  replace NO := hide NO
  have RN := hide (fun W => recvNew_any p.limit p.limit W)
  have HO := hide ho
  clear o0 ho
  obtain ⟨⟨c0, c1, c2, c3, c4, c5, c6, c7, c8, c9⟩, d0, d1, d2, d3, d4, d5, d6, d7, d8, d9, d10, d11⟩ := pd_cells B1.out
  go_enter Try.func59, Try.ntmps59
  go_upto_region 1 with fail
  change Code.wp _ _ _ _ (w.alloc (.cells p.cs.toArray 67))
  rw [← hw0]
  clear hw0
  go_wp2_with fail
  (with_reducible refine (NO.out).mono ?_)
  rintro e1 w1 ⟨⟨V, E4, rfl, hV, hN, hD⟩, q1⟩
  have C1 := hide (heap_below B1.out q1)
  have Q1 := hide (below_next Q0.out Q0.out.size q1)
  have HE4 := hide (show E4 = 0 ∧ outB p = true ∨ E4 = 1 ∧ outB p = false from hD.imp (fun h => ⟨h.2.1, h.1⟩) (fun h => ⟨h.2.1, h.1⟩))
  clear q1 hV hN hD NO B1 Q0 c0 c1 c2 c3 c4 c5 c6 c7 c8 c9 d0 d1 d2 d3 d4 d5 d6 d7 d8 d9 d10 d11
  have q2 : Below w1.heap.size w1 (w1.alloc (.cells zOu.toArray 73)) := (Below.refl _ _).alloc (Nat.le_refl _) _
  have g2 := World.alloc_heap_new w1 (.cells zOu.toArray 73)
  have TH := hide (show (w1.alloc (.cells zOu.toArray 73)).there w1.heap.size 0 26 from there_heap (cs := zOu) g2)
  go_wp2_with (refine wpList_store_hid (by rfl) 73 (.tmp 3) (.tmp 25) (by rfl) w1.heap.size 0 V.cs (by rfl) (by rfl) (by exact TH.out) (by kernel_rfl) (by simp [Value.oneCell', Ou.cs, Iv.v, Fv.v, Bv.v]) ?_)
  intro w2 e2
  have s2 : Below w1.heap.size w1 w2 := by rw [e2.out]; exact q2.trans (below_setCells (g := w1.heap.size) _ 0 _ (Nat.le_refl _))
  have D1 := hide (heap_below C1.out s2)
  have Q2 := hide (below_next Q1.out Q1.out.size s2)
  clear e2 TH g2 q2 s2 C1 Q1
  have RN2 := RN.out w2
  obtain ⟨NW, hNW⟩ : ∃ NW, NW = newWt p.limit p.limit := ⟨_, rfl⟩
  obtain ⟨NE, hNE⟩ : ∃ NE, NE = newWtE p.limit p.limit := ⟨_, rfl⟩
  rw [← hNW, ← hNE] at RN2
  replace RN2 := hide RN2
  have HNW := hide hNW
  have HNE := hide hNE
  clear hNW hNE RN
  obtain ⟨⟨c0, c1, c2, c3, c4, c5, c6, c7, c8, c9⟩, d0, d1, d2, d3, d4, d5, d6, d7, d8, d9, d10, d11⟩ := pd_cells D1.out
  go_wp2_with fail
  (with_reducible refine (RN2.out).mono ?_)
  rintro e3 w3 ⟨rfl, q3⟩
  have E1 := hide (heap_below D1.out q3)
  have Q3 := hide (below_next Q2.out Q2.out.size q3)
  clear q3 D1 Q2 RN2 c0 c1 c2 c3 c4 c5 c6 c7 c8 c9 d0 d1 d2 d3 d4 d5 d6 d7 d8 d9 d10 d11
  have q4 : Below w3.heap.size w3 (w3.alloc (.cells #[.int .i64 0, .int .i64 0, .int .i64 0, .bool false, .bool false] 77)) := (Below.refl _ _).alloc (Nat.le_refl _) _
  have g4 := World.alloc_heap_new w3 (.cells #[.int .i64 0, .int .i64 0, .int .i64 0, .bool false, .bool false] 77)
  have TH := hide (show (w3.alloc (.cells #[.int .i64 0, .int .i64 0, .int .i64 0, .bool false, .bool false] 77)).there w3.heap.size 0 5 from there_heap (cs := [_, _, _, _, _]) g4)
  go_wp2_with (refine wpList_store_hid (by rfl) 77 (.tmp 5) (.tmp 33) (by rfl) w3.heap.size 0 (wtcL NW) (by rfl) (by rfl) (by exact TH.out) (by kernel_rfl) (by simp [Value.oneCell', wtcL]) ?_)
  intro w4 e4
  have s4 : Below w3.heap.size w3 w4 := by rw [e4.out]; exact q4.trans (below_setCells (g := w3.heap.size) _ 0 _ (Nat.le_refl _))
  have G4 := hide (show w4.heap[w3.heap.size]? = some (.cells (wtcL NW).toArray 77 (0, 0)) by rw [e4.out]; exact whole_heap (wtcL NW) (xs := [_, _, _, _, _]) g4 rfl)
  have F1 := hide (heap_below E1.out s4)
  have Q4 := hide (below_next Q3.out Q3.out.size s4)
  clear e4 g4 TH q4 s4 E1 Q3
  generalize w3.heap.size = gb at *
  have o2 := HO.out.next Q4.out
  have NI := newIn_any p.ly p.fl p.S p.subs NW w4 o2.ly o2.fl o2.S o2.subs
  unfold Lv.cs wtcL Iv.v Fv.v at NI
  replace NI := hide NI
  clear o2
  obtain ⟨⟨c0, c1, c2, c3, c4, c5, c6, c7, c8, c9⟩, d0, d1, d2, d3, d4, d5, d6, d7, d8, d9, d10, d11⟩ := pd_cells F1.out
  obtain ⟨k0, k1, k2, k3, k4⟩ := wt_cells G4.out
  go_wp2_with fail
  (with_reducible refine (NI.out).mono ?_)
  rintro e5 w5 ⟨⟨U, E6, rfl, hV, hN, hD⟩, q5⟩
  have Q5 := hide (below_next Q4.out Q4.out.size q5)
  have HE6 := hide (show E6 = 0 ∧ newInB p.ly p.fl p.S.l p.subs.l NW = true ∨ E6 = 1 ∧ newInB p.ly p.fl p.S.l p.subs.l NW = false from hD.imp (fun h => ⟨h.2.1, h.1⟩) (fun h => ⟨h.2.1, h.1⟩))
  clear q5 hV hN hD NI G4 F1 Q4 c0 c1 c2 c3 c4 c5 c6 c7 c8 c9 d0 d1 d2 d3 d4 d5 d6 d7 d8 d9 d10 d11 k0 k1 k2 k3 k4
  have q6 : Below w5.heap.size w5 (w5.alloc (.cells zIn.toArray 79)) := (Below.refl _ _).alloc (Nat.le_refl _) _
  have g6 := World.alloc_heap_new w5 (.cells zIn.toArray 79)
  have TH := hide (show (w5.alloc (.cells zIn.toArray 79)).there w5.heap.size 0 13 from there_heap (cs := zIn) g6)
  go_wp2_with (refine wpList_store_hid (by rfl) 79 (.tmp 7) (.tmp 46) (by rfl) w5.heap.size 0 U.cs (by rfl) (by rfl) (by exact TH.out) (by kernel_rfl) (by simp [Value.oneCell', Inn.cs, Iv.v, Fv.v]) ?_)
  intro w7 e7
  have Q7 := hide (show Below w.heap.size w w7 from below_next Q5.out Q5.out.size (by rw [e7.out]; exact q6.trans (below_setCells (g := w5.heap.size) _ 0 _ (Nat.le_refl _))))
  clear e7 TH g6 q6 Q5
  have HNB := hide (show (NE = 0 ∧ NW = wtOf p ∧ wtB (wtOf p) = true) ∨ (NE = 1 ∧ wtB (wtOf p) = false) from by
    rcases hb : wtB (wtOf p) with _ | _
    · exact .inr ⟨by rw [HNE.out]; unfold newWtE; rw [show wtB ⟨p.limit, p.limit, 0, false, false⟩ = false from hb]; simp, rfl⟩
    · exact .inl ⟨by rw [HNE.out]; unfold newWtE; rw [show wtB ⟨p.limit, p.limit, 0, false, false⟩ = true from hb]; simp, by rw [HNW.out]; unfold newWt; rw [show wtB ⟨p.limit, p.limit, 0, false, false⟩ = true from hb]; simp [wtOf], rfl⟩)
  clear HNW HNE
  rcases HNB.out with ⟨rfl, rfl, hw⟩ | ⟨rfl, hw⟩
  · rcases HE4.out with ⟨rfl, ho⟩ | ⟨rfl, ho⟩ <;> rcases HE6.out with ⟨rfl, hi⟩ | ⟨rfl, hi⟩
    all_goals have E := hide (show r = (_ && (_ && _)) from HR.out.trans (by rw [ho]; unfold inB; rw [hw, hi]))
    all_goals clear HR HE4 HE6 HNB ho hi hw
    all_goals go_wp2_with fail
    all_goals go_ret
    all_goals exact ⟨by rw [E.out]; rfl, Q7.out⟩
  · rcases HE4.out with ⟨rfl, ho⟩ | ⟨rfl, ho⟩
    all_goals have E := hide (show r = (_ && (_ && _)) from HR.out.trans (by rw [ho]; unfold inB; rw [hw]))
    all_goals clear HR HE4 HE6 HNB ho hw
    all_goals go_wp2_with fail
    all_goals go_ret
    all_goals exact ⟨by rw [E.out]; rfl, Q7.out⟩
end Go.Proofs.Ytplpnnjjjfcibaa

/- Loads of rows that are guarded, in a plain region. Nothing of the program's text. -/
namespace Go.Proofs.Ytplpnnjjjfcibaa
open Go.ChangeShapes Go.WideShapes Go.ChangeAt Go.RowKit

theorem wpList_load_rowG {P : Program} {ops : Array Oper} {rest : List Oper} {o : Oper} {a : Act} {w : World} {Q : Exit → Act → World → Prop} (hw : Region.wanted o (yielded ops a.tmps) = true) (ty : TypeId) (x : Operand) (ho : o.op = .load ty x)
    (g : Nat) (hx : a.eval x = .pointer (some ⟨g, 0, none⟩)) (t : TypeId) (cs : Array Value) (fr : Nat × Nat) (d : TypeDesc) (hg : w.heap[g]? = some (.cells cs t fr))
    (hu : P.underlying ty = some d) (hd : (match d with | .struct _ | .array _ _ => true | _ => false) = true) (hi : (P.info? ty).map (·.size) = some cs.size)
    (h : wpList P ops Q rest (a.put o.dst (.agg cs)) w) : wpList P ops Q (o :: rest) a w :=
  wpList_step fun K hK => by
    rw [if_pos hw]
    exact wp_load_row ty x ho g hx t cs fr d hg hu hd hi (hK _ _ h)
theorem wpList_load_midG {P : Program} {ops : Array Oper} {rest : List Oper} {op : Oper} {a : Act} {w : World} {Q : Exit → Act → World → Prop} (hw : Region.wanted op (yielded ops a.tmps) = true) (ty : TypeId) (x : Operand) (ho : op.op = .load ty x)
    (b o : Nat) (hx : a.eval x = .pointer (some ⟨b, o, none⟩)) (cs : List Value) (d : TypeDesc) (hc : w.rangeAt b o cs)
    (hu : P.underlying ty = some d) (hd : d.isRow = true) (hi : (P.info? ty).map (·.size) = some cs.length)
    (h : wpList P ops Q rest (a.put op.dst (.agg cs.toArray)) w) : wpList P ops Q (op :: rest) a w :=
  wpList_step fun K hK => by
    rw [if_pos hw]
    exact wp_load_mid ty x ho b o hx cs d hc hu hd hi (hK _ _ h)
end Go.Proofs.Ytplpnnjjjfcibaa

/- The walk of campanilelaw21.wrong. -/
namespace Go.Proofs.Ytplpnnjjjfcibaa
open Go.ChangeShapes Go.WideShapes Go.ChangeAt Go.RowKit
open CM PD SG

def WrongV (c : Cf) (v : Int) : Prop :=
  (fastB c = false ∧ v = -2) ∨ (fastB c = true ∧ ∃ k : Nat, k < c.l.length ∧ (∀ j, j < k → okAt c j = true) ∧ okAt c k = false ∧ v = k) ∨ (fastB c = true ∧ (∀ k, k < c.l.length → okAt c k = true) ∧ v = -1)
theorem okAt_place {c : Cf} {k : Nat} (h : k < c.l.length) : okAt c k = (placeB c c.l[k] (seen c.l k c.l[k].id).isSome && (outB c.l[k] && inB c.l[k])) := by rw [okAt_eq h, mayB_place]

set_option maxRecDepth 100000 in
set_option maxHeartbeats 16000000 in
theorem wrong_any (c : Cf) (w : World) (ho : c.Ok w) : Calls Try.prog 24 #[.agg c.cs.toArray] w fun e w' => (∃ v, e = .returned (.int .i64 v) ∧ WrongV c v) ∧ Below w.heap.size w w' := by
  obtain ⟨w0, hw0⟩ : ∃ w0, w0 = w.alloc (.cells c.cs.toArray 52) := ⟨_, rfl⟩
  have B0 := hide (World.alloc_heap_new w (.cells c.cs.toArray 52))
  have Q0 : Hid (Below w.heap.size w w0) := by rw [hw0]; exact hide ((Below.refl _ _).alloc (Nat.le_refl _) _)
  rw [← hw0] at B0
  have RT := hide (refFast21_any c w0 (ho.next Q0.out))
  have HO := hide ho
  have hl := ho.n
  clear ho
  go_enter Try.func24, Try.ntmps24
  go_upto_region 1 with fail
  change Code.wp _ _ _ _ (w.alloc (.cells c.cs.toArray 52))
  rw [← hw0]
  clear hw0
  go_wp2_with (refine wpList_load_row rfl 52 (.tmp 1) (by rfl) w.heap.size (by rfl) 52 c.cs.toArray (0, 0) _ (by exact B0.out) Try.underlying52 (by rfl) (by kernel_rfl) ?_)
  (with_reducible refine (RT.out).mono ?_)
  rintro e1 w1 ⟨rfl, q1⟩
  have B1 := hide (heap_below B0.out q1)
  have Q1 := hide (below_next Q0.out Q0.out.size q1)
  clear q1 B0 Q0 RT
  rcases hb : fastB c with _ | _
  · have HV := hide (show WrongV c (-2) from .inl ⟨hb, rfl⟩)
    clear hb
    go_wp2_with fail
    go_ret
    exact ⟨⟨_, rfl, HV.out⟩, Q1.out⟩
  have HF := hide hb
  have PL := hide (fun (W : World) (q : Below w.heap.size w W) (k : Nat) (hk : k < c.l.length) => refPlace_any c k hk W (HO.out.next q) hb)
  clear hb
  obtain ⟨c0, c1, c2, c3, c4, c5, c6, c7⟩ := cf_cells B1.out
  clear c0 c2 c3 c4 c5 c6 c7
  go_wp2_with fail
  clear c1
  go_loopw [11] (fun vi W => ∃ k : Nat, k ≤ c.l.length ∧ vi = .int .i64 k ∧ Hid (∀ j, j < k → okAt c j = true) ∧ Hid (W.heap[w.heap.size]? = some (.cells c.cs.toArray 52 (0, 0))) ∧ Hid (Below w.heap.size w W)) (fun vi _ => c.l.length - (intOf vi).toNat)
  case atStart => exact ⟨0, Nat.zero_le _, rfl, hide (fun j h => absurd h (Nat.not_lt_zero _)), B1, Q1⟩
  case round =>
    obtain ⟨k, hk, rfl, hA, hB, hQ⟩ := hrel
    clear B1 Q1
    by_cases hkl : k < c.l.length
    · have hki : (k : Int) < (c.l.length : Int) := by omega
      obtain ⟨pb, po, hca, hpb, hrg⟩ := PdR.at_ (HO.out.next hQ.out).r hkl
      have RG := hide hrg
      have HPO := hide ((HO.out.next hQ.out).p c.l[k] (List.getElem_mem hkl))
      have PK := hide (fun (W : World) (q : Below w.heap.size w W) => PL.out W q k hkl)
      have HE := hide (okAt_place hkl)
      clear hrg
      generalize c.l[k] = p at *
      rw [hca]
      have q2 : Below wr.heap.size wr (wr.alloc (.cells zPd.cs.toArray 67)) := (Below.refl _ _).alloc (Nat.le_refl _) _
      have g2 := World.alloc_heap_new wr (.cells zPd.cs.toArray 67)
      have TH := hide (show (wr.alloc (.cells zPd.cs.toArray 67)).there wr.heap.size 0 22 from there_heap (cs := zPd.cs) g2)
      go_wp2_with (first | (refine wpList_load_mid rfl 67 (.tmp 14) (by rfl) pb (po + k * 22) (by rfl) p.cs _ (by exact RG.out) Try.underlying67 (by rfl) (by kernel_rfl) ?_) | (refine wpList_store_hid (by rfl) 67 (.tmp 4) (.tmp 15) (by rfl) wr.heap.size 0 p.cs (by rfl) (by rfl) (by exact TH.out) (by kernel_rfl) (by simp [Value.oneCell', Pd.cs, Iv.v, Fv.v]) ?_))
      intro w2 e2
      have s2 : Below wr.heap.size wr w2 := by rw [e2.out]; exact q2.trans (below_setCells (g := wr.heap.size) _ 0 _ (Nat.le_refl _))
      have P2 := hide (show w2.heap[wr.heap.size]? = some (.cells p.cs.toArray 67 (0, 0)) by rw [e2.out]; exact whole_heap p.cs (xs := zPd.cs) g2 rfl)
      have B2 := hide (heap_below hB.out s2)
      have Q2 := hide (below_next hQ.out hQ.out.size s2)
      have HP2 := hide (HPO.out.next s2)
      have P := hide (PK.out w2 Q2.out)
      clear e2 TH g2 q2 s2 hB RG HPO PK
      generalize wr.heap.size = pbx at *
      generalize placeB c p (seen c.l k p.id).isSome = pl at *
      go_wp2_with (first | (refine wpList_load_row rfl 52 (.tmp 1) (by rfl) w.heap.size (by rfl) 52 c.cs.toArray (0, 0) _ (by exact B2.out) Try.underlying52 (by rfl) (by kernel_rfl) ?_))
      (with_reducible refine (P.out).mono ?_)
      rintro e3 w3 ⟨rfl, q3⟩
      have P3 := hide (heap_below P2.out q3)
      have B3 := hide (heap_below B2.out q3)
      have Q3 := hide (below_next Q2.out Q2.out.size q3)
      have HP3 := hide (HP2.out.next q3)
      clear q3 P2 B2 Q2 P HP2
      rcases pl with _ | _
      · have HV := hide (show WrongV c k from .inr (.inl ⟨HF.out, k, hkl, hA.out, HE.out, rfl⟩))
        go_wp2_with fail
        go_ret
        exact ⟨⟨_, rfl, HV.out⟩, Q3.out⟩
      have EN := ends21_any p w3 HP3.out
      replace EN := hide EN
      have HE2 := hide (HE.out.trans (Bool.true_and _))
      clear HE
      generalize (outB p && inB p) = en at *
      go_wp2_with (refine wpList_load_rowG (by kernel_rfl) 67 (.tmp 4) (by rfl) pbx (by rfl) 67 p.cs.toArray (0, 0) _ (by exact P3.out) Try.underlying67 (by rfl) (by kernel_rfl) ?_)
      (with_reducible refine (EN.out).mono ?_)
      rintro e4 w4 ⟨rfl, q4⟩
      have B4 := hide (heap_below B3.out q4)
      have Q4 := hide (below_next Q3.out Q3.out.size q4)
      clear q4 P3 B3 Q3 EN HP3
      rcases en with _ | _
      · have HV := hide (show WrongV c k from .inr (.inl ⟨HF.out, k, hkl, hA.out, HE2.out, rfl⟩))
        go_wp2_with fail
        go_ret
        exact ⟨⟨_, rfl, HV.out⟩, Q4.out⟩
      have HA2 := hide (show ∀ j, j < k + 1 → okAt c j = true from fun j hj => by
          rcases Nat.lt_or_ge j k with h | h
          · exact hA.out j h
          · rw [show j = k by omega]; exact HE2.out)
      go_wp2_with fail
      go_roundw
      case rel => exact ⟨k + 1, by omega, by go_num, HA2, B4, Q4⟩
      case measure => simp [intOf]; omega
    · obtain rfl : k = c.l.length := by omega
      have HV := hide (show WrongV c (-1) from .inr (.inr ⟨HF.out, hA.out, rfl⟩))
      go_wp2_with fail
      go_ret
      exact ⟨⟨_, rfl, HV.out⟩, hQ.out⟩
end Go.Proofs.Ytplpnnjjjfcibaa
