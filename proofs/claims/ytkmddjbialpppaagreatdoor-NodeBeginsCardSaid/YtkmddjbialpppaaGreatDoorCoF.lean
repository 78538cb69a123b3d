import Derived.Test.YtkmddjbialpppaaGreatDoorMgCoA
namespace Go.Proofs.YtkmddjbialpppaaGreatDoor
open Go.ChangeShapes Go.WideShapes Go.ChangeAt Go.RowKit
open CM PD SG
def outB (p : Pd) : Bool := fX p.ly p.fl p.S.l p.yes p.no p.delay
def iW (c : Cf) (p : Pd) (known : Bool) : Bool := cK p.frm 0 (c.nodes - 1) && (decide (1 ≤ p.dst) && ((p.dst / 2 ^ c.nodes.toNat == 0) && ((p.dst / 2 ^ p.frm.toNat % 2 == 0) && (decide (p.id < 2048) && (!(decide (c.base ≤ p.id) && decide (p.id < c.base + c.nodes)) && (cK p.limit 0 1000000 && (!known && (!(p.fl.l.any fun f => f.count != 0) && (outB p && inB p)))))))))
set_option maxRecDepth 100000 in
set_option maxHeartbeats 16000000 in
theorem confMay_any (c : Cf) (p : Pd) (b n : Nat) (s : Int → Option Int) (w : World) (ho : c.Ok w) (hp : p.Ok w) (hm : MId w b n s) (hn : 2 ≤ c.nodes ∧ c.nodes ≤ 4) (hb : c.base ≤ 2048 - c.nodes) :
    Calls Tryz.prog 130 #[.agg c.cs.toArray, .agg p.cs.toArray, .map (some b)] w fun e w' => e = .returned (.bool (iW c p (s p.id).isSome)) ∧ Below w.heap.size w w' := by
  obtain ⟨r, hr⟩ : ∃ r, r = iW c p (s p.id).isSome := ⟨_, rfl⟩
  rw [← hr]
  unfold iW at hr
  have HR := aA hr
  clear hr
  have WI := aA dR
  obtain ⟨w0, hw0⟩ : ∃ w0, w0 = (w.alloc (.cells c.cs.toArray 25)).alloc (.cells p.cs.toArray 79) := ⟨_, rfl⟩
  have step : ∀ (W : World) (o : Obj), Below W.heap.size W (W.alloc o) := fun W o => (Below.refl _ _).alloc (Nat.le_refl _) _
  have B1 := aA (aB (World.alloc_heap_new w (.cells c.cs.toArray 25)) (step _ (.cells p.cs.toArray 79)))
  have B2 := aA (World.alloc_heap_new (w.alloc (.cells c.cs.toArray 25)) (.cells p.cs.toArray 79))
  have Q0 : Hid (Below w.heap.size w w0) := by rw [hw0]; exact aA ((step _ _).alloc (by simp) _)
  rw [← hw0] at B1 B2
  simp only [World.size_alloc] at B2
  have HP := aA hp
  have M0 := aA (hm.below Q0.out)
  have hid := hp.id
  have hbase := ho.base
  have hdst := hp.dst
  have hflim := hp.frm
  obtain ⟨hn2, hn4⟩ := hn
  clear step hm hp ho
  obtain ⟨c0, c1, c2, c3, c4, c5, c6, c7⟩ := bL B1.out
  obtain ⟨⟨p0, p1, p2, p3, p4, p5, p6, p7, p8, p9⟩, d0, d1, d2, d3, d4, d5, d6, d7, d8, d9, d10, d11⟩ := dQ B2.out
  clear c1 c3 c4 c5 c6 c7 p3 p4 p5 p6 p7 p8 d0 d1 d2 d3 d4 d5 d6 d7 d8 d9 d10
  unfold lim at hdst hflim
  go_enter Tryz.func130, Tryz.ntmps130
  go_upto_region 1 with fail
  change Code.wp _ _ _ _ ((w.alloc (.cells c.cs.toArray 25)).alloc (.cells p.cs.toArray 79))
  rw [← hw0]
  clear hw0
  go_wp2_with fail
  (with_reducible refine (WI.out _ _ _ _).mono ?_)
  rintro e1 w1 ⟨rfl, rfl⟩
  rcases h1 : cK p.frm 0 (c.nodes - 1) with _ | _
  · have E := aA (show r = false by rw [HR.out, h1]; rfl)
    clear HR WI h1
    go_wp2_with fail
    go_ret
    exact ⟨by rw [E.out]; rfl, Q0.out⟩
  obtain ⟨hf0, hf1⟩ := b8 h1
  replace HR := aA (show _ from HR.out.trans (by rw [h1, Bool.true_and]))
  clear h1
  by_cases g0 : 1 ≤ p.dst
  case neg =>
    have E := aA (show r = false by rw [HR.out, show decide (1 ≤ p.dst) = false from by simp [g0]]; rfl)
    have n0 : (decide (p.dst < 1) = true) := by simp only [b4, decide_eq_true_eq, decide_eq_false_iff_not, bne_iff_ne, beq_iff_eq, bne_eq_false_iff_eq, beq_eq_false_iff_ne, ne_eq]; omega
    clear HR WI g0
    go_wp2_with fail
    go_ret
    exact ⟨by rw [E.out]; rfl, Q0.out⟩
  replace HR := aA (show _ from HR.out.trans (by rw [show decide (1 ≤ p.dst) = true from by simp [g0], Bool.true_and]))
  have f00 : (decide (p.dst < 1) = false) := by simp only [b4, decide_eq_true_eq, decide_eq_false_iff_not, bne_iff_ne, beq_iff_eq, bne_eq_false_iff_eq, beq_eq_false_iff_ne, ne_eq]; omega
  have G0 := aA g0
  clear g0
  by_cases g1 : p.dst / 2 ^ c.nodes.toNat = 0
  case neg =>
    have E := aA (show r = false by rw [HR.out, show (p.dst / 2 ^ c.nodes.toNat == 0) = false from by simp [g1]]; rfl)
    have n0 : ((p.dst / 2 ^ c.nodes.toNat != 0) = true) := by simp only [b4, decide_eq_true_eq, decide_eq_false_iff_not, bne_iff_ne, beq_iff_eq, bne_eq_false_iff_eq, beq_eq_false_iff_ne, ne_eq]; omega
    have n1 : ((p.dst / 2 ^ c.nodes.toNat == 0) = false) := by simp only [b4, decide_eq_true_eq, decide_eq_false_iff_not, bne_iff_ne, beq_iff_eq, bne_eq_false_iff_eq, beq_eq_false_iff_ne, ne_eq]; omega
    clear HR WI g1
    go_wp2_with fail
    go_ret
    exact ⟨by rw [E.out]; rfl, Q0.out⟩
  replace HR := aA (show _ from HR.out.trans (by rw [show (p.dst / 2 ^ c.nodes.toNat == 0) = true from by simp [g1], Bool.true_and]))
  have f10 : ((p.dst / 2 ^ c.nodes.toNat != 0) = false) := by simp only [b4, decide_eq_true_eq, decide_eq_false_iff_not, bne_iff_ne, beq_iff_eq, bne_eq_false_iff_eq, beq_eq_false_iff_ne, ne_eq]; omega
  have f11 : ((p.dst / 2 ^ c.nodes.toNat == 0) = true) := by simp only [b4, decide_eq_true_eq, decide_eq_false_iff_not, bne_iff_ne, beq_iff_eq, bne_eq_false_iff_eq, beq_eq_false_iff_ne, ne_eq]; omega
  have G1 := aA g1
  clear g1
  by_cases g2 : p.dst / 2 ^ p.frm.toNat % 2 = 0
  case neg =>
    have E := aA (show r = false by rw [HR.out, show (p.dst / 2 ^ p.frm.toNat % 2 == 0) = false from by simp [g2]]; rfl)
    have n0 : ((bits .and .i64 (p.dst / 2 ^ p.frm.toNat) 1 != 0) = true) := by simp only [b4, decide_eq_true_eq, decide_eq_false_iff_not, bne_iff_ne, beq_iff_eq, bne_eq_false_iff_eq, beq_eq_false_iff_ne, ne_eq]; omega
    have n1 : ((bits .and .i64 (p.dst / 2 ^ p.frm.toNat) 1 == 0) = false) := by simp only [b4, decide_eq_true_eq, decide_eq_false_iff_not, bne_iff_ne, beq_iff_eq, bne_eq_false_iff_eq, beq_eq_false_iff_ne, ne_eq]; omega
    clear HR WI g2
    go_wp2_with fail
    go_ret
    exact ⟨by rw [E.out]; rfl, Q0.out⟩
  replace HR := aA (show _ from HR.out.trans (by rw [show (p.dst / 2 ^ p.frm.toNat % 2 == 0) = true from by simp [g2], Bool.true_and]))
  have f20 : ((bits .and .i64 (p.dst / 2 ^ p.frm.toNat) 1 != 0) = false) := by simp only [b4, decide_eq_true_eq, decide_eq_false_iff_not, bne_iff_ne, beq_iff_eq, bne_eq_false_iff_eq, beq_eq_false_iff_ne, ne_eq]; omega
  have f21 : ((bits .and .i64 (p.dst / 2 ^ p.frm.toNat) 1 == 0) = true) := by simp only [b4, decide_eq_true_eq, decide_eq_false_iff_not, bne_iff_ne, beq_iff_eq, bne_eq_false_iff_eq, beq_eq_false_iff_ne, ne_eq]; omega
  have G2 := aA g2
  clear g2
  by_cases g3 : p.id < 2048
  case neg =>
    have E := aA (show r = false by rw [HR.out, show decide (p.id < 2048) = false from by simp [g3]]; rfl)
    have n0 : (decide (2048 ≤ p.id) = true) := by simp only [b4, decide_eq_true_eq, decide_eq_false_iff_not, bne_iff_ne, beq_iff_eq, bne_eq_false_iff_eq, beq_eq_false_iff_ne, ne_eq]; omega
    clear HR WI g3
    go_wp2_with fail
    go_ret
    exact ⟨by rw [E.out]; rfl, Q0.out⟩
  replace HR := aA (show _ from HR.out.trans (by rw [show decide (p.id < 2048) = true from by simp [g3], Bool.true_and]))
  have f30 : (decide (2048 ≤ p.id) = false) := by simp only [b4, decide_eq_true_eq, decide_eq_false_iff_not, bne_iff_ne, beq_iff_eq, bne_eq_false_iff_eq, beq_eq_false_iff_ne, ne_eq]; omega
  have G3 := aA g3
  clear g3
  by_cases g4 : c.base ≤ p.id ∧ p.id < c.base + c.nodes
  case pos =>
    have E := aA (show r = false by rw [HR.out, decide_eq_true g4.1, decide_eq_true g4.2]; rfl)
    have n0 : decide (c.base ≤ p.id) = true := decide_eq_true g4.1
    have n1 : decide (p.id < c.base + c.nodes) = true := decide_eq_true g4.2
    clear HR WI g4
    go_wp2_with fail
    go_ret
    exact ⟨by rw [E.out]; rfl, Q0.out⟩
  replace HR := aA (show _ from HR.out.trans (by rw [show (decide (c.base ≤ p.id) && decide (p.id < c.base + c.nodes)) = false from by rw [← Bool.decide_and]; exact decide_eq_false g4, Bool.not_false, Bool.true_and]))
  have f40 : (decide (c.base ≤ p.id) && decide (p.id < c.base + c.nodes)) = false := by rw [← Bool.decide_and]; exact decide_eq_false g4
  clear g4
  rcases ha : decide (c.base ≤ p.id) with _ | _
  · go_wp2_with fail
    (with_reducible refine (WI.out _ _ _ _).mono ?_)
    rintro e2 w2 ⟨rfl, rfl⟩
    rcases h5 : cK p.limit 0 1000000 with _ | _
    · have E := aA (show r = false by rw [HR.out, h5]; rfl)
      clear HR WI h5
      go_wp2_with fail
      go_ret
      exact ⟨by rw [E.out]; rfl, Q0.out⟩
    replace HR := aA (show _ from HR.out.trans (by rw [h5, Bool.true_and]))
    clear h5 WI
    have LG := M0.out.get p.id hid
    rcases hk : s p.id with _ | d
    case some =>
      rw [hk] at HR LG
      simp only [Option.getD_some, Option.isSome_some] at LG
      have E := aA (show r = false by rw [HR.out]; rfl)
      clear HR hk
      go_wp2_with fail
      go_ret
      exact ⟨by rw [E.out]; rfl, Q0.out⟩
    rw [hk] at HR LG
    simp only [Option.getD_none, Option.isSome_none] at LG
    replace HR := aA (show _ from HR.out.trans (by rw [Option.isSome_none, Bool.not_false, Bool.true_and]))
    clear hk M0
    have o1 := HP.out.next Q0.out
    have MF := aA (mayFl_any p.fl.l p.fl.a p.fl.c w2 o1.fl.r o1.fl.n)
    clear o1
    go_wp2_with fail
    (with_reducible refine (MF.out).mono ?_)
    rintro e3 w3 ⟨rfl, q3⟩
    have C2 := aA (aB B2.out q3)
    have Q3 := aA (aC Q0.out Q0.out.size q3)
    clear q3 B1 B2 Q0 MF LG c0 c2 p0 p1 p2 p9 d11
    rcases h7 : (p.fl.l.any fun f => f.count != 0) with _ | _
    case true =>
      have E := aA (show r = false by rw [HR.out, h7]; rfl)
      clear HR h7
      go_wp2_with fail
      go_ret
      exact ⟨by rw [E.out]; rfl, Q3.out⟩
    replace HR := aA (show _ from HR.out.trans (by rw [h7, Bool.not_false, Bool.true_and]))
    clear h7
    have CO := aA (i9 p w3 (HP.out.next Q3.out))
    go_wp2_with (refine wpList_load_row rfl 79 (.tmp 4) (by rfl) (w.heap.size + 1) (by rfl) 79 p.cs.toArray (0, 0) _ (by exact C2.out) Tryz.underlying79 (by rfl) (by kernel_rfl) ?_)
    (with_reducible refine (CO.out).mono ?_)
    rintro e4 w4 ⟨⟨V, E4, rfl, hV, hN, hD⟩, q4⟩
    have D2 := aA (aB C2.out q4)
    have Q4 := aA (aC Q3.out Q3.out.size q4)
    have HE4 := aA (show E4 = 0 ∧ outB p = true ∨ E4 = 1 ∧ outB p = false from hD.imp (fun h => ⟨h.2.1, h.1⟩) (fun h => ⟨h.2.1, h.1⟩))
    clear q4 hV hN hD CO C2 Q3
    have q5 : Below w4.heap.size w4 (w4.alloc (.cells zOu.toArray 77)) := (Below.refl _ _).alloc (Nat.le_refl _) _
    have g5 := World.alloc_heap_new w4 (.cells zOu.toArray 77)
    have TH := aA (show (w4.alloc (.cells zOu.toArray 77)).there w4.heap.size 0 26 from aK (cs := zOu) g5)
    go_wp2_with (refine aF (by rfl) 77 (.tmp 9) (.tmp 87) (by rfl) w4.heap.size 0 V.cs (by rfl) (by rfl) (by exact TH.out) (by kernel_rfl) (by simp [Value.oneCell', Ou.cs, Iv.v, Fv.v, Bv.v]) ?_)
    intro w5 e5
    have s5 : Below w4.heap.size w4 w5 := by rw [e5.out]; exact q5.trans (aE (g := w4.heap.size) _ 0 _ (Nat.le_refl _))
    have E2 := aA (aB D2.out s5)
    have Q5 := aA (aC Q4.out Q4.out.size s5)
    clear e5 TH g5 q5 s5 D2 Q4
    have CI := aA (kA p w5 (HP.out.next Q5.out))
    go_wp2_with (refine wpList_load_row rfl 79 (.tmp 4) (by rfl) (w.heap.size + 1) (by rfl) 79 p.cs.toArray (0, 0) _ (by exact E2.out) Tryz.underlying79 (by rfl) (by kernel_rfl) ?_)
    (with_reducible refine (CI.out).mono ?_)
    rintro e6 w6 ⟨⟨U, E6, rfl, hV, hN, hD⟩, q6⟩
    have Q6 := aA (aC Q5.out Q5.out.size q6)
    have HE6 := aA (show E6 = 0 ∧ inB p = true ∨ E6 = 1 ∧ inB p = false from hD.imp (fun h => ⟨h.2.1, h.1⟩) (fun h => ⟨h.2.1, h.1⟩))
    clear q6 hV hN hD CI E2 Q5
    have q7 : Below w6.heap.size w6 (w6.alloc (.cells zIn.toArray 102)) := (Below.refl _ _).alloc (Nat.le_refl _) _
    have g7 := World.alloc_heap_new w6 (.cells zIn.toArray 102)
    have TH := aA (show (w6.alloc (.cells zIn.toArray 102)).there w6.heap.size 0 13 from aK (cs := zIn) g7)
    go_wp2_with (refine aF (by rfl) 102 (.tmp 11) (.tmp 92) (by rfl) w6.heap.size 0 U.cs (by rfl) (by rfl) (by exact TH.out) (by kernel_rfl) (by simp [Value.oneCell', Inn.cs, Iv.v, Fv.v]) ?_)
    intro w7 e7
    have s7 : Below w6.heap.size w6 w7 := by rw [e7.out]; exact q7.trans (aE (g := w6.heap.size) _ 0 _ (Nat.le_refl _))
    have Q7 := aA (aC Q6.out Q6.out.size s7)
    clear e7 TH g7 q7 s7 Q6
    rcases HE4.out with ⟨rfl, ho⟩ | ⟨rfl, ho⟩ <;> rcases HE6.out with ⟨rfl, hi⟩ | ⟨rfl, hi⟩
    all_goals have E := aA (show r = (_ && _) from HR.out.trans (by rw [ho, hi]))
    all_goals clear HR HE4 HE6 ho hi
    all_goals go_wp2_with fail
    all_goals go_ret
    all_goals exact ⟨by rw [E.out]; rfl, Q7.out⟩
  · have fb : decide (p.id < c.base + c.nodes) = false := by rw [ha, Bool.true_and] at f40; exact f40
    go_wp2_with fail
    (with_reducible refine (WI.out _ _ _ _).mono ?_)
    rintro e2 w2 ⟨rfl, rfl⟩
    rcases h5 : cK p.limit 0 1000000 with _ | _
    · have E := aA (show r = false by rw [HR.out, h5]; rfl)
      clear HR WI h5
      go_wp2_with fail
      go_ret
      exact ⟨by rw [E.out]; rfl, Q0.out⟩
    replace HR := aA (show _ from HR.out.trans (by rw [h5, Bool.true_and]))
    clear h5 WI
    have LG := M0.out.get p.id hid
    rcases hk : s p.id with _ | d
    case some =>
      rw [hk] at HR LG
      simp only [Option.getD_some, Option.isSome_some] at LG
      have E := aA (show r = false by rw [HR.out]; rfl)
      clear HR hk
      go_wp2_with fail
      go_ret
      exact ⟨by rw [E.out]; rfl, Q0.out⟩
    rw [hk] at HR LG
    simp only [Option.getD_none, Option.isSome_none] at LG
    replace HR := aA (show _ from HR.out.trans (by rw [Option.isSome_none, Bool.not_false, Bool.true_and]))
    clear hk M0
    have o1 := HP.out.next Q0.out
    have MF := aA (mayFl_any p.fl.l p.fl.a p.fl.c w2 o1.fl.r o1.fl.n)
    clear o1
    go_wp2_with fail
    (with_reducible refine (MF.out).mono ?_)
    rintro e3 w3 ⟨rfl, q3⟩
    have C2 := aA (aB B2.out q3)
    have Q3 := aA (aC Q0.out Q0.out.size q3)
    clear q3 B1 B2 Q0 MF LG c0 c2 p0 p1 p2 p9 d11
    rcases h7 : (p.fl.l.any fun f => f.count != 0) with _ | _
    case true =>
      have E := aA (show r = false by rw [HR.out, h7]; rfl)
      clear HR h7
      go_wp2_with fail
      go_ret
      exact ⟨by rw [E.out]; rfl, Q3.out⟩
    replace HR := aA (show _ from HR.out.trans (by rw [h7, Bool.not_false, Bool.true_and]))
    clear h7
    have CO := aA (i9 p w3 (HP.out.next Q3.out))
    go_wp2_with (refine wpList_load_row rfl 79 (.tmp 4) (by rfl) (w.heap.size + 1) (by rfl) 79 p.cs.toArray (0, 0) _ (by exact C2.out) Tryz.underlying79 (by rfl) (by kernel_rfl) ?_)
    (with_reducible refine (CO.out).mono ?_)
    rintro e4 w4 ⟨⟨V, E4, rfl, hV, hN, hD⟩, q4⟩
    have D2 := aA (aB C2.out q4)
    have Q4 := aA (aC Q3.out Q3.out.size q4)
    have HE4 := aA (show E4 = 0 ∧ outB p = true ∨ E4 = 1 ∧ outB p = false from hD.imp (fun h => ⟨h.2.1, h.1⟩) (fun h => ⟨h.2.1, h.1⟩))
    clear q4 hV hN hD CO C2 Q3
    have q5 : Below w4.heap.size w4 (w4.alloc (.cells zOu.toArray 77)) := (Below.refl _ _).alloc (Nat.le_refl _) _
    have g5 := World.alloc_heap_new w4 (.cells zOu.toArray 77)
    have TH := aA (show (w4.alloc (.cells zOu.toArray 77)).there w4.heap.size 0 26 from aK (cs := zOu) g5)
    go_wp2_with (refine aF (by rfl) 77 (.tmp 9) (.tmp 87) (by rfl) w4.heap.size 0 V.cs (by rfl) (by rfl) (by exact TH.out) (by kernel_rfl) (by simp [Value.oneCell', Ou.cs, Iv.v, Fv.v, Bv.v]) ?_)
    intro w5 e5
    have s5 : Below w4.heap.size w4 w5 := by rw [e5.out]; exact q5.trans (aE (g := w4.heap.size) _ 0 _ (Nat.le_refl _))
    have E2 := aA (aB D2.out s5)
    have Q5 := aA (aC Q4.out Q4.out.size s5)
    clear e5 TH g5 q5 s5 D2 Q4
    have CI := aA (kA p w5 (HP.out.next Q5.out))
    go_wp2_with (refine wpList_load_row rfl 79 (.tmp 4) (by rfl) (w.heap.size + 1) (by rfl) 79 p.cs.toArray (0, 0) _ (by exact E2.out) Tryz.underlying79 (by rfl) (by kernel_rfl) ?_)
    (with_reducible refine (CI.out).mono ?_)
    rintro e6 w6 ⟨⟨U, E6, rfl, hV, hN, hD⟩, q6⟩
    have Q6 := aA (aC Q5.out Q5.out.size q6)
    have HE6 := aA (show E6 = 0 ∧ inB p = true ∨ E6 = 1 ∧ inB p = false from hD.imp (fun h => ⟨h.2.1, h.1⟩) (fun h => ⟨h.2.1, h.1⟩))
    clear q6 hV hN hD CI E2 Q5
    have q7 : Below w6.heap.size w6 (w6.alloc (.cells zIn.toArray 102)) := (Below.refl _ _).alloc (Nat.le_refl _) _
    have g7 := World.alloc_heap_new w6 (.cells zIn.toArray 102)
    have TH := aA (show (w6.alloc (.cells zIn.toArray 102)).there w6.heap.size 0 13 from aK (cs := zIn) g7)
    go_wp2_with (refine aF (by rfl) 102 (.tmp 11) (.tmp 92) (by rfl) w6.heap.size 0 U.cs (by rfl) (by rfl) (by exact TH.out) (by kernel_rfl) (by simp [Value.oneCell', Inn.cs, Iv.v, Fv.v]) ?_)
    intro w7 e7
    have s7 : Below w6.heap.size w6 w7 := by rw [e7.out]; exact q7.trans (aE (g := w6.heap.size) _ 0 _ (Nat.le_refl _))
    have Q7 := aA (aC Q6.out Q6.out.size s7)
    clear e7 TH g7 q7 s7 Q6
    rcases HE4.out with ⟨rfl, ho⟩ | ⟨rfl, ho⟩ <;> rcases HE6.out with ⟨rfl, hi⟩ | ⟨rfl, hi⟩
    all_goals have E := aA (show r = (_ && _) from HR.out.trans (by rw [ho, hi]))
    all_goals clear HR HE4 HE6 ho hi
    all_goals go_wp2_with fail
    all_goals go_ret
    all_goals exact ⟨by rw [E.out]; rfl, Q7.out⟩
end Go.Proofs.YtkmddjbialpppaaGreatDoor
