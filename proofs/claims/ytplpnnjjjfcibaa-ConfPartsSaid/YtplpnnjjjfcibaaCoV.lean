/- The walk of campanileref21.Place. -/
import Derived.Test.YtplpnnjjjfcibaaMgCoH
namespace Go.Proofs.Ytplpnnjjjfcibaa
open Go.ChangeShapes Go.WideShapes Go.ChangeAt Go.RowKit
open CM PD SG

/-- What the document asks of a Pdu's numbers, by its place. -/
def placeB (c : Cf) (p : Pd) (known : Bool) : Bool := inI p.frm 0 (c.nodes - 1) && (decide (1 ≤ p.dst) && ((p.dst / 2 ^ c.nodes.toNat == 0) && ((p.dst / 2 ^ p.frm.toNat % 2 == 0) && (decide (p.id < 2048) && (!(decide (c.base ≤ p.id) && decide (p.id < c.base + c.nodes)) && (inI p.limit 0 1000000 && (!known && !(p.fl.l.any fun f => f.count != 0))))))))
theorem mayB_place (c : Cf) (p : Pd) (k : Bool) : mayB c p k = (placeB c p k && (outB p && inB p)) := by
  unfold mayB placeB
  simp only [Bool.and_assoc]
def PlaceP (c : Cf) (k : Nat) (p : Pd) : Prop :=
    ((0 ≤ p.frm ∧ p.frm < c.nodes ∧ 1 ≤ p.dst ∧ p.dst ≤ 15 ∧ 0 ≤ p.limit ∧ p.limit ≤ 1000000 ∧ p.id ≤ 2047) ∧ p.dst / 2 ^ p.frm.toNat % 2 = 0) ∧ (∀ i : Nat, c.nodes ≤ i → i < 4 → p.dst / 2 ^ i % 2 = 0) ∧ ¬ (c.base ≤ p.id ∧ p.id < c.base + c.nodes) ∧ (∀ j, ∀ h : j < p.fl.l.length, p.fl.l[j].count = 0) ∧ ∀ j, ∀ h : j < c.l.length, j < k → c.l[j].id ≠ p.id
theorem placeB_iff {c : Cf} {k : Nat} (hk : k < c.l.length) (hn : 2 ≤ c.nodes ∧ c.nodes ≤ 4) {p : Pd} : placeB c p (seen c.l k p.id).isSome = true ↔ PlaceP c k p := by
  have hs : (seen c.l k p.id).isSome = false ↔ ∀ j, ∀ h : j < c.l.length, j < k → c.l[j].id ≠ p.id := by
    rw [← Bool.not_eq_true, seen_none p.id (Nat.le_of_lt hk)]
    constructor
    · intro h j hj hjk e; exact h ⟨j, hj, hjk, e⟩
    · rintro h ⟨j, hj, hjk, e⟩; exact h j hj hjk e
  have hf : (p.fl.l.any fun f => f.count != 0) = false ↔ ∀ j, ∀ h : j < p.fl.l.length, p.fl.l[j].count = 0 := by
    rw [List.any_eq_false]
    constructor
    · intro h j hj; simpa using h _ (List.getElem_mem hj)
    · intro h f hm
      obtain ⟨j, hj, rfl⟩ := List.getElem_of_mem hm
      simpa using h j hj
  obtain ⟨n, hn'⟩ : ∃ n : Nat, c.nodes = n := ⟨c.nodes.toNat, by omega⟩
  unfold placeB inI PlaceP
  simp only [Bool.and_eq_true, decide_eq_true_eq, beq_iff_eq, Bool.not_eq_true', hs, hf, Bool.and_eq_false_iff, decide_eq_false_iff_not]
  rw [hn', Int.toNat_natCast]
  constructor
  · rintro ⟨⟨a1, a2⟩, b, d, e, f, g, ⟨l1, l2⟩, s, t⟩
    obtain ⟨d1, d2⟩ := (bits_law (k := n) b (by omega) (by omega)).1 d
    exact ⟨⟨⟨a1, by omega, b, d1, l1, l2, by omega⟩, e⟩, fun i hi h4 => d2 i (by omega) h4, by omega, t, s⟩
  · rintro ⟨⟨⟨a1, a2, b, d1, l1, l2, g⟩, e⟩, d2, f, t, s⟩
    exact ⟨⟨a1, by omega⟩, b, (bits_law (k := n) b (by omega) (by omega)).2 ⟨d1, fun i hi h4 => d2 i (by omega) h4⟩, e, by omega, by omega, ⟨l1, l2⟩, s, t⟩

set_option maxRecDepth 100000 in
set_option maxHeartbeats 16000000 in
theorem refPlace_any (c : Cf) (k : Nat) (hk : k < c.l.length) (w : World) (ho : c.Ok w) (hf : fastB c = true) :
    Calls Try.prog 58 #[.agg c.cs.toArray, .int .i64 k] w fun e w' => e = .returned (.bool (placeB c c.l[k] (seen c.l k c.l[k].id).isSome)) ∧ Below w.heap.size w w' := by
  obtain ⟨p, hp⟩ : ∃ p, p = c.l[k] := ⟨_, rfl⟩
  obtain ⟨⟨hn2, hn4⟩, hbn⟩ := fastB_nodes hf
  obtain ⟨r, hr⟩ : ∃ r, r = placeB c p (seen c.l k p.id).isSome := ⟨_, rfl⟩
  rw [← hp, ← hr]
  have HR := hide (show r = true ↔ PlaceP c k p by rw [hr]; exact placeB_iff hk ⟨hn2, hn4⟩)
  clear hr
  have hpo := ho.p c.l[k] (List.getElem_mem hk)
  have hbase := ho.base
  have hl := ho.n
  rw [← hp] at hpo
  have RR := hide (ho.r)
  have HO := hide ho
  clear ho hf
  obtain ⟨pb, po, hca, hpb, hrg⟩ := PdR.at_ RR.out hk
  rw [← hp] at hrg
  have HPE := hide hp
  clear hp
  have HPO := hide hpo
  have hid := hpo.id
  have hdst := hpo.dst
  have hlim := hpo.limit
  have hfrm := hpo.frm
  unfold lim at hdst hlim hfrm
  clear hpo
  obtain ⟨w0, hw0⟩ : ∃ w0, w0 = w.alloc (.cells c.cs.toArray 52) := ⟨_, rfl⟩
  have B0 := hide (World.alloc_heap_new w (.cells c.cs.toArray 52))
  have Q0 : Hid (Below w.heap.size w w0) := by rw [hw0]; exact hide ((Below.refl _ _).alloc (Nat.le_refl _) _)
  rw [← hw0] at B0
  have z0 : w.heap.size < w0.heap.size := heap_lt B0.out
  have hrg0 : w0.rangeAt pb (po + k * 22) p.cs := fun j v hj => cellBelow Q0.out hpb (hrg j v hj)
  have RG := hide hrg0
  obtain ⟨c0, c1, c2, c3, c4, c5, c6, c7⟩ := cf_cells B0.out
  clear hrg hrg0 c0 c2 c3 c4 c5 c6 c7
  have hkl : (k : Int) < (c.l.length : Int) := by omega
  rw [hca] at c1
  have q2 : Below w0.heap.size w0 (w0.alloc (.cells zPd.cs.toArray 67)) := (Below.refl _ _).alloc (Nat.le_refl _) _
  have g2 := World.alloc_heap_new w0 (.cells zPd.cs.toArray 67)
  have TH := hide (show (w0.alloc (.cells zPd.cs.toArray 67)).there w0.heap.size 0 22 from there_heap (cs := zPd.cs) g2)
  go_enter Try.func58, Try.ntmps58
  go_upto_region 1 with fail
  change Code.wp _ _ _ _ (w.alloc (.cells c.cs.toArray 52))
  rw [← hw0]
  clear hw0
  go_wp2_with (first | (refine wpList_load_mid rfl 67 (.tmp 13) (by rfl) pb (po + k * 22) (by rfl) p.cs _ (by exact RG.out) Try.underlying67 (by rfl) (by kernel_rfl) ?_) | (refine wpList_store_hid (by rfl) 67 (.tmp 5) (.tmp 14) (by rfl) w0.heap.size 0 p.cs (by rfl) (by rfl) (by exact TH.out) (by kernel_rfl) (by simp [Value.oneCell', Pd.cs, Iv.v, Fv.v]) ?_))
  intro w2 e2
  have s2 : Below w0.heap.size w0 w2 := by rw [e2.out]; exact q2.trans (below_setCells (g := w0.heap.size) _ 0 _ (Nat.le_refl _))
  have P2 := hide (show w2.heap[w0.heap.size]? = some (.cells p.cs.toArray 67 (0, 0)) by rw [e2.out]; exact whole_heap p.cs (xs := zPd.cs) g2 rfl)
  have B2 := hide (heap_below B0.out s2)
  have Q2 := hide (below_next Q0.out Q0.out.size s2)
  have HP2 := hide (HPO.out.next (Q0.out.trans (s2.mono Q0.out.size)))
  clear e2 TH g2 q2 s2 B0 Q0 RG c1 HPO
  generalize w0.heap.size = pbx at *
  obtain ⟨c0, c1, c2, c3, c4, c5, c6, c7⟩ := cf_cells B2.out
  obtain ⟨⟨p0, p1, p2, p3, p4, p5, p6, p7, p8, p9⟩, d0, d1, d2, d3, d4, d5, d6, d7, d8, d9, d10, d11⟩ := pd_cells P2.out
  clear c3 c4 c5 c6 c7 p3 p4 p5 p6 p7 p8 d0 d1 d2 d3 d4 d5 d6 d7 d8 d9 d10
  by_cases gA : 0 ≤ p.frm ∧ p.frm < c.nodes ∧ 1 ≤ p.dst ∧ p.dst ≤ 15 ∧ 0 ≤ p.limit ∧ p.limit ≤ 1000000 ∧ p.id ≤ 2047
  case neg =>
    have E := hide (show r = false from Bool.eq_false_iff.2 fun h => gA (HR.out.1 h).1.1)
    clear HR
    go_wp2_with fail
    all_goals (first | (exfalso; omega) | skip)
    all_goals go_ret
    all_goals exact ⟨by rw [E.out]; rfl, Q2.out⟩
  obtain ⟨a1, a2, a3, a4, a5, a6, a7⟩ := gA
  have GA := hide (show 0 ≤ p.frm ∧ p.frm < c.nodes ∧ 1 ≤ p.dst ∧ p.dst ≤ 15 ∧ 0 ≤ p.limit ∧ p.limit ≤ 1000000 ∧ p.id ≤ 2047 from ⟨a1, a2, a3, a4, a5, a6, a7⟩)
  have BT := hide (show Calls Try.prog 66 #[.int .i64 p.dst, .int .i64 p.frm] w2 fun e w' => e = .returned (.bool (p.dst / 2 ^ p.frm.toNat % 2 == 1)) ∧ w' = w2 from by
    obtain ⟨f, hf⟩ := Int.eq_ofNat_of_zero_le a1
    rw [hf, Int.toNat_natCast]
    exact refBit21_any p.dst f w2 (by omega) (by omega) (by omega))
  have BL := hide (fun i : Nat => fun hi : i ≤ 1000 => refBit21_any p.dst i w2 (by omega) (by omega) hi)
  go_wp2_with fail
  (with_reducible refine (BT.out).mono ?_)
  rintro e3 w3 ⟨rfl, rfl⟩
  clear BT
  rcases hb0 : (p.dst / 2 ^ p.frm.toNat % 2 == 1) with _ | _
  case true =>
    have E := hide (show r = false from Bool.eq_false_iff.2 fun h => by
      have h1 := (HR.out.1 h).1.2
      have h2 : p.dst / 2 ^ p.frm.toNat % 2 = 1 := by simpa using hb0
      omega)
    clear HR hb0
    go_wp2_with fail
    go_ret
    exact ⟨by rw [E.out]; rfl, Q2.out⟩
  have G1 := hide (show p.dst / 2 ^ p.frm.toNat % 2 = 0 by
    have h2 : p.dst / 2 ^ p.frm.toNat % 2 ≠ 1 := by simpa using hb0
    omega)
  clear hb0
  go_wp2_with fail
  have BI0 := hide (show ∀ i : Nat, c.nodes ≤ i → (i : Int) < c.nodes → p.dst / 2 ^ i % 2 = 0 from fun i h1 h2 => by omega)
  go_loopw [6] (fun vi W => ∃ i : Nat, c.nodes ≤ i ∧ i ≤ 4 ∧ vi = .int .i64 i ∧ W = w3 ∧ Hid (∀ j : Nat, c.nodes ≤ j → j < i → p.dst / 2 ^ j % 2 = 0)) (fun vi _ => 4 - (intOf vi).toNat)
  case atStart => exact ⟨c.nodes.toNat, by omega, by omega, by rw [Int.toNat_of_nonneg (by omega)], rfl, hide fun j h1 h2 => BI0.out j h1 (by omega)⟩
  case round =>
    obtain ⟨i, hi0, hi4, rfl, hW, HBI⟩ := hrel
    obtain rfl := hW.symm
    clear hW
    clear BI0
    by_cases hlt : i < 4
    · have hki : (i : Int) < 4 := by omega
      have B := hide (BL.out i (by omega))
      go_wp2_with fail
      (with_reducible refine (B.out).mono ?_)
      rintro e4 w4 ⟨rfl, rfl⟩
      clear B
      rcases hb1 : (p.dst / 2 ^ i % 2 == 1) with _ | _
      case true =>
        have E := hide (show r = false from Bool.eq_false_iff.2 fun h => by
          have h1 := (HR.out.1 h).2.1 i hi0 hlt
          have h2 : p.dst / 2 ^ i % 2 = 1 := by simpa using hb1
          omega)
        clear HR hb1
        go_wp2_with fail
        go_ret
        exact ⟨by rw [E.out]; rfl, Q2.out⟩
      have HBJ := hide (show ∀ j : Nat, c.nodes ≤ j → j < i + 1 → p.dst / 2 ^ j % 2 = 0 from fun j h1 h2 => by
        rcases Nat.lt_or_ge j i with h | h
        · exact HBI.out j h1 h
        · obtain rfl : j = i := by omega
          have h3 : p.dst / 2 ^ j % 2 ≠ 1 := by simpa using hb1
          omega)
      clear hb1 HBI
      go_wp2_with fail
      go_roundw
      case rel => exact ⟨i + 1, by omega, by omega, by go_num, trivial, HBJ⟩
      case measure => simp [intOf]; omega
    have hi : i = 4 := by omega
    subst hi
    have GB := hide (show ∀ j : Nat, c.nodes ≤ j → j < 4 → p.dst / 2 ^ j % 2 = 0 from HBI.out)
    clear HBI BL
    by_cases gC : c.base ≤ p.id ∧ p.id < c.base + c.nodes
    case pos =>
      have E := hide (show r = false from Bool.eq_false_iff.2 fun h => (HR.out.1 h).2.2.1 gC)
      obtain ⟨gc1, gc2⟩ := gC
      clear HR
      go_wp2_with fail
      all_goals (first | (exfalso; omega) | skip)
      all_goals go_ret
      all_goals exact ⟨by rw [E.out]; rfl, Q2.out⟩
    have GC := hide gC
    go_upto_region 9 with fail
    go_cut [83] from 67 (fun v W => v = .bool false ∧ W = w3)
    case first =>
      by_cases hge : c.base ≤ p.id
      · have h2 : ¬ p.id < c.base + c.nodes := fun h => gC ⟨hge, h⟩
        go_wp2_with fail
        all_goals (first | (exfalso; omega) | skip)
        go_meet
        exact ⟨by simp, rfl⟩
      · go_wp2_with fail
        all_goals (first | (exfalso; omega) | skip)
        go_meet
        exact ⟨by simp, rfl⟩
    case rest =>
      obtain ⟨rfl, rfl⟩ := hcut
      clear gC
      have FR := hide (HP2.out.fl)
      have hfn := HP2.out.fl.n
      go_wp2_with fail
      go_loopw [87] (fun vi W => ∃ j : Nat, j ≤ p.fl.l.length ∧ vi = .int .i64 j ∧ Hid (∀ i, ∀ h : i < p.fl.l.length, i < j → p.fl.l[i].count = 0) ∧ Hid (Below wc.heap.size wc W)) (fun vi _ => p.fl.l.length - (intOf vi).toNat)
      case atStart => exact ⟨0, Nat.zero_le _, rfl, hide fun i h1 h2 => absurd h2 (Nat.not_lt_zero _), hide (Below.refl _ _)⟩
      case round =>
        obtain ⟨j, hj, rfl, HZ, hQ⟩ := hrel
        by_cases hlt : j < p.fl.l.length
        · have hji : (j : Int) < (p.fl.l.length : Int) := by omega
          obtain ⟨fb, fo, hfa, hfb, f0, f1, f2, f3, f4, f5, f6, f7, f8⟩ := FlR.at_ (Rd.below FR.out.r hQ.out) hlt
          rw [hfa]
          have HCJ := hide (show ∀ x, p.fl.l[j].count = x → (x = 0 → ∀ i, ∀ h : i < p.fl.l.length, i < j + 1 → p.fl.l[i].count = 0) ∧ (x ≠ 0 → r = false) from fun x hx => ⟨fun h0 i h1 h2 => by
            rcases Nat.lt_or_ge i j with h | h
            · exact HZ.out i h1 h
            · obtain rfl : i = j := by omega
              omega, fun h0 => Bool.eq_false_iff.2 fun h => h0 (hx ▸ (HR.out.1 h).2.2.2.1 j hlt)⟩)
          generalize p.fl.l[j] = f at *
          obtain ⟨x, hx⟩ : ∃ x, f.count = x := ⟨_, rfl⟩
          have HX := HCJ.out x hx
          rw [hx] at f8
          have HX1 := hide HX.1
          have HX2 := hide HX.2
          clear HCJ HX hx
          by_cases hx0 : x = 0
          · subst hx0
            have HZ2 := hide (HX1.out rfl)
            clear HX1 HX2
            go_wp2_with fail
            go_roundw
            case rel => exact ⟨j + 1, by omega, by go_num, HZ2, hide (hQ.out.alloc hQ.out.size _)⟩
            case measure => simp [intOf]; omega
          · have E := hide (HX2.out hx0)
            clear HX1 HX2 HR
            go_wp2_with fail
            go_ret
            refine ⟨by rw [E.out]; rfl, ?_⟩
            exact below_next Q2.out Q2.out.size (hQ.out.alloc hQ.out.size _)
        · have hjl : j = p.fl.l.length := by omega
          have HZ2 := hide (show ∀ i, ∀ h : i < p.fl.l.length, p.fl.l[i].count = 0 from fun i h => HZ.out i h (by omega))
          subst hjl
          clear HZ FR HP2
          have C1 := hide (heap_below B2.out hQ.out)
          have P3 := hide (heap_below P2.out hQ.out)
          have Q3 := hide (below_next Q2.out Q2.out.size hQ.out)
          have hpb3 : pb < wr.heap.size := Nat.lt_of_lt_of_le hpb Q3.out.size
          have hz3 : w.heap.size < wr.heap.size := heap_lt C1.out
          have hz4 : pbx < wr.heap.size := heap_lt P3.out
          clear c0 c1 c2 p0 p1 p2 p9 d11 B2 P2 Q2 hQ
          have ROW := hide (show ∀ j, ∀ h : j < c.l.length, wr.cell? ⟨pb, po + j * 22, none⟩ = some (.int .u32 c.l[j].id) from fun j h => by
            obtain ⟨pb', po', hca', hb', hr'⟩ := PdR.at_ RR.out h
            rw [hca] at hca'
            cases hca'
            exact cellBelow Q3.out hb' (hr' 0 _ rfl))
          obtain ⟨c0, c1, c2, c3, c4, c5, c6, c7⟩ := cf_cells C1.out
          obtain ⟨⟨p0, p1, p2, p3, p4, p5, p6, p7, p8, p9⟩, _⟩ := pd_cells P3.out
          clear c0 c2 c3 c4 c5 c6 c7 p1 p2 p3 p4 p5 p6 p7 p8 p9
          rw [hca] at c1
          generalize wr = w5 at *
          go_wp2_with fail
          go_loopw [9] (fun vi W => ∃ j : Nat, j ≤ k ∧ vi = .int .i64 j ∧ Hid (∀ i, ∀ h : i < c.l.length, i < j → c.l[i].id ≠ p.id) ∧ Hid (Below w5.heap.size w5 W)) (fun vi _ => k - (intOf vi).toNat)
          case atStart => exact ⟨0, Nat.zero_le _, rfl, hide fun i h1 h2 => absurd h2 (Nat.not_lt_zero _), hide (Below.refl _ _)⟩
          case round =>
            obtain ⟨j, hj, rfl, HI, hQ⟩ := hrel
            by_cases hlt : j < k
            · have hji : (j : Int) < (k : Int) := by omega
              have hjl : (j : Int) < (c.l.length : Int) := by omega
              have m0 := fun s : InW wr => s.cell (Nat.lt_of_lt_of_le hpb3 hQ.out.size) (cellBelow hQ.out hpb3 (ROW.out j (by omega)))
              have m1 := fun s : InW wr => s.cell (Nat.lt_of_lt_of_le hz3 hQ.out.size) (cellBelow hQ.out hz3 c1)
              have m2 := fun s : InW wr => s.cell (Nat.lt_of_lt_of_le hz4 hQ.out.size) (cellBelow hQ.out hz4 p0)
              have HIJ := hide (show ∀ x, c.l[j].id = x → (x ≠ p.id → ∀ i, ∀ h : i < c.l.length, i < j + 1 → c.l[i].id ≠ p.id) ∧ (x = p.id → r = false) from fun x hx => ⟨fun h0 i h1 h2 => by
                rcases Nat.lt_or_ge i j with h | h
                · exact HI.out i h1 h
                · obtain rfl : i = j := by omega
                  rw [hx]; exact h0, fun h0 => Bool.eq_false_iff.2 fun h => (HR.out.1 h).2.2.2.2 j (by omega) hlt (hx.trans h0)⟩)
              generalize c.l[j].id = x at *
              have HX1 := hide (HIJ.out x rfl).1
              have HX2 := hide (HIJ.out x rfl).2
              clear HIJ HI c1 p0
              go_wp2_with fail
              refine wp_region_tame (by kernel_rfl) (by kernel_rfl) ?_
              repeat (go_big_quiet_step (fail))
              refine wpQuiet_nil ?_
              rintro _ ⟨s, rfl⟩
              have Q6 := hide (below_next hQ.out hQ.out.size s.h)
              clear m0 m1 m2 hQ
              generalize s.W = w6 at *
              by_cases hx0 : x = p.id
              · have E := hide (HX2.out hx0)
                clear HX1 HX2 HR
                go_wp2_with fail
                go_ret
                exact ⟨by rw [E.out]; rfl, below_next Q3.out Q3.out.size Q6.out⟩
              · have HZ3 := hide (HX1.out hx0)
                clear HX1 HX2
                go_wp2_with fail
                go_roundw
                case rel => exact ⟨j + 1, by omega, by go_num, HZ3, Q6⟩
                case measure => simp [intOf]; omega
            · have hjk : j = k := by omega
              subst hjk
              have E := hide (show r = true from HR.out.2 ⟨⟨GA.out, G1.out⟩, GB.out, GC.out, HZ2.out, HI.out⟩)
              clear HR
              go_wp2_with fail
              go_ret
              exact ⟨by rw [E.out]; rfl, below_next Q3.out Q3.out.size hQ.out⟩
end Go.Proofs.Ytplpnnjjjfcibaa
