/- The walk of LoadNeeds. -/
import Derived.Test.YtmfgifinmeonjaaDoorLnA
import Derived.Test.YtmfgifinmeonjaaDoorLwA
namespace Go.Proofs.YtmfgifinmeonjaaDoor
open Go.ChangeShapes Go.WideShapes Go.ChangeAt Go.RowKit
open FP (Fr bitsF)
open LP (Ld okB rightB mx ah needF lateF)

theorem ws_size (ext : Bool) (b s0 sz : Int) (hs0 : s0 = if ext then 54 else 34) (h0 : 0 ≤ b) (h8 : b ≤ 8) (hsz : sz = s0 + 8 * b) : wsV ext b = sz + (sz - 1) / 4 + 13 ∧ wsE b = 0 := by
  have e : wsN ext b = sz := by unfold wsN; rw [hsz, hs0]; cases ext <;> simp <;> omega
  unfold wsV wsE
  rw [if_pos ⟨h0, h8⟩, if_pos ⟨h0, h8⟩, e]
  exact ⟨by omega, rfl⟩
theorem ws_out (ext : Bool) (b : Int) (h : ¬ (0 ≤ b ∧ b ≤ 8)) : wsV ext b = 0 ∧ wsE b = 1 := by
  unfold wsV wsE; rw [if_neg h, if_neg h]; exact ⟨rfl, rfl⟩
theorem late_out {l : List Ld} {i : Int} (h : ¬ (rightB l = true ∧ 0 ≤ i ∧ i < l.length)) : lateV l i = 0 ∧ lateE l i = 1 := by
  unfold lateV lateE; rw [if_neg h, if_neg h]; exact ⟨rfl, rfl⟩
theorem need_out {l : List Ld} {i t : Int} (h : ¬ (rightB l = true ∧ (0 ≤ i ∧ i < l.length) ∧ 1 ≤ t ∧ t ≤ 1000000)) : nV l i t = 0 ∧ nE l i t = 1 := by
  have : needOk l i t = false := by
    cases hk : needOk l i t with
    | false => rfl
    | true =>
      unfold needOk at hk
      simp only [Bool.and_eq_true, decide_eq_true_eq] at hk
      exact absurd ⟨hk.1, hk.2.1, hk.2.2⟩ h
  unfold nV nE; rw [this]; exact ⟨rfl, rfl⟩
theorem need_in {l : List Ld} {k : Nat} {t : Int} (h : rightB l = true) (hk : k < l.length) (h1 : 1 ≤ t) (h2 : t ≤ 1000000) : nV l k t = needF l k t ∧ nE l k t = 0 := by
  have : needOk l k t = true := by
    unfold needOk
    rw [h, decide_eq_true (show 0 ≤ (k : Int) ∧ (k : Int) < l.length by omega), decide_eq_true (show 1 ≤ t ∧ t ≤ 1000000 from ⟨h1, h2⟩)]; rfl
  unfold nV nE; rw [this]; exact ⟨by simp, rfl⟩
theorem late_in {l : List Ld} (h : rightB l = true) {k : Nat} (hk : k < l.length) : lateE l k = (if lateF l k = 0 then 41 else 0) ∧ lateV l k = lateF l k := by
  have hi : rightB l = true ∧ 0 ≤ (k : Int) ∧ (k : Int) < (l.length : Int) := ⟨h, by omega, by omega⟩
  unfold lateE lateV
  rw [if_pos hi, if_pos hi, Int.toNat_natCast]
  exact ⟨rfl, rfl⟩

set_option maxRecDepth 100000 in
set_option maxHeartbeats 8000000 in
theorem loadNeeds_walk (f : Fr) (ext0 : Bool) (b : Int) (l0 : List Ld) (A : Option Addr) (c : Nat) (i t : Int) (w : World) (hid : f.id < 4294967296) (hs : f.data.size ≤ maxLen)
    (hr0 : LdR w w.heap.size A l0) (hc0 : l0.length ≤ c) (hcm : c ≤ maxLen) :
    Calls Tryd.prog 5 #[.agg (frc f).toArray, .bool ext0, .int .i64 b, .slice A l0.length c, .int .i64 i, .int .i64 t] w fun e w' => e = .returned (.bool true) ∧ Below w.heap.size w w' := by
  obtain ⟨l, hl⟩ : ∃ l, l = l0.take 20 := ⟨_, rfl⟩
  have hlen : l.length = min l0.length 20 := by rw [hl, List.length_take]; omega
  have hr : LdR w w.heap.size A l := by rw [hl]; exact hr0.take 20
  have hl20 : l.length ≤ 20 := by omega
  have hlc : l.length ≤ c := by omega
  have FEW := hide (fun W => few_any A l0.length c W hc0 (by omega))
  rw [← hlen] at FEW
  clear hl hlen hr0 hc0
  have LB := hide (fun W => loadBits_any (cutF f) W hid)
  have RR := hide (fun W => refRight04_any (cutF f) W hid)
  have RB := hide (fun h W => refBits_any (cutF f) W h)
  have WS := hide (fun W => worst_any ext0 b W)
  have NA := hide (fun W (hb : Below w.heap.size w W) => Need_all l A c i t W (hr.next hb hb.size) (by omega) hlc)
  have LT := hide (fun W (hb : Below w.heap.size w W) => Late_any l A c i W (hr.next hb hb.size) (by omega) hlc)
  have R1 := hide (fun W (hb : Below w.heap.size w W) => right_any l A c W (hr.next hb hb.size) (by omega))
  have R2 := hide (fun W (hb : Below w.heap.size w W) => refRight_any l A c W (hr.next hb hb.size) (by omega))
  have VT := hide (fun (h : FP.rightB (cutF f) = true) => show lbV (cutF f) = ((bitsF (cutF f)).length : Int) + 3 ∧ headE (cutF f) = 0 from by unfold lbV headE; rw [h]; exact ⟨rfl, rfl⟩)
  have VF := hide (fun (h : FP.rightB (cutF f) = false) => show lbV (cutF f) = 0 ∧ headE (cutF f) = 1 from by unfold lbV headE; rw [h]; exact ⟨rfl, rfl⟩)
  have HBL := hide (fun (h : FP.rightB (cutF f) = true) => show (bitsF (cutF f)).length ≤ 1000 from by
    have h1 := FP.bits_len h
    have h2 := FP.head_le h
    omega)
  have hsb := size_of (bitsF (cutF f))
  generalize FP.rightB (cutF f) = R at *
  generalize lbV (cutF f) = lbv at *
  generalize headE (cutF f) = hev at *
  generalize bitsF (cutF f) = bF at *
  generalize (⟨bF.toArray⟩ : ByteArray) = sb at *
  rw [← hsb] at VT HBL
  clear hsb
  obtain ⟨id, ext, rem, dlc, data⟩ := f
  dsimp only [cutF, frc] at *
  unfold maxLen at hs hcm
  obtain ⟨m, em, hm⟩ := run_min (P := Tryd.prog) (data.size : Int) 12
  obtain ⟨k, hk⟩ : ∃ k : Nat, k = min data.size 12 := ⟨_, rfl⟩
  have hmk : m = k := by omega
  subst hmk
  have hkl : k ≤ data.size := by omega
  rw [← hk] at LB RR RB
  clear hk em
  generalize hdt : data.extract 0 k = dt at *
  have q0 : Below w.heap.size w (w.alloc (.cells #[.int .u32 id, .bool ext, .bool rem, .int .i64 dlc, .string dt] 24)) := (Below.refl _ _).alloc (Nat.le_refl _) _
  have B0 := hide (World.alloc_heap_new w (.cells #[.int .u32 id, .bool ext, .bool rem, .int .i64 dlc, .string dt] 24))
  obtain ⟨m0, em0, hm0⟩ := run_max (P := Tryd.prog) b 0
  obtain ⟨m1, em1, hm1⟩ := run_min (P := Tryd.prog) m0 8
  have hmx0 : 0 ≤ m1 := by omega
  have hmx8 : m1 ≤ 8 := by omega
  have HM := hide (fun (h : 0 ≤ b ∧ b ≤ 8) => show m1 = b by omega)
  clear em0 em1
  go_enter Tryd.func5, Tryd.ntmps5
  go_wp2_with fail
  (with_reducible refine (FEW.out _).mono ?_)
  rintro e1 w1 ⟨rfl, rfl⟩
  go_wp2_with fail
  (with_reducible refine (WS.out _).mono ?_)
  rintro e2 w2 ⟨rfl, q2⟩
  have Q2 := hide (below_next q0 q0.size q2)
  have B2 := hide (heap_below B0.out q2)
  clear q0 q2 B0 hm hdt FEW WS
  obtain ⟨c0, c1, c2, c3, c4⟩ := frCells B2.out
  go_wp2_with fail
  (with_reducible refine (LB.out _).mono ?_)
  rintro e3 w3 ⟨rfl, q3⟩
  have Q3 := hide (below_next Q2.out Q2.out.size q3)
  have B3 := hide (heap_below B2.out q3)
  clear q3 Q2 B2 LB c0 c1 c2 c3 c4
  go_wp2_with fail
  (with_reducible refine (NA.out _ Q3.out).mono ?_)
  rintro e4 w4 ⟨rfl, q4⟩
  have Q4 := hide (below_next Q3.out Q3.out.size q4)
  have B4 := hide (heap_below B3.out q4)
  clear q4 Q3 B3 NA
  go_wp2_with fail
  (with_reducible refine (LT.out _ Q4.out).mono ?_)
  rintro e5 w5 ⟨rfl, q5⟩
  have Q5 := hide (below_next Q4.out Q4.out.size q5)
  have B5 := hide (heap_below B4.out q5)
  clear q5 Q4 B4 LT
  go_upto_if 57 with fail
  go_cut [21] (fun v W => ∃ s0 : Int, v = .int .i64 s0 ∧ Hid (s0 = if ext0 then 54 else 34) ∧ W = w5)
  case first =>
    cases ext0
    · go_wp2_with fail
      go_meet
      exact ⟨34, rfl, rfl, rfl⟩
    · go_wp2_with fail
      go_meet
      exact ⟨54, rfl, rfl, rfl⟩
  case rest =>
  obtain ⟨s0, rfl, hS0, rfl⟩ := hcut
  have hs01 : 34 ≤ s0 := by have := hS0.out; cases ext0 <;> simp at this <;> omega
  have hs02 : s0 ≤ 54 := by have := hS0.out; cases ext0 <;> simp at this <;> omega
  obtain ⟨sz, hsz⟩ : ∃ sz, sz = s0 + 8 * m1 := ⟨_, rfl⟩
  have HSZ := hide hsz
  have hsz1 : 34 ≤ sz := by omega
  have hsz2 : sz ≤ 118 := by omega
  clear hsz
  go_upto_region 11 with fail
  rw [← HSZ.out]
  clear hs01 hs02 hm0 hm1 hmx0 hmx8
  obtain ⟨ob, hob⟩ : ∃ ob : Bool, ob = (decide (b < 0) || decide (8 < b)) := ⟨_, rfl⟩
  have HOB := hide hob
  clear hob
  go_cut [69] (fun v W => v = .bool ob ∧ W = wc)
  case first =>
    by_cases hb0 : b < 0
    · have HO := HOB.out
      rw [decide_eq_true hb0, Bool.true_or] at HO
      clear HOB
      go_wp2_with fail
      go_meet
      exact ⟨by rw [HO], rfl⟩
    · have HO := HOB.out
      have hb0' : decide (b < 0) = false := decide_eq_false hb0
      rw [hb0', Bool.false_or] at HO
      replace HO := hide HO
      clear HOB
      go_wp2_with fail
      all_goals
        go_meet
        exact ⟨by rw [HO.out], rfl⟩
  case rest =>
  obtain ⟨rfl, rfl⟩ := hcut
  generalize hwv : wsV ext0 b = wv at *
  generalize hwe : wsE b = we at *
  go_upto_if 69 with fail
  go_cut [69] (fun _ W => W = wc)
  case first =>
    cases ob with
    | true =>
      have hn : ¬ (0 ≤ b ∧ b ≤ 8) := by
        have := HOB.out
        rw [eq_comm, Bool.or_eq_true, decide_eq_true_eq, decide_eq_true_eq] at this
        omega
      obtain ⟨v1, v2⟩ := ws_out ext0 b hn
      rw [hwv] at v1
      rw [hwe] at v2
      clear HOB hn hwv hwe
      subst v1 v2
      go_wp2_with fail
      go_meet
      rfl
    | false =>
      have hn : 0 ≤ b ∧ b ≤ 8 := by
        have := HOB.out
        rw [eq_comm, Bool.or_eq_false_iff, decide_eq_false_iff_not, decide_eq_false_iff_not] at this
        omega
      obtain ⟨v1, v2⟩ := ws_size ext0 b s0 sz hS0.out hn.1 hn.2 (by rw [HSZ.out, HM.out hn])
      rw [hwv] at v1
      rw [hwe] at v2
      have hq1 : 0 ≤ (sz - 1) / 4 := by omega
      have hq2 : (sz - 1) / 4 ≤ 30 := by omega
      clear HOB hn hwv hwe
      subst v1 v2
      go_wp2_with fail
      go_meet
      rfl
  case rest =>
  subst hcut
  clear HOB HM hS0 HSZ hwv hwe
  obtain ⟨c0, c1, c2, c3, c4⟩ := frCells B5.out
  go_wp2_with fail
  (with_reducible refine (RR.out _).mono ?_)
  rintro e6 w6 ⟨rfl, q6⟩
  have Q6 := hide (below_next Q5.out Q5.out.size q6)
  have B6 := hide (heap_below B5.out q6)
  clear q6 Q5 B5 c0 c1 c2 c3 c4 RR
  go_upto_if 90 with fail
  go_cut [90] (fun _ W => Hid (Below w.heap.size w W))
  case first =>
    cases R with
    | false =>
      obtain ⟨v1, v2⟩ := VF.out rfl
      subst v1 v2
      go_wp2_with fail
      go_meet
      exact Q6
    | true =>
      obtain ⟨v1, v2⟩ := VT.out rfl
      have hbz := HBL.out rfl
      subst v1 v2
      have RB2 := hide (RB.out rfl)
      obtain ⟨c0, c1, c2, c3, c4⟩ := frCells B6.out
      go_wp2_with fail
      (with_reducible refine (RB2.out _).mono ?_)
      rintro e7 w7 ⟨rfl, q7⟩
      have Q7 := hide (below_next Q6.out Q6.out.size q7)
      clear q7 Q6 B6 c0 c1 c2 c3 c4
      go_wp2_with fail
      go_meet
      exact Q7
  case rest =>
  have Q7 := hcut
  clear hcut Q6 B6 VF VT HBL RB
  go_wp2_with fail
  (with_reducible refine (R1.out _ Q7.out).mono ?_)
  rintro e8 w8 ⟨rfl, q8⟩
  have Q8 := hide (below_next Q7.out Q7.out.size q8)
  clear q8 Q7
  go_wp2_with fail
  (with_reducible refine (R2.out _ Q8.out).mono ?_)
  rintro e9 w9 ⟨rfl, q9⟩
  have Q9 := hide (below_next Q8.out Q8.out.size q9)
  clear q9 Q8
  have hself : (rightB l != rightB l) = false := by simp
  obtain ⟨rb, hrb⟩ : ∃ rb : Bool, rb = rightB l := ⟨_, rfl⟩
  rw [← hrb] at R2 hself ⊢
  go_wp2_with fail
  (with_reducible refine (alive22_any _).mono ?_)
  rintro e10 w10 ⟨rfl, q10⟩
  have Q10 := hide (below_next Q9.out Q9.out.size q10)
  clear q10 Q9 hself
  go_wp2_with fail
  (with_reducible refine (R2.out _ Q10.out).mono ?_)
  rintro e11 w11 ⟨rfl, q11⟩
  have Q11 := hide (below_next Q10.out Q10.out.size q11)
  clear q11 Q10
  by_cases hin : rightB l = true ∧ 0 ≤ i ∧ i < l.length
  · obtain ⟨h1, h2, h3⟩ := hin
    have hrt : rb = true := hrb.trans h1
    subst hrt
    obtain ⟨kk, rfl⟩ := Int.eq_ofNat_of_zero_le h2
    have hkk : kk < l.length := by omega
    obtain ⟨l1, l2⟩ := late_in h1 hkk
    have L1 := hide l1
    have L2 := hide l2
    have NI := hide (fun x y => need_in (t := t) h1 hkk x y)
    have NO := hide (fun x => need_out (l := l) (i := (kk : Int)) (t := t) x)
    have hRI := LP.right_iff.1 h1
    have h16 := hRI.1
    have HRI := hide hRI
    have RN := hide (fun W (hb : Below w.heap.size w W) x y => refNeed_any l A c kk t W (hr.next hb hb.size) HRI h16 hlc hkk x y)
    have RL := hide (fun W (hb : Below w.heap.size w W) => refLate_any l A c kk W (hr.next hb hb.size) HRI h16 hlc hkk)
    have LB := hide (LP.lateF_bd l kk)
    have RV := hide (show rlV l kk = if 1 ≤ lateF l kk ∧ lateF l kk ≤ 3000 then lateF l kk else 0 from rfl)
    clear l1 l2 hrb h1 hRI R1 R2
    generalize nV l kk t = nv at *
    generalize nE l kk t = ne at *
    generalize lateV l kk = lv at *
    generalize lateE l kk = le at *
    generalize needF l kk t = nf at *
    generalize lateF l kk = lf at *
    generalize rlV l kk = rl at *
    go_upto_region 25 with fail
    obtain ⟨ot, hot⟩ : ∃ ot : Bool, ot = (decide (t < 1) || decide (1000000 < t)) := ⟨_, rfl⟩
    have HOT := hide hot
    clear hot
    go_cut [148] (fun v W => v = .bool ot ∧ W = w11)
    case first =>
      by_cases ht0 : t < 1
      · have HO := HOT.out
        rw [decide_eq_true ht0, Bool.true_or] at HO
        clear HOT
        go_wp2_with fail
        go_meet
        exact ⟨by rw [HO], rfl⟩
      · have HO := HOT.out
        have ht0' : decide (t < 1) = false := decide_eq_false ht0
        rw [ht0', Bool.false_or] at HO
        replace HO := hide HO
        clear HOT
        go_wp2_with fail
        all_goals
          go_meet
          exact ⟨by rw [HO.out], rfl⟩
    case rest =>
    obtain ⟨rfl, rfl⟩ := hcut
    go_upto_if 148 with fail
    go_cut [148] (fun _ W => Hid (Below w.heap.size w W))
    case first =>
      cases ot with
      | true =>
        have hn : ¬ (1 ≤ t ∧ t ≤ 1000000) := by
          have := HOT.out
          rw [eq_comm, Bool.or_eq_true, decide_eq_true_eq, decide_eq_true_eq] at this
          omega
        obtain ⟨v1, v2⟩ := NO.out (fun x => hn x.2.2)
        clear HOT hn NI NO RN RL
        subst v1 v2
        go_wp2_with fail
        go_meet
        exact Q11
      | false =>
        have hn : 1 ≤ t ∧ t ≤ 1000000 := by
          have := HOT.out
          rw [eq_comm, Bool.or_eq_false_iff, decide_eq_false_iff_not, decide_eq_false_iff_not] at this
          omega
        obtain ⟨v1, v2⟩ := NI.out hn.1 hn.2
        have RN2 := hide (fun W hb => RN.out W hb hn.1 hn.2)
        clear HOT hn NI NO RN RL
        subst v1 v2
        go_wp2_with fail
        (with_reducible refine (RN2.out _ Q11.out).mono ?_)
        rintro e12 w12 ⟨rfl, q12⟩
        have Q12 := hide (below_next Q11.out Q11.out.size q12)
        go_wp2_with fail
        go_meet
        exact Q12
    case rest =>
    have Q12 := hcut
    clear hcut HOT NI NO RN
    go_wp2_with fail
    (with_reducible refine (RL.out _ Q12.out).mono ?_)
    rintro e13 w13 ⟨rfl, q13⟩
    have Q13 := hide (below_next Q12.out Q12.out.size q13)
    clear RL q13 Q12
    by_cases h0 : 1 ≤ lf
    · by_cases h3 : lf ≤ 3000
      · have e1 : rl = lf := by rw [RV.out, if_pos ⟨h0, h3⟩]
        have e2 : le = 0 := by rw [L1.out, if_neg (by omega)]
        have e3 := L2.out
        clear RV L1 L2 LB
        subst e1 e2 e3
        go_wp2_with fail
        go_ret
        exact ⟨rfl, Q13.out⟩
      · have e1 : rl = 0 := by rw [RV.out, if_neg (by omega)]
        have e2 : le = 0 := by rw [L1.out, if_neg (by omega)]
        have e3 := L2.out
        clear RV L1 L2 LB
        subst e1 e2 e3
        go_wp2_with fail
        go_ret
        exact ⟨rfl, Q13.out⟩
    · have e0 : lf = 0 := by have := LB.out; omega
      have e1 : rl = 0 := by rw [RV.out, if_neg (by omega)]
      have e2 : le = 41 := by rw [L1.out, if_pos e0]
      have e3 := L2.out
      clear RV L1 L2 LB
      subst e0 e1 e2 e3
      go_wp2_with fail
      go_ret
      exact ⟨rfl, Q13.out⟩
  · obtain ⟨v1, v2⟩ := late_out hin
    obtain ⟨v3, v4⟩ := need_out (t := t) (fun x => hin ⟨x.1, x.2.1⟩)
    generalize nV l i t = nv at *
    generalize nE l i t = ne at *
    generalize lateV l i = lv at *
    generalize lateE l i = le at *
    subst v1 v2 v3 v4
    cases rb with
    | false =>
      clear hin hrb R1 R2
      go_wp2_with fail
      go_ret
      exact ⟨rfl, Q11.out⟩
    | true =>
      have hin2 : ¬ (0 ≤ i ∧ i < l.length) := fun x => hin ⟨hrb.symm, x⟩
      clear hin hrb R1 R2
      by_cases hi0 : i < 0
      · clear hin2
        go_wp2_with fail
        go_ret
        exact ⟨rfl, Q11.out⟩
      · have hi1 : (l.length : Int) ≤ i := by omega
        clear hin2
        go_wp2_with fail
        go_ret
        exact ⟨rfl, Q11.out⟩
end Go.Proofs.YtmfgifinmeonjaaDoor
