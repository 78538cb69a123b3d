/- Walks of ref14.Put, Right, Over. -/
import Derived.Test.YtplpnnjjjfcibaaRsA
import Derived.Test.YtplpnnjjjfcibaaPdF
import Derived.Test.YtplpnnjjjfcibaaPdJ
namespace Go.Proofs.Ytplpnnjjjfcibaa
open Go.ChangeShapes Go.WideShapes Go.ChangeAt Go.RowKit
open SG PD

theorem putN_succ (l : List UInt8) (ps : List Nat) (v : Int) (k : Nat) : putN l ps v (k + 1) = setB (putN l ps v k) (ps.getD k 0) (vbit v k) := rfl
theorem tdm (u : Int) : u = 2 * u.tdiv 2 + u.tmod 2 ∧ (0 ≤ u → 0 ≤ u.tmod 2 ∧ u.tmod 2 ≤ 1) ∧ (u ≤ 0 → -1 ≤ u.tmod 2 ∧ u.tmod 2 ≤ 0) := by
  have e := Int.mul_tdiv_add_tmod u 2
  have h1 : -2 < u.tmod 2 := Int.lt_tmod_of_pos _ (by omega)
  have h2 : u.tmod 2 < 2 := Int.tmod_lt_of_pos _ (by omega)
  refine ⟨by omega, fun h => ?_, fun h => ?_⟩
  · have := Int.tmod_nonneg 2 h; omega
  · have := Int.tmod_nonneg 2 (show 0 ≤ -u by omega)
    rw [Int.neg_tmod] at this
    omega
theorem half_next (v : Int) (k : Nat) : v / 2 ^ (k + 1) = v / 2 ^ k / 2 := by rw [Int.pow_succ, Int.ediv_ediv_of_nonneg (Int.pow_nonneg (by omega))]
theorem half_bounds {v : Int} (h1 : -9223372036854775808 ≤ v) (h2 : v < 9223372036854775808) (k : Nat) : -9223372036854775808 ≤ v / 2 ^ k ∧ v / 2 ^ k < 9223372036854775808 := by
  have hp : (0 : Int) < 2 ^ k := Int.pow_pos (by omega)
  have e := Int.emod_add_mul_ediv v (2 ^ k)
  have b1 := Int.emod_nonneg v (show (2 : Int) ^ k ≠ 0 by omega)
  constructor
  · by_cases h : 0 ≤ v / 2 ^ k
    · omega
    · have : 2 ^ k * (v / 2 ^ k) ≤ 1 * (v / 2 ^ k) := Int.mul_le_mul_of_nonpos_right (by omega) (by omega)
      have b2 := Int.emod_lt_of_pos v hp
      have h3 : -(9223372036854775808 : Int) * 2 ^ k ≤ v := by
        have : (9223372036854775808 : Int) * 1 ≤ 9223372036854775808 * 2 ^ k := Int.mul_le_mul_of_nonneg_left (by omega) (by omega)
        rw [Int.neg_mul]; omega
      exact Int.le_ediv_of_mul_le hp h3
  · have : (9223372036854775808 : Int) * 1 ≤ 9223372036854775808 * 2 ^ k := Int.mul_le_mul_of_nonneg_left (by omega) (by omega)
    exact Int.ediv_lt_of_lt_mul hp (by omega)

set_option maxRecDepth 100000 in
set_option maxHeartbeats 4000000 in
theorem refPut_any (d : ByteArray) (s : Sg) (v : Int) (w : World) (hd : d.size ≤ 8) (hpl : ∀ p ∈ plL s, p < 8 * d.size) (hv1 : -9223372036854775808 ≤ v) (hv2 : v < 9223372036854775808) :
    Calls Try.prog 52 #[.string d, .agg #[.int .i64 s.start, .int .i64 s.width, .bool s.big, .bool s.sgn], .int .i64 v] w fun e w' => e = .returned (.string ⟨(putF d.data.toList (plL s) v).toArray⟩) ∧ Below w.heap.size w w' := by
  have PS := hide (fun W => refPlaces_any s W)
  have HP := hide hpl
  have PF := hide (show putF d.data.toList (plL s) v = putN d.data.toList (plL s) v (plL s).length from rfl)
  have P0 := hide (show (⟨(putN d.data.toList (plL s) v 0).toArray⟩ : ByteArray) = d from by simp [putN])
  have hds : d.data.toList.length = d.size := by simp
  have LEN := hide (fun k => show (putN d.data.toList (plL s) v k).length = d.size by rw [putN_length, hds])
  have NX := hide (putN_succ d.data.toList (plL s) v)
  have HB := hide (half_bounds hv1 hv2)
  have V0 := hide (show v / 2 ^ 0 = v by simp)
  have hll : (plL s).length ≤ 64 := by
    by_cases h0 : plL s = []
    · rw [h0]; simp
    · have := plL_length h0; omega
  rw [PF.out]
  clear PF hpl hds hv1 hv2
  unfold RpV at PS
  generalize plL s = l at *
  obtain ⟨st, wd, bg, sg⟩ := s
  dsimp only at *
  have q0 : Below w.heap.size w (w.alloc (.cells #[.int .i64 st, .int .i64 wd, .bool bg, .bool sg] 36)) := (Below.refl _ _).alloc (Nat.le_refl _) _
  go_enter Try.func52, Try.ntmps52
  go_wp2_with fail
  (with_reducible refine (PS.out _).mono ?_)
  rintro e1 w1 ⟨⟨A, c, rfl, hr⟩, q1⟩
  have Q1 := hide (below_next q0 q0.size q1)
  have R1 := hide hr
  clear q0 q1 hr PS
  go_wp2_with fail
  go_loopw [0, 2, 12] (fun vd vv vi W => ∃ k : Nat, k ≤ l.length ∧ vi = .int .i64 k ∧ vv = .int .i64 (v / 2 ^ k) ∧ vd = .string ⟨(putN d.data.toList l v k).toArray⟩ ∧ Hid (NR W w1.heap.size A l) ∧ Hid (Below w.heap.size w W) ∧ w1.heap.size ≤ W.heap.size) (fun _ _ vi _ => l.length - (intOf vi).toNat)
  case atStart => exact ⟨0, Nat.zero_le _, rfl, by rw [V0.out], by rw [P0.out], R1, Q1, Nat.le_refl _⟩
  case round =>
    obtain ⟨k, hk, rfl, rfl, rfl, hR, hQ, hz⟩ := hrel
    clear R1 Q1 P0 V0
    by_cases hlt : k < l.length
    · have hp := HP.out l[k] (List.getElem_mem hlt)
      have hml := LEN.out k
      have nx := NX.out k
      have hgd : l.getD k 0 = l[k] := by rw [List.getD_eq_getElem?_getD, List.getElem?_eq_getElem hlt]; rfl
      rw [hgd] at nx
      obtain ⟨b, hb⟩ : ∃ b, b = vbit v k := ⟨_, rfl⟩
      rw [← hb] at nx
      have hbs := HB.out k
      have hh := half_next v k
      obtain ⟨m1, hm1⟩ : ∃ m1, m1 = putN d.data.toList l v (k + 1) := ⟨_, rfl⟩
      rw [← hm1] at nx
      have HM1 := hide hm1
      obtain ⟨u1, hu1⟩ : ∃ u1, u1 = v / 2 ^ (k + 1) := ⟨_, rfl⟩
      rw [← hu1] at hh
      have HU1 := hide hu1
      unfold vbit at hb
      obtain ⟨bk, ok, rfl, hbk, ck⟩ := NR.at_ hR.out hlt
      have hki : (k : Int) < (l.length : Int) := by omega
      generalize putN d.data.toList l v k = m at *
      generalize v / 2 ^ k = u at *
      generalize l[k] = p at *
      have hms : (⟨m.toArray⟩ : ByteArray).size = m.length := size_ofL m
      have MK := hide (fun W => show Calls Try.prog 53 #[.string ⟨m.toArray⟩, .int .i64 p, .bool b] W fun e w' => e = .returned (.string ⟨(setB m p b).toArray⟩) ∧ Below W.heap.size W w' from refWith_any ⟨m.toArray⟩ p b W (by rw [hms]; omega) (by rw [hms]; omega))
      rw [← nx] at MK
      have h2 := Int.emod_two_eq u
      have t1 := tdm u
      have t2 := tdm (u - 1)
      have HHH := hide hh
      clear nx hgd hm1 hu1 hms LEN NX HB HP hp hml
      obtain ⟨r, hr⟩ : ∃ r, r = u.tmod 2 := ⟨_, rfl⟩
      have hrr : (r = 0 ∧ u % 2 = 0) ∨ (r = 1 ∧ u % 2 = 1 ∧ 0 ≤ u) ∨ (r = -1 ∧ u % 2 = 1 ∧ u < 0) := by
        rw [hr]
        by_cases h9 : 0 ≤ u
        · have := t1.2.1 h9; omega
        · have := t1.2.2 (by omega); omega
      have hrb : (r != 0) = b := by
        rw [hb]
        rcases hrr with ⟨e1, e2⟩ | ⟨e1, e2, _⟩ | ⟨e1, e2, _⟩ <;> rw [e1, e2] <;> rfl
      have hq0 : b = false ∨ 0 ≤ u → u.tdiv 2 = u1 := by
        rintro (h | h)
        · have : u % 2 = 0 := by
            rcases h2 with h2 | h2
            · exact h2
            · rw [h2, h] at hb; simp at hb
          rw [HHH.out]
          by_cases h9 : 0 ≤ u
          · have := t1.2.1 h9; omega
          · have := t1.2.2 (by omega); omega
        · rw [HHH.out, Int.tdiv_eq_ediv_of_nonneg h]
      have hq1 : b = true → u < 0 → (u - 1).tdiv 2 = u1 := by
        intro h h3
        have : u % 2 = 1 := by rw [h] at hb; simpa using hb.symm
        rw [HHH.out]
        have := t2.2.2 (by omega)
        omega
      have hmin : b = true → u < 0 → -9223372036854775808 ≤ u - 1 := by
        intro h h3
        have : u % 2 = 1 := by rw [h] at hb; simpa using hb.symm
        omega
      have hub1 : -9223372036854775808 ≤ u1 ∧ u1 < 9223372036854775808 := by rw [HHH.out]; omega
      clear hh h2 hb hrr HHH t1 t2
      have hr' : u.tmod 2 = r := hr.symm
      clear hr
      cases b with
      | false =>
        have hq := hq0 (.inl rfl)
        clear hq0 hq1 hmin
        go_wp2_with fail
        (with_reducible refine (MK.out _).mono ?_)
        rintro e2 w2 ⟨rfl, q2⟩
        have Q2 := hide (below_next hQ.out hQ.out.size q2)
        have R2 := hide (Rd.below hR.out (q2.mono hz))
        have hz2 := Nat.le_trans hz q2.size
        clear q2 hQ hR hbk ck MK
        by_cases hu : u < 0
        · go_wp2_with fail
          go_roundw
          case rel => exact ⟨k + 1, by omega, by go_num, by rw [HU1.out], by rw [HM1.out], R2, Q2, hz2⟩
          case measure => simp [intOf]; omega
        · go_wp2_with fail
          go_roundw
          case rel => exact ⟨k + 1, by omega, by go_num, by rw [HU1.out], by rw [HM1.out], R2, Q2, hz2⟩
          case measure => simp [intOf]; omega
      | true =>
        by_cases hu : u < 0
        · have hq := hq1 rfl hu
          have hmn := hmin rfl hu
          clear hq0 hq1 hmin
          go_wp2_with fail
          (with_reducible refine (MK.out _).mono ?_)
          rintro e2 w2 ⟨rfl, q2⟩
          have Q2 := hide (below_next hQ.out hQ.out.size q2)
          have R2 := hide (Rd.below hR.out (q2.mono hz))
          have hz2 := Nat.le_trans hz q2.size
          clear q2 hQ hR hbk ck MK
          go_wp2_with fail
          go_roundw
          case rel => exact ⟨k + 1, by omega, by go_num, by rw [HU1.out], by rw [HM1.out], R2, Q2, hz2⟩
          case measure => simp [intOf]; omega
        · have hq := hq0 (.inr (by omega))
          clear hq0 hq1 hmin
          go_wp2_with fail
          (with_reducible refine (MK.out _).mono ?_)
          rintro e2 w2 ⟨rfl, q2⟩
          have Q2 := hide (below_next hQ.out hQ.out.size q2)
          have R2 := hide (Rd.below hR.out (q2.mono hz))
          have hz2 := Nat.le_trans hz q2.size
          clear q2 hQ hR hbk ck MK
          go_wp2_with fail
          go_roundw
          case rel => exact ⟨k + 1, by omega, by go_num, by rw [HU1.out], by rw [HM1.out], R2, Q2, hz2⟩
          case measure => simp [intOf]; omega
    · obtain rfl : k = l.length := by omega
      have hnl : ¬ (l.length : Int) < (l.length : Int) := by omega
      clear NX HB HP LEN hlt hk
      generalize v / 2 ^ l.length = u at *
      go_wp2_with fail
      go_ret
      exact ⟨rfl, hQ.out⟩

set_option maxRecDepth 100000 in
set_option maxHeartbeats 4000000 in
theorem refRight14_any (s : Sg) (n : Int) (w : World) (h0 : 0 ≤ n) (h8 : n ≤ 8) :
    Calls Try.prog 48 #[.agg #[.int .i64 s.start, .int .i64 s.width, .bool s.big, .bool s.sgn], .int .i64 n] w fun e w' => e = .returned (.bool (rightS s n)) ∧ Below w.heap.size w w' := by
  have PS := hide (fun W => refPlaces_any s W)
  obtain ⟨r, hr⟩ : ∃ r, r = rightS s n := ⟨_, rfl⟩
  rw [← hr]
  have HR := hide (show r = true ↔ plL s ≠ [] ∧ 0 ≤ n ∧ n ≤ 8 ∧ ∀ p ∈ plL s, (p : Int) < 8 * n from by rw [hr]; exact rightS_iff)
  clear hr
  have PLT := hide (fun p (hp : p ∈ plL s) => plL_lt hp)
  have hll : (plL s).length ≤ 64 := by
    by_cases h0 : plL s = []
    · rw [h0]; simp
    · have := plL_length h0; omega
  unfold RpV at PS
  generalize plL s = l at *
  obtain ⟨st, wd, bg, sg⟩ := s
  dsimp only at *
  have q0 : Below w.heap.size w (w.alloc (.cells #[.int .i64 st, .int .i64 wd, .bool bg, .bool sg] 36)) := (Below.refl _ _).alloc (Nat.le_refl _) _
  go_enter Try.func48, Try.ntmps48
  go_wp2_with fail
  (with_reducible refine (PS.out _).mono ?_)
  rintro e1 w1 ⟨⟨A, c, rfl, hr⟩, q1⟩
  have Q1 := hide (below_next q0 q0.size q1)
  have R1 := hide hr
  clear q0 q1 hr PS
  go_wp2_with fail
  go_loopw [12] (fun vi W => ∃ k : Nat, k ≤ l.length ∧ vi = .int .i64 k ∧ Hid (∀ j (hj : j < k) (hj2 : j < l.length), ((l[j] : Nat) : Int) < 8 * n) ∧ w1 = W) (fun vi _ => l.length - (intOf vi).toNat)
  case atStart => exact ⟨0, Nat.zero_le _, rfl, hide (fun j hj => absurd hj (Nat.not_lt_zero _)), rfl⟩
  case round =>
    obtain ⟨k, hk, rfl, hA, rfl⟩ := hrel
    by_cases hlt : k < l.length
    · have hlp := PLT.out l[k] (List.getElem_mem hlt)
      obtain ⟨bk, ok, rfl, hbk, ck⟩ := NR.at_ R1.out hlt
      have hki : (k : Int) < (l.length : Int) := by omega
      have HN := hide (fun (h : ¬ ((l[k] : Nat) : Int) < 8 * n) => show r = false from by
        cases hr : r with
        | false => rfl
        | true => exact absurd ((HR.out.1 hr).2.2.2 _ (List.getElem_mem hlt)) h)
      have HS := hide (fun (h : ((l[k] : Nat) : Int) < 8 * n) => show ∀ j (hj : j < k + 1) (hj2 : j < l.length), ((l[j] : Nat) : Int) < 8 * n from fun j hj hj2 => by
        by_cases e : j = k
        · subst e; exact h
        · exact hA.out j (by omega) hj2)
      generalize l[k] = p at *
      by_cases hp : (p : Int) < 8 * n
      · have HS2 := hide (HS.out hp)
        clear HN HS PLT HR
        go_wp2_with fail
        go_roundw
        case rel => exact ⟨k + 1, by omega, by go_num, HS2, trivial⟩
        case measure => simp [intOf]; omega
      · have E := hide (HN.out hp)
        clear HN HS PLT HR
        go_wp2_with fail
        go_ret
        exact ⟨by rw [E.out]; rfl, Q1.out⟩
    · obtain rfl : k = l.length := by omega
      have hnl : ¬ (l.length : Int) < (l.length : Int) := by omega
      have E := hide (show r = decide (0 < l.length) from by
        by_cases h : l = []
        · subst h
          cases hr : r with
          | false => rfl
          | true => exact absurd rfl (HR.out.1 hr).1
        · have : 0 < l.length := List.length_pos_iff.2 h
          rw [decide_eq_true this]
          refine HR.out.2 ⟨h, h0, h8, ?_⟩
          intro p hp
          obtain ⟨j, hj, rfl⟩ := List.mem_iff_getElem.1 hp
          exact hA.out j hj hj)
      clear hlt hk HR PLT
      by_cases h : 0 < l.length
      · have hi : 0 < (l.length : Int) := by omega
        have hd : decide (0 < l.length) = true := decide_eq_true h
        rw [hd] at E
        go_wp2_with fail
        go_ret
        exact ⟨by rw [E.out]; rfl, Q1.out⟩
      · have hi : ¬ 0 < (l.length : Int) := by omega
        have hd : decide (0 < l.length) = false := decide_eq_false h
        rw [hd] at E
        go_wp2_with fail
        go_ret
        exact ⟨by rw [E.out]; rfl, Q1.out⟩

def ofB (s : Sg) (a : Int) : Bool := (plL s).any fun p => (p : Int) == a
def overB (a b : Sg) : Bool := (plL a).any fun p => (plL b).any fun q => q == p

set_option maxRecDepth 100000 in
set_option maxHeartbeats 4000000 in
theorem refOf_any (s : Sg) (a : Int) (w : World) :
    Calls Try.prog 50 #[.agg #[.int .i64 s.start, .int .i64 s.width, .bool s.big, .bool s.sgn], .int .i64 a] w fun e w' => e = .returned (.bool (ofB s a)) ∧ Below w.heap.size w w' := by
  have PS := hide (fun W => refPlaces_any s W)
  obtain ⟨r, hr⟩ : ∃ r, r = ofB s a := ⟨_, rfl⟩
  rw [← hr]
  have HR := hide (show r = true ↔ ∃ p ∈ plL s, (p : Int) = a from by rw [hr]; unfold ofB; simp)
  clear hr
  have PLT := hide (fun p (hp : p ∈ plL s) => plL_lt hp)
  have hll : (plL s).length ≤ 64 := by
    by_cases h0 : plL s = []
    · rw [h0]; simp
    · have := plL_length h0; omega
  unfold RpV at PS
  generalize plL s = l at *
  obtain ⟨st, wd, bg, sg⟩ := s
  dsimp only at *
  have q0 : Below w.heap.size w (w.alloc (.cells #[.int .i64 st, .int .i64 wd, .bool bg, .bool sg] 36)) := (Below.refl _ _).alloc (Nat.le_refl _) _
  go_enter Try.func50, Try.ntmps50
  go_wp2_with fail
  (with_reducible refine (PS.out _).mono ?_)
  rintro e1 w1 ⟨⟨A, c, rfl, hr⟩, q1⟩
  have Q1 := hide (below_next q0 q0.size q1)
  have R1 := hide hr
  clear q0 q1 hr PS
  go_wp2_with fail
  go_loopw [10] (fun vi W => ∃ k : Nat, k ≤ l.length ∧ vi = .int .i64 k ∧ Hid (∀ j (hj : j < k) (hj2 : j < l.length), ((l[j] : Nat) : Int) ≠ a) ∧ w1 = W) (fun vi _ => l.length - (intOf vi).toNat)
  case atStart => exact ⟨0, Nat.zero_le _, rfl, hide (fun j hj => absurd hj (Nat.not_lt_zero _)), rfl⟩
  case round =>
    obtain ⟨k, hk, rfl, hA, rfl⟩ := hrel
    by_cases hlt : k < l.length
    · have hlp := PLT.out l[k] (List.getElem_mem hlt)
      obtain ⟨bk, ok, rfl, hbk, ck⟩ := NR.at_ R1.out hlt
      have hki : (k : Int) < (l.length : Int) := by omega
      have HN := hide (fun (h : ((l[k] : Nat) : Int) = a) => show r = true from HR.out.2 ⟨_, List.getElem_mem hlt, h⟩)
      have HS := hide (fun (h : ((l[k] : Nat) : Int) ≠ a) => show ∀ j (hj : j < k + 1) (hj2 : j < l.length), ((l[j] : Nat) : Int) ≠ a from fun j hj hj2 => by
        by_cases e : j = k
        · subst e; exact h
        · exact hA.out j (by omega) hj2)
      generalize l[k] = p at *
      by_cases hp : (p : Int) = a
      · have E := hide (HN.out hp)
        have e1 : ((p : Int) == a) = true := by rw [beq_iff_eq]; exact hp
        clear HN HS PLT HR hp
        go_wp2_with fail
        go_ret
        exact ⟨by rw [E.out]; rfl, Q1.out⟩
      · have HS2 := hide (HS.out hp)
        have e1 : ((p : Int) == a) = false := by rw [beq_eq_false_iff_ne]; exact hp
        clear HN HS PLT HR hp
        go_wp2_with fail
        go_roundw
        case rel => exact ⟨k + 1, by omega, by go_num, HS2, trivial⟩
        case measure => simp [intOf]; omega
    · obtain rfl : k = l.length := by omega
      have hnl : ¬ (l.length : Int) < (l.length : Int) := by omega
      have E := hide (show r = false from by
        cases hr : r with
        | false => rfl
        | true =>
          obtain ⟨p, hp, e⟩ := HR.out.1 hr
          obtain ⟨j, hj, rfl⟩ := List.mem_iff_getElem.1 hp
          exact absurd e (hA.out j hj hj))
      clear hlt hk HR PLT
      go_wp2_with fail
      go_ret
      exact ⟨by rw [E.out]; rfl, Q1.out⟩

set_option maxRecDepth 100000 in
set_option maxHeartbeats 4000000 in
theorem refOver_any (s u : Sg) (w : World) :
    Calls Try.prog 49 #[.agg #[.int .i64 s.start, .int .i64 s.width, .bool s.big, .bool s.sgn], .agg #[.int .i64 u.start, .int .i64 u.width, .bool u.big, .bool u.sgn]] w fun e w' => e = .returned (.bool (overB s u)) ∧ Below w.heap.size w w' := by
  have PS := hide (fun W => refPlaces_any s W)
  have PU := hide (fun W => refPlaces_any u W)
  obtain ⟨r, hr⟩ : ∃ r, r = overB s u := ⟨_, rfl⟩
  rw [← hr]
  have HR := hide (show r = true ↔ ∃ p ∈ plL s, ∃ q ∈ plL u, q = p from by rw [hr]; unfold overB; simp)
  clear hr
  have PLT := hide (fun p (hp : p ∈ plL s) => plL_lt hp)
  have PLU := hide (fun p (hp : p ∈ plL u) => plL_lt hp)
  have hll : (plL s).length ≤ 64 := by
    by_cases h0 : plL s = []
    · rw [h0]; simp
    · have := plL_length h0; omega
  have hlu : (plL u).length ≤ 64 := by
    by_cases h0 : plL u = []
    · rw [h0]; simp
    · have := plL_length h0; omega
  unfold RpV at PS PU
  generalize plL s = l at *
  generalize plL u = lu at *
  obtain ⟨st, wd, bg, sg⟩ := s
  obtain ⟨st2, wd2, bg2, sg2⟩ := u
  dsimp only at *
  obtain ⟨w0, hw0⟩ : ∃ w0, w0 = (w.alloc (.cells #[.int .i64 st, .int .i64 wd, .bool bg, .bool sg] 36)).alloc (.cells #[.int .i64 st2, .int .i64 wd2, .bool bg2, .bool sg2] 36) := ⟨_, rfl⟩
  have q0 : Below w.heap.size w w0 := by rw [hw0]; exact ((Below.refl _ _).alloc (Nat.le_refl _) _).alloc (by simp) _
  have B0 : Hid (w0.heap[w.heap.size + 1]? = some (.cells #[.int .i64 st2, .int .i64 wd2, .bool bg2, .bool sg2] 36 (0, 0))) := by
    rw [hw0]
    have := World.alloc_heap_new (w.alloc (.cells #[.int .i64 st, .int .i64 wd, .bool bg, .bool sg] 36)) (.cells #[.int .i64 st2, .int .i64 wd2, .bool bg2, .bool sg2] 36)
    simp only [World.size_alloc] at this
    exact hide this
  have C0 : Hid (w0.heap[w.heap.size]? = some (.cells #[.int .i64 st, .int .i64 wd, .bool bg, .bool sg] 36 (0, 0))) := by
    rw [hw0]
    exact hide (heap_below (World.alloc_heap_new w _) ((Below.refl _ _).alloc (Nat.le_refl _) _))
  obtain ⟨c0, c1, c2, c3⟩ := sg_cells (s := ⟨st, wd, bg, sg⟩) C0.out
  dsimp only at c0 c1 c2 c3
  go_enter Try.func49, Try.ntmps49
  go_upto_region 1 with fail
  rw [← hw0]
  clear hw0
  go_wp2_with fail
  (with_reducible refine (PS.out _).mono ?_)
  rintro e1 w1 ⟨⟨A, c, rfl, hr⟩, q1⟩
  have Q1 := hide (below_next q0 q0.size q1)
  have R1 := hide hr
  have B1 := hide (heap_below B0.out q1)
  clear q0 q1 hr PS B0 C0 c0 c1 c2 c3
  go_wp2_with fail
  go_loopw [12] (fun vi W => ∃ k : Nat, k ≤ l.length ∧ vi = .int .i64 k ∧ Hid (∀ j (hj : j < k) (hj2 : j < l.length), ∀ q ∈ lu, q ≠ l[j]) ∧ Hid (Below w1.heap.size w1 W)) (fun vi _ => l.length - (intOf vi).toNat)
  case atStart => exact ⟨0, Nat.zero_le _, rfl, hide (fun j hj => absurd hj (Nat.not_lt_zero _)), hide (Below.refl _ _)⟩
  case round =>
    obtain ⟨k, hk, rfl, hA, hq⟩ := hrel
    by_cases hlt : k < l.length
    · have hlp := PLT.out l[k] (List.getElem_mem hlt)
      obtain ⟨bk, ok, rfl, hbk, ck⟩ := NR.at_ (Rd.below R1.out hq.out) hlt
      have hki : (k : Int) < (l.length : Int) := by omega
      have HN := hide (fun q (hq : q ∈ lu) (h : q = l[k]) => show r = true from HR.out.2 ⟨_, List.getElem_mem hlt, q, hq, h⟩)
      have HS := hide (fun (h : ∀ q ∈ lu, q ≠ l[k]) => show ∀ j (hj : j < k + 1) (hj2 : j < l.length), ∀ q ∈ lu, q ≠ l[j] from fun j hj hj2 => by
        by_cases e : j = k
        · subst e; exact h
        · exact hA.out j (by omega) hj2)
      generalize l[k] = p at *
      have B2 := hide (heap_below B1.out hq.out)
      obtain ⟨c0, c1, c2, c3⟩ := sg_cells (s := ⟨st2, wd2, bg2, sg2⟩) B2.out
      dsimp only at c0 c1 c2 c3
      go_wp2_with fail
      (with_reducible refine (PU.out _).mono ?_)
      rintro e2 w2 ⟨⟨A2, cc2, rfl, hr⟩, q2⟩
      have hq2 := hide (below_next hq.out hq.out.size q2)
      have R2 := hide hr
      clear q2 hr c0 c1 c2 c3 B2 ck hbk
      go_wp2_with fail
      go_loopw [19] (fun vj W => ∃ j : Nat, j ≤ lu.length ∧ vj = .int .i64 j ∧ Hid (∀ i (hi : i < j) (hi2 : i < lu.length), lu[i] ≠ p) ∧ w2 = W) (fun vj _ => lu.length - (intOf vj).toNat)
      case atStart => exact ⟨0, Nat.zero_le _, rfl, hide (fun j hj => absurd hj (Nat.not_lt_zero _)), rfl⟩
      case round =>
        obtain ⟨j, hj, rfl, hA2, rfl⟩ := hrel
        by_cases hjl : j < lu.length
        · have hlq := PLU.out lu[j] (List.getElem_mem hjl)
          obtain ⟨bk2, ok2, rfl, hbk2, ck2⟩ := NR.at_ R2.out hjl
          have hji : (j : Int) < (lu.length : Int) := by omega
          have HN2 := hide (fun (h : lu[j] = p) => HN.out _ (List.getElem_mem hjl) h)
          have HS2 := hide (fun (h : lu[j] ≠ p) => show ∀ i (hi : i < j + 1) (hi2 : i < lu.length), lu[i] ≠ p from fun i hi hi2 => by
            by_cases e : i = j
            · subst e; exact h
            · exact hA2.out i (by omega) hi2)
          generalize lu[j] = q at *
          by_cases hqp : q = p
          · have E := hide (HN2.out hqp)
            have e1 : ((p : Int) == (q : Int)) = true := by rw [beq_iff_eq]; omega
            have Qf := hide (below_next Q1.out Q1.out.size hq2.out)
            clear HN HS PLT HR hqp HN2 HS2
            go_wp2_with fail
            go_ret
            exact ⟨by rw [E.out]; rfl, Qf.out⟩
          · have HS3 := hide (HS2.out hqp)
            have e1 : ((p : Int) == (q : Int)) = false := by rw [beq_eq_false_iff_ne]; omega
            clear HN HS PLT HR hqp HN2 HS2
            go_wp2_with fail
            go_roundw
            case rel => exact ⟨j + 1, by omega, by go_num, HS3, trivial⟩
            case measure => simp [intOf]; omega
        · obtain rfl : j = lu.length := by omega
          have hnl : ¬ (lu.length : Int) < (lu.length : Int) := by omega
          have HS3 := hide (HS.out (fun q hq e => by
            obtain ⟨i, hi, rfl⟩ := List.mem_iff_getElem.1 hq
            exact hA2.out i hi hi e))
          clear hjl hj HN HS PLT HR
          go_wp2_with fail
          go_roundw
          case rel => exact ⟨k + 1, by omega, by go_num, HS3, hq2⟩
          case measure => simp [intOf]; omega
    · obtain rfl : k = l.length := by omega
      have hnl : ¬ (l.length : Int) < (l.length : Int) := by omega
      have E := hide (show r = false from by
        cases hr : r with
        | false => rfl
        | true =>
          obtain ⟨p, hp, q, hq, e⟩ := HR.out.1 hr
          obtain ⟨j, hj, rfl⟩ := List.mem_iff_getElem.1 hp
          exact absurd e (hA.out j hj hj q hq))
      have Qf := hide (below_next Q1.out Q1.out.size hq.out)
      clear hlt hk HR PLT
      go_wp2_with fail
      go_ret
      exact ⟨by rw [E.out]; rfl, Qf.out⟩
end Go.Proofs.Ytplpnnjjjfcibaa
