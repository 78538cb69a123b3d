/- Walks of ref14.Put, Right, Over. -/
import Derived.Test.YtnhegnneohpkaaaGreatMgCwA
import Derived.Test.YtnhegnneohpkaaaGreatMgPdE
import Derived.Test.YtnhegnneohpkaaaGreatMgSgG
import Derived.Test.YtnhegnneohpkaaaGreatMgPdX
namespace Go.Proofs.YtnhegnneohpkaaaGreat
open Go.ChangeShapes Go.WideShapes Go.ChangeAt Go.RowKit
open SG PD

theorem putN_succ (l : List UInt8) (ps : List Nat) (v : Int) (k : Nat) : putN l ps v (k + 1) = setB (putN l ps v k) (ps.getD k 0) (vbit v k) := rfl
theorem tdm (u : Int) : u = 2 * u.tdiv 2 + u.tmod 2 ∧ (0 ≤ u → 0 ≤ u.tmod 2 ∧ u.tmod 2 ≤ 1) ∧ (u ≤ 0 → -1 ≤ u.tmod 2 ∧ u.tmod 2 ≤ 0) := by
  have e := Int.mul_tdiv_add_tmod u 2
  have h1 : -2 < u.tmod 2 := Int.lt_tmod_of_pos _ (by omega)
  have h2 : u.tmod 2 < 2 := Int.tmod_lt_of_pos _ (by omega)
  refine ⟨by omega, fun h => ?_, fun h => ?_⟩
  · have := Int.tmod_nonneg 2 h; omega
  · have := Int.tmod_nonneg 2 (show 0 ≤ -u by omega)
    rw [Int.neg_tmod] at this
    omega
theorem half_next (v : Int) (k : Nat) : v / 2 ^ (k + 1) = v / 2 ^ k / 2 := by rw [Int.pow_succ, Int.ediv_ediv_of_nonneg (Int.pow_nonneg (by omega))]
theorem half_bounds {v : Int} (h1 : -9223372036854775808 ≤ v) (h2 : v < 9223372036854775808) (k : Nat) : -9223372036854775808 ≤ v / 2 ^ k ∧ v / 2 ^ k < 9223372036854775808 := by
  have hp : (0 : Int) < 2 ^ k := Int.pow_pos (by omega)
  have e := Int.emod_add_mul_ediv v (2 ^ k)
  have b1 := Int.emod_nonneg v (show (2 : Int) ^ k ≠ 0 by omega)
  constructor
  · by_cases h : 0 ≤ v / 2 ^ k
    · omega
    · have : 2 ^ k * (v / 2 ^ k) ≤ 1 * (v / 2 ^ k) := Int.mul_le_mul_of_nonpos_right (by omega) (by omega)
      have b2 := Int.emod_lt_of_pos v hp
      have h3 : -(9223372036854775808 : Int) * 2 ^ k ≤ v := by
        have : (9223372036854775808 : Int) * 1 ≤ 9223372036854775808 * 2 ^ k := Int.mul_le_mul_of_nonneg_left (by omega) (by omega)
        rw [Int.neg_mul]; omega
      exact Int.le_ediv_of_mul_le hp h3
  · have : (9223372036854775808 : Int) * 1 ≤ 9223372036854775808 * 2 ^ k := Int.mul_le_mul_of_nonneg_left (by omega) (by omega)
    exact Int.ediv_lt_of_lt_mul hp (by omega)

set_option maxRecDepth 100000 in
set_option maxHeartbeats 4000000 in
theorem refRight14_any (s : Sg) (n : Int) (w : World) (h0 : 0 ≤ n) (h8 : n ≤ 8) :
    Calls Tryz.prog 41 #[.agg #[.int .i64 s.start, .int .i64 s.width, .bool s.big, .bool s.sgn], .int .i64 n] w fun e w' => e = .returned (.bool (rightS s n)) ∧ Below w.heap.size w w' := by
  have PS := hide (fun W => refPlaces_any s W)
  obtain ⟨r, hr⟩ : ∃ r, r = rightS s n := ⟨_, rfl⟩
  rw [← hr]
  have HR := hide (show r = true ↔ plL s ≠ [] ∧ 0 ≤ n ∧ n ≤ 8 ∧ ∀ p ∈ plL s, (p : Int) < 8 * n from by rw [hr]; exact rightS_iff)
  clear hr
  have PLT := hide (fun p (hp : p ∈ plL s) => plL_lt hp)
  have hll : (plL s).length ≤ 64 := by
    by_cases h0 : plL s = []
    · rw [h0]; simp
    · have := plL_length h0; omega
  unfold RpV at PS
  generalize plL s = l at *
  obtain ⟨st, wd, bg, sg⟩ := s
  dsimp only at *
  have q0 : Below w.heap.size w (w.alloc (.cells #[.int .i64 st, .int .i64 wd, .bool bg, .bool sg] 23)) := (Below.refl _ _).alloc (Nat.le_refl _) _
  go_enter Tryz.func41, Tryz.ntmps41
  go_wp2_with fail
  (with_reducible refine (PS.out _).mono ?_)
  rintro e1 w1 ⟨⟨A, c, rfl, hr⟩, q1⟩
  have Q1 := hide (below_next q0 q0.size q1)
  have R1 := hide hr
  clear q0 q1 hr PS
  go_wp2_with fail
  go_loopw [12] (fun vi W => ∃ k : Nat, k ≤ l.length ∧ vi = .int .i64 k ∧ Hid (∀ j (hj : j < k) (hj2 : j < l.length), ((l[j] : Nat) : Int) < 8 * n) ∧ w1 = W) (fun vi _ => l.length - (intOf vi).toNat)
  case atStart => exact ⟨0, Nat.zero_le _, rfl, hide (fun j hj => absurd hj (Nat.not_lt_zero _)), rfl⟩
  case round =>
    obtain ⟨k, hk, rfl, hA, rfl⟩ := hrel
    by_cases hlt : k < l.length
    · have hlp := PLT.out l[k] (List.getElem_mem hlt)
      obtain ⟨bk, ok, rfl, hbk, ck⟩ := NR.at_ R1.out hlt
      have hki : (k : Int) < (l.length : Int) := by omega
      have HN := hide (fun (h : ¬ ((l[k] : Nat) : Int) < 8 * n) => show r = false from by
        cases hr : r with
        | false => rfl
        | true => exact absurd ((HR.out.1 hr).2.2.2 _ (List.getElem_mem hlt)) h)
      have HS := hide (fun (h : ((l[k] : Nat) : Int) < 8 * n) => show ∀ j (hj : j < k + 1) (hj2 : j < l.length), ((l[j] : Nat) : Int) < 8 * n from fun j hj hj2 => by
        by_cases e : j = k
        · subst e; exact h
        · exact hA.out j (by omega) hj2)
      generalize l[k] = p at *
      by_cases hp : (p : Int) < 8 * n
      · have HS2 := hide (HS.out hp)
        clear HN HS PLT HR
        go_wp2_with fail
        go_roundw
        case rel => exact ⟨k + 1, by omega, by go_num, HS2, trivial⟩
        case measure => simp [intOf]; omega
      · have E := hide (HN.out hp)
        clear HN HS PLT HR
        go_wp2_with fail
        go_ret
        exact ⟨by rw [E.out]; rfl, Q1.out⟩
    · obtain rfl : k = l.length := by omega
      have hnl : ¬ (l.length : Int) < (l.length : Int) := by omega
      have E := hide (show r = decide (0 < l.length) from by
        by_cases h : l = []
        · subst h
          cases hr : r with
          | false => rfl
          | true => exact absurd rfl (HR.out.1 hr).1
        · have : 0 < l.length := List.length_pos_iff.2 h
          rw [decide_eq_true this]
          refine HR.out.2 ⟨h, h0, h8, ?_⟩
          intro p hp
          obtain ⟨j, hj, rfl⟩ := List.mem_iff_getElem.1 hp
          exact hA.out j hj hj)
      clear hlt hk HR PLT
      by_cases h : 0 < l.length
      · have hi : 0 < (l.length : Int) := by omega
        have hd : decide (0 < l.length) = true := decide_eq_true h
        rw [hd] at E
        go_wp2_with fail
        go_ret
        exact ⟨by rw [E.out]; rfl, Q1.out⟩
      · have hi : ¬ 0 < (l.length : Int) := by omega
        have hd : decide (0 < l.length) = false := decide_eq_false h
        rw [hd] at E
        go_wp2_with fail
        go_ret
        exact ⟨by rw [E.out]; rfl, Q1.out⟩

def ofB (s : Sg) (a : Int) : Bool := (plL s).any fun p => (p : Int) == a
def overB (a b : Sg) : Bool := (plL a).any fun p => (plL b).any fun q => q == p

set_option maxRecDepth 100000 in
set_option maxHeartbeats 4000000 in
theorem refOf_any (s : Sg) (a : Int) (w : World) :
    Calls Tryz.prog 43 #[.agg #[.int .i64 s.start, .int .i64 s.width, .bool s.big, .bool s.sgn], .int .i64 a] w fun e w' => e = .returned (.bool (ofB s a)) ∧ Below w.heap.size w w' := by
  have PS := hide (fun W => refPlaces_any s W)
  obtain ⟨r, hr⟩ : ∃ r, r = ofB s a := ⟨_, rfl⟩
  rw [← hr]
  have HR := hide (show r = true ↔ ∃ p ∈ plL s, (p : Int) = a from by rw [hr]; unfold ofB; simp)
  clear hr
  have PLT := hide (fun p (hp : p ∈ plL s) => plL_lt hp)
  have hll : (plL s).length ≤ 64 := by
    by_cases h0 : plL s = []
    · rw [h0]; simp
    · have := plL_length h0; omega
  unfold RpV at PS
  generalize plL s = l at *
  obtain ⟨st, wd, bg, sg⟩ := s
  dsimp only at *
  have q0 : Below w.heap.size w (w.alloc (.cells #[.int .i64 st, .int .i64 wd, .bool bg, .bool sg] 23)) := (Below.refl _ _).alloc (Nat.le_refl _) _
  go_enter Tryz.func43, Tryz.ntmps43
  go_wp2_with fail
  (with_reducible refine (PS.out _).mono ?_)
  rintro e1 w1 ⟨⟨A, c, rfl, hr⟩, q1⟩
  have Q1 := hide (below_next q0 q0.size q1)
  have R1 := hide hr
  clear q0 q1 hr PS
  go_wp2_with fail
  go_loopw [10] (fun vi W => ∃ k : Nat, k ≤ l.length ∧ vi = .int .i64 k ∧ Hid (∀ j (hj : j < k) (hj2 : j < l.length), ((l[j] : Nat) : Int) ≠ a) ∧ w1 = W) (fun vi _ => l.length - (intOf vi).toNat)
  case atStart => exact ⟨0, Nat.zero_le _, rfl, hide (fun j hj => absurd hj (Nat.not_lt_zero _)), rfl⟩
  case round =>
    obtain ⟨k, hk, rfl, hA, rfl⟩ := hrel
    by_cases hlt : k < l.length
    · have hlp := PLT.out l[k] (List.getElem_mem hlt)
      obtain ⟨bk, ok, rfl, hbk, ck⟩ := NR.at_ R1.out hlt
      have hki : (k : Int) < (l.length : Int) := by omega
      have HN := hide (fun (h : ((l[k] : Nat) : Int) = a) => show r = true from HR.out.2 ⟨_, List.getElem_mem hlt, h⟩)
      have HS := hide (fun (h : ((l[k] : Nat) : Int) ≠ a) => show ∀ j (hj : j < k + 1) (hj2 : j < l.length), ((l[j] : Nat) : Int) ≠ a from fun j hj hj2 => by
        by_cases e : j = k
        · subst e; exact h
        · exact hA.out j (by omega) hj2)
      generalize l[k] = p at *
      by_cases hp : (p : Int) = a
      · have E := hide (HN.out hp)
        have e1 : ((p : Int) == a) = true := by rw [beq_iff_eq]; exact hp
        clear HN HS PLT HR hp
        go_wp2_with fail
        go_ret
        exact ⟨by rw [E.out]; rfl, Q1.out⟩
      · have HS2 := hide (HS.out hp)
        have e1 : ((p : Int) == a) = false := by rw [beq_eq_false_iff_ne]; exact hp
        clear HN HS PLT HR hp
        go_wp2_with fail
        go_roundw
        case rel => exact ⟨k + 1, by omega, by go_num, HS2, trivial⟩
        case measure => simp [intOf]; omega
    · obtain rfl : k = l.length := by omega
      have hnl : ¬ (l.length : Int) < (l.length : Int) := by omega
      have E := hide (show r = false from by
        cases hr : r with
        | false => rfl
        | true =>
          obtain ⟨p, hp, e⟩ := HR.out.1 hr
          obtain ⟨j, hj, rfl⟩ := List.mem_iff_getElem.1 hp
          exact absurd e (hA.out j hj hj))
      clear hlt hk HR PLT
      go_wp2_with fail
      go_ret
      exact ⟨by rw [E.out]; rfl, Q1.out⟩

set_option maxRecDepth 100000 in
set_option maxHeartbeats 4000000 in
theorem refOver_any (s u : Sg) (w : World) :
    Calls Tryz.prog 42 #[.agg #[.int .i64 s.start, .int .i64 s.width, .bool s.big, .bool s.sgn], .agg #[.int .i64 u.start, .int .i64 u.width, .bool u.big, .bool u.sgn]] w fun e w' => e = .returned (.bool (overB s u)) ∧ Below w.heap.size w w' := by
  have PS := hide (fun W => refPlaces_any s W)
  have PU := hide (fun W => refPlaces_any u W)
  obtain ⟨r, hr⟩ : ∃ r, r = overB s u := ⟨_, rfl⟩
  rw [← hr]
  have HR := hide (show r = true ↔ ∃ p ∈ plL s, ∃ q ∈ plL u, q = p from by rw [hr]; unfold overB; simp)
  clear hr
  have PLT := hide (fun p (hp : p ∈ plL s) => plL_lt hp)
  have PLU := hide (fun p (hp : p ∈ plL u) => plL_lt hp)
  have hll : (plL s).length ≤ 64 := by
    by_cases h0 : plL s = []
    · rw [h0]; simp
    · have := plL_length h0; omega
  have hlu : (plL u).length ≤ 64 := by
    by_cases h0 : plL u = []
    · rw [h0]; simp
    · have := plL_length h0; omega
  unfold RpV at PS PU
  generalize plL s = l at *
  generalize plL u = lu at *
  obtain ⟨st, wd, bg, sg⟩ := s
  obtain ⟨st2, wd2, bg2, sg2⟩ := u
  dsimp only at *
  obtain ⟨w0, hw0⟩ : ∃ w0, w0 = (w.alloc (.cells #[.int .i64 st, .int .i64 wd, .bool bg, .bool sg] 23)).alloc (.cells #[.int .i64 st2, .int .i64 wd2, .bool bg2, .bool sg2] 23) := ⟨_, rfl⟩
  have q0 : Below w.heap.size w w0 := by rw [hw0]; exact ((Below.refl _ _).alloc (Nat.le_refl _) _).alloc (by simp) _
  have B0 : Hid (w0.heap[w.heap.size + 1]? = some (.cells #[.int .i64 st2, .int .i64 wd2, .bool bg2, .bool sg2] 23 (0, 0))) := by
    rw [hw0]
    have := World.alloc_heap_new (w.alloc (.cells #[.int .i64 st, .int .i64 wd, .bool bg, .bool sg] 23)) (.cells #[.int .i64 st2, .int .i64 wd2, .bool bg2, .bool sg2] 23)
    simp only [World.size_alloc] at this
    exact hide this
  have C0 : Hid (w0.heap[w.heap.size]? = some (.cells #[.int .i64 st, .int .i64 wd, .bool bg, .bool sg] 23 (0, 0))) := by
    rw [hw0]
    exact hide (heap_below (World.alloc_heap_new w _) ((Below.refl _ _).alloc (Nat.le_refl _) _))
  obtain ⟨c0, c1, c2, c3⟩ := sg_cells (s := ⟨st, wd, bg, sg⟩) C0.out
  dsimp only at c0 c1 c2 c3
  go_enter Tryz.func42, Tryz.ntmps42
  go_upto_region 1 with fail
  rw [← hw0]
  clear hw0
  go_wp2_with fail
  (with_reducible refine (PS.out _).mono ?_)
  rintro e1 w1 ⟨⟨A, c, rfl, hr⟩, q1⟩
  have Q1 := hide (below_next q0 q0.size q1)
  have R1 := hide hr
  have B1 := hide (heap_below B0.out q1)
  clear q0 q1 hr PS B0 C0 c0 c1 c2 c3
  go_wp2_with fail
  go_loopw [12] (fun vi W => ∃ k : Nat, k ≤ l.length ∧ vi = .int .i64 k ∧ Hid (∀ j (hj : j < k) (hj2 : j < l.length), ∀ q ∈ lu, q ≠ l[j]) ∧ Hid (Below w1.heap.size w1 W)) (fun vi _ => l.length - (intOf vi).toNat)
  case atStart => exact ⟨0, Nat.zero_le _, rfl, hide (fun j hj => absurd hj (Nat.not_lt_zero _)), hide (Below.refl _ _)⟩
  case round =>
    obtain ⟨k, hk, rfl, hA, hq⟩ := hrel
    by_cases hlt : k < l.length
    · have hlp := PLT.out l[k] (List.getElem_mem hlt)
      obtain ⟨bk, ok, rfl, hbk, ck⟩ := NR.at_ (Rd.below R1.out hq.out) hlt
      have hki : (k : Int) < (l.length : Int) := by omega
      have HN := hide (fun q (hq : q ∈ lu) (h : q = l[k]) => show r = true from HR.out.2 ⟨_, List.getElem_mem hlt, q, hq, h⟩)
      have HS := hide (fun (h : ∀ q ∈ lu, q ≠ l[k]) => show ∀ j (hj : j < k + 1) (hj2 : j < l.length), ∀ q ∈ lu, q ≠ l[j] from fun j hj hj2 => by
        by_cases e : j = k
        · subst e; exact h
        · exact hA.out j (by omega) hj2)
      generalize l[k] = p at *
      have B2 := hide (heap_below B1.out hq.out)
      obtain ⟨c0, c1, c2, c3⟩ := sg_cells (s := ⟨st2, wd2, bg2, sg2⟩) B2.out
      dsimp only at c0 c1 c2 c3
      go_wp2_with fail
      (with_reducible refine (PU.out _).mono ?_)
      rintro e2 w2 ⟨⟨A2, cc2, rfl, hr⟩, q2⟩
      have hq2 := hide (below_next hq.out hq.out.size q2)
      have R2 := hide hr
      clear q2 hr c0 c1 c2 c3 B2 ck hbk
      go_wp2_with fail
      go_loopw [19] (fun vj W => ∃ j : Nat, j ≤ lu.length ∧ vj = .int .i64 j ∧ Hid (∀ i (hi : i < j) (hi2 : i < lu.length), lu[i] ≠ p) ∧ w2 = W) (fun vj _ => lu.length - (intOf vj).toNat)
      case atStart => exact ⟨0, Nat.zero_le _, rfl, hide (fun j hj => absurd hj (Nat.not_lt_zero _)), rfl⟩
      case round =>
        obtain ⟨j, hj, rfl, hA2, rfl⟩ := hrel
        by_cases hjl : j < lu.length
        · have hlq := PLU.out lu[j] (List.getElem_mem hjl)
          obtain ⟨bk2, ok2, rfl, hbk2, ck2⟩ := NR.at_ R2.out hjl
          have hji : (j : Int) < (lu.length : Int) := by omega
          have HN2 := hide (fun (h : lu[j] = p) => HN.out _ (List.getElem_mem hjl) h)
          have HS2 := hide (fun (h : lu[j] ≠ p) => show ∀ i (hi : i < j + 1) (hi2 : i < lu.length), lu[i] ≠ p from fun i hi hi2 => by
            by_cases e : i = j
            · subst e; exact h
            · exact hA2.out i (by omega) hi2)
          generalize lu[j] = q at *
          by_cases hqp : q = p
          · have E := hide (HN2.out hqp)
            have e1 : ((p : Int) == (q : Int)) = true := by rw [beq_iff_eq]; omega
            have Qf := hide (below_next Q1.out Q1.out.size hq2.out)
            clear HN HS PLT HR hqp HN2 HS2
            go_wp2_with fail
            go_ret
            exact ⟨by rw [E.out]; rfl, Qf.out⟩
          · have HS3 := hide (HS2.out hqp)
            have e1 : ((p : Int) == (q : Int)) = false := by rw [beq_eq_false_iff_ne]; omega
            clear HN HS PLT HR hqp HN2 HS2
            go_wp2_with fail
            go_roundw
            case rel => exact ⟨j + 1, by omega, by go_num, HS3, trivial⟩
            case measure => simp [intOf]; omega
        · obtain rfl : j = lu.length := by omega
          have hnl : ¬ (lu.length : Int) < (lu.length : Int) := by omega
          have HS3 := hide (HS.out (fun q hq e => by
            obtain ⟨i, hi, rfl⟩ := List.mem_iff_getElem.1 hq
            exact hA2.out i hi hi e))
          clear hjl hj HN HS PLT HR
          go_wp2_with fail
          go_roundw
          case rel => exact ⟨k + 1, by omega, by go_num, HS3, hq2⟩
          case measure => simp [intOf]; omega
    · obtain rfl : k = l.length := by omega
      have hnl : ¬ (l.length : Int) < (l.length : Int) := by omega
      have E := hide (show r = false from by
        cases hr : r with
        | false => rfl
        | true =>
          obtain ⟨p, hp, q, hq, e⟩ := HR.out.1 hr
          obtain ⟨j, hj, rfl⟩ := List.mem_iff_getElem.1 hp
          exact absurd e (hA.out j hj hj q hq))
      have Qf := hide (below_next Q1.out Q1.out.size hq.out)
      clear hlt hk HR PLT
      go_wp2_with fail
      go_ret
      exact ⟨by rw [E.out]; rfl, Qf.out⟩
end Go.Proofs.YtnhegnneohpkaaaGreat

/- Walks of ref14.Get, ref15.Right. -/
namespace Go.Proofs.YtnhegnneohpkaaaGreat
open Go.ChangeShapes Go.WideShapes Go.ChangeAt Go.RowKit
open SG PD

theorem getN_cons (d : List UInt8) (p : Nat) (ps : List Nat) : ∀ k, getN d (p :: ps) (k + 1) = (if bitL d p then 1 else 0) + 2 * getN d ps k
  | 0 => by simp [getN]
  | k + 1 => by
    have ih := getN_cons d p ps k
    rw [getN, ih, getN, List.getD_cons_succ, Nat.pow_succ]
    by_cases h : bitL d (ps.getD k 0) = true
    · rw [if_pos h, if_pos h]; omega
    · rw [if_neg h, if_neg h]; omega
/-- The number of the bits from the i-th on. -/
def gHi (d : List UInt8) (l : List Nat) (b : Bool) (i : Nat) : Int := sgnI (getN d (l.drop i) (l.length - i)) (l.length - i) b
theorem gHi_end (d : List UInt8) (l : List Nat) (b : Bool) : gHi d l b l.length = 0 := by
  unfold gHi
  rw [Nat.sub_self]
  unfold sgnI
  rw [if_neg (by simp [getN])]
  simp [getN]
theorem gHi_step (d : List UInt8) (l : List Nat) (b : Bool) {i : Nat} (hi : i < l.length) : gHi d l b i = if i + 1 = l.length ∧ b = true ∧ bitL d l[i] = true then -1 else 2 * gHi d l b (i + 1) + if bitL d l[i] then 1 else 0 := by
  unfold gHi
  rw [List.drop_eq_getElem_cons hi]
  obtain ⟨m, hm⟩ : ∃ m, l.length - i = m + 1 := ⟨l.length - i - 1, by omega⟩
  rw [hm, getN_cons, show l.length - (i + 1) = m by omega]
  have hN := getN_lt d (l.drop (i + 1)) m
  generalize getN d (l.drop (i + 1)) m = N at *
  unfold sgnI
  rw [Nat.add_sub_cancel]
  cases m with
  | zero =>
    have hN0 : N = 0 := by simpa using hN
    subst hN0
    have hil : i + 1 = l.length := by omega
    cases bitL d l[i] <;> cases b <;> simp [hil]
  | succ k =>
    have hcn : ¬ (i + 1 = l.length ∧ b = true ∧ bitL d l[i] = true) := fun h => by omega
    rw [if_neg hcn, Nat.add_sub_cancel]
    have hc : ((2 ^ (k + 1) : Nat) : Int) = 2 ^ (k + 1) := by simp
    have e1 : (2 : Int) ^ (k + 1 + 1) = 2 ^ (k + 1) * 2 := Int.pow_succ _ _
    have e2 : (2 : Nat) ^ (k + 1) = 2 ^ k * 2 := Nat.pow_succ _ _
    have hx : (if bitL d l[i] = true then 1 else 0 : Nat) ≤ 1 := by split <;> omega
    have hx2 : ((if bitL d l[i] = true then 1 else 0 : Nat) : Int) = (if bitL d l[i] = true then 1 else 0 : Int) := by split <;> rfl
    rw [← hx2]
    generalize (if bitL d l[i] = true then 1 else 0 : Nat) = x at *
    by_cases h : b = true ∧ 2 ^ k ≤ N
    · have h' : b = true ∧ 2 ^ (k + 1) ≤ x + 2 * N := ⟨h.1, by omega⟩
      rw [if_pos h, if_pos h', e1]; omega
    · have h' : ¬ (b = true ∧ 2 ^ (k + 1) ≤ x + 2 * N) := fun h2 => h ⟨h2.1, by omega⟩
      rw [if_neg h, if_neg h']; omega
theorem gHi_bounds (d : List UInt8) (l : List Nat) (b : Bool) (i : Nat) (hl : l.length ≤ 64) (hb : l.length = 64 → b = true) : -9223372036854775808 ≤ gHi d l b i ∧ gHi d l b i < 9223372036854775808 := by
  unfold gHi
  have hN := getN_lt d (l.drop i) (l.length - i)
  generalize hm : l.length - i = m at *
  generalize getN d (l.drop i) m = N at *
  unfold sgnI
  match m, hm, hN with
  | 0, _, hN =>
    have hN0 : N = 0 := by simpa using hN
    subst hN0
    simp
  | k + 1, hm, hN =>
    rw [Nat.add_sub_cancel]
    have hk : k ≤ 63 := by omega
    have hp : 2 ^ k ≤ 2 ^ 63 := Nat.pow_le_pow_right (by omega) hk
    have e2 : (2 : Nat) ^ (k + 1) = 2 ^ k * 2 := Nat.pow_succ _ _
    have e1 : (2 : Int) ^ (k + 1) = ((2 ^ k : Nat) : Int) * 2 := by rw [Int.pow_succ]; simp
    by_cases h : b = true ∧ 2 ^ k ≤ N
    · rw [if_pos h, e1]; omega
    · rw [if_neg h]
      by_cases hb2 : b = true
      · have : N < 2 ^ k := by
          rcases Nat.lt_or_ge N (2 ^ k) with h3 | h3
          · exact h3
          · exact absurd ⟨hb2, h3⟩ h
        omega
      · have : k ≤ 62 := by
          rcases Nat.lt_or_ge k 63 with h3 | h3
          · omega
          · exact absurd (hb (by omega)) hb2
        have hp2 : 2 ^ (k + 1) ≤ 2 ^ 63 := Nat.pow_le_pow_right (by omega) (by omega)
        omega

end Go.Proofs.YtnhegnneohpkaaaGreat

/- Which layouts may be, by places that are apart one by one: the document's way. Plain. -/
namespace Go.Proofs.YtnhegnneohpkaaaGreat
open SG PD

theorem overB_iff {a b : Sg} : overB a b = true ↔ ∃ p, p ∈ plL a ∧ p ∈ plL b := by
  unfold overB
  simp only [List.any_eq_true, beq_iff_eq]
  constructor
  · rintro ⟨p, hp, q, hq, rfl⟩; exact ⟨q, hp, hq⟩
  · rintro ⟨p, hp, hq⟩; exact ⟨p, hp, p, hq, rfl⟩
theorem ofB_iff {s : Sg} {a : Int} : ofB s a = true ↔ ∃ p ∈ plL s, (p : Int) = a := by
  unfold ofB; simp
def good1 (L : Ly) (i : Nat) : Prop := rightS (L.sgs.getD i dflt) L.size = true ∧ -1 ≤ L.nws.getD i 0 ∧ L.nws.getD i 0 < 8 * L.size
def bad2 (L : Ly) (i k : Nat) : Prop := (k < i ∧ overB (L.sgs.getD i dflt) (L.sgs.getD k dflt) = true) ∨ (0 ≤ L.nws.getD i 0 ∧ (ofB (L.sgs.getD k dflt) (L.nws.getD i 0) = true ∨ (k < i ∧ L.nws.getD k 0 = L.nws.getD i 0)))
theorem getD_at {α : Type} {l : List α} {i : Nat} (d : α) (hi : i < l.length) : l.getD i d = l[i] := by rw [List.getD_eq_getElem?_getD, List.getElem?_eq_getElem hi]; rfl
theorem right_good1 {L : Ly} (h : rightB L = true) {i : Nat} (hi : i < L.sgs.length) : good1 L i := by
  have hr := right_iff.1 h
  have hn : i < L.nws.length := by rw [hr.2.2.2.1]; exact hi
  unfold good1
  rw [getD_at _ hi, getD_at _ hn]
  exact ⟨hr.2.2.2.2.1 _ (List.getElem_mem hi), hr.2.2.2.2.2.1 _ (List.getElem_mem hn)⟩
theorem right_bad2 {L : Ly} (h : rightB L = true) {i k : Nat} (hi : i < L.sgs.length) (hk : k < L.sgs.length) : ¬ bad2 L i k := by
  have hr := right_iff.1 h
  have hin : i < L.nws.length := by rw [hr.2.2.2.1]; exact hi
  have hkn : k < L.nws.length := by rw [hr.2.2.2.1]; exact hk
  unfold bad2
  rw [getD_at _ hi, getD_at _ hk, getD_at _ hin, getD_at _ hkn]
  rintro (⟨h1, h2⟩ | ⟨h0, h1 | ⟨h1, h2⟩⟩)
  · obtain ⟨p, hp, hq⟩ := overB_iff.1 h2
    exact apart h (by omega : i ≠ k) hi hk hp hq
  · obtain ⟨p, hp, e⟩ := ofB_iff.1 h1
    exact apart_new h hk hin hp e.symm
  · exact apart_news h (by omega : k ≠ i) hkn hin (by omega) h2
theorem flat_le {p : Nat} : ∀ {l : List Sg}, (∀ (i k : Nat) (hi : i < l.length) (hk : k < i), ¬ (p ∈ plL l[i] ∧ p ∈ plL (l[k]'(by omega)))) → (l.flatMap plL).count p ≤ 1
  | [], _ => by simp
  | x :: l, h => by
    rw [List.flatMap_cons, List.count_append]
    have ih := flat_le (l := l) (fun i k hi hk => by
      have := h (i + 1) (k + 1) (by simpa using hi) (by omega)
      simpa using this)
    have hx : (plL x).count p ≤ 1 := List.nodup_iff_count.1 (plL_nodup x) p
    by_cases hp : p ∈ plL x
    · have h0 : (l.flatMap plL).count p = 0 := by
        rw [List.count_eq_zero]
        intro hm
        obtain ⟨y, hy, hpy⟩ := List.mem_flatMap.1 hm
        obtain ⟨i, hi, rfl⟩ := List.mem_iff_getElem.1 hy
        have := h (i + 1) 0 (by simpa using hi) (by omega)
        exact this ⟨by simpa using hpy, by simpa using hp⟩
      omega
    · have h0 : (plL x).count p = 0 := List.count_eq_zero.2 hp
      omega
theorem countP_le {p : Int} : ∀ {l : List Int}, (∀ (i k : Nat) (hi : i < l.length) (hk : k < i), ¬ (l[i] = p ∧ l[k]'(by omega) = p)) → l.countP (fun a => a == p) ≤ 1
  | [], _ => by simp
  | x :: l, h => by
    have ih := countP_le (l := l) (fun i k hi hk => by
      have := h (i + 1) (k + 1) (by simpa using hi) (by omega)
      simpa using this)
    rw [List.countP_cons]
    by_cases hp : x = p
    · have h0 : l.countP (fun a => a == p) = 0 := by
        rw [List.countP_eq_zero]
        intro y hy e
        obtain ⟨i, hi, rfl⟩ := List.mem_iff_getElem.1 hy
        have := h (i + 1) 0 (by simpa using hi) (by omega)
        exact this ⟨by simpa using e, by simpa using hp⟩
      rw [h0]; split <;> omega
    · rw [if_neg (by simpa using hp)]; exact ih
theorem right_of {L : Ly} (h1 : 0 ≤ L.size) (h2 : L.size ≤ 8) (h3 : L.sgs.length ≤ 16) (h4 : L.nws.length = L.sgs.length) (hg : ∀ i, i < L.sgs.length → good1 L i) (hb : ∀ i k, i < L.sgs.length → k < L.sgs.length → ¬ bad2 L i k) : rightB L = true := by
  have hover : ∀ (i k : Nat) (hi : i < L.sgs.length) (hk : k < i) (p : Nat), ¬ (p ∈ plL L.sgs[i] ∧ p ∈ plL (L.sgs[k]'(by omega))) := fun i k hi hk p hh => by
    refine hb i k hi (by omega) (.inl ⟨hk, ?_⟩)
    rw [getD_at _ hi, getD_at _ (show k < L.sgs.length by omega)]
    exact overB_iff.2 ⟨p, hh⟩
  have hnew : ∀ (i k : Nat) (hi : i < L.nws.length) (hk : k < i) (p : Nat), ¬ (L.nws[i] = (p : Int) ∧ L.nws[k]'(by omega) = (p : Int)) := fun i k hi hk p hh => by
    refine hb i k (by omega) (by omega) (.inr ⟨?_, .inr ⟨hk, ?_⟩⟩)
    · rw [getD_at _ hi]; omega
    · rw [getD_at _ hi, getD_at _ (show k < L.nws.length by omega)]; omega
  have hof : ∀ (i k : Nat) (hi : i < L.nws.length) (hk : k < L.sgs.length) (p : Nat), ¬ (p ∈ plL L.sgs[k] ∧ L.nws[i] = (p : Int)) := fun i k hi hk p hh => by
    refine hb i k (by omega) hk (.inr ⟨?_, .inl ?_⟩)
    · rw [getD_at _ hi]; omega
    · rw [getD_at _ hi, getD_at _ hk]
      exact ofB_iff.2 ⟨p, hh.1, hh.2.symm⟩
  refine right_iff.2 ⟨h1, h2, h3, h4, ?_, ?_, ?_⟩
  · intro s hs
    obtain ⟨i, hi, rfl⟩ := List.mem_iff_getElem.1 hs
    have := (hg i hi).1
    rw [getD_at _ hi] at this
    exact this
  · intro a ha
    obtain ⟨i, hi, rfl⟩ := List.mem_iff_getElem.1 ha
    have := (hg i (by omega)).2
    rw [getD_at _ hi] at this
    exact this
  · intro p _
    unfold cntL
    have c1 := flat_le (p := p) (l := L.sgs) (fun i k hi hk => hover i k hi hk p)
    have c2 := countP_le (p := (p : Int)) (l := L.nws) (fun i k hi hk => hnew i k hi hk p)
    by_cases h0 : (L.sgs.flatMap plL).count p = 0
    · omega
    · have hm := List.count_pos_iff.1 (show 0 < (L.sgs.flatMap plL).count p by omega)
      obtain ⟨s, hs, hp⟩ := List.mem_flatMap.1 hm
      obtain ⟨k, hk, rfl⟩ := List.mem_iff_getElem.1 hs
      have : L.nws.countP (fun a => a == (p : Int)) = 0 := by
        rw [List.countP_eq_zero]
        intro y hy e
        obtain ⟨i, hi, rfl⟩ := List.mem_iff_getElem.1 hy
        exact hof i k hi hk p ⟨hp, by simpa using e⟩
      omega
end Go.Proofs.YtnhegnneohpkaaaGreat
