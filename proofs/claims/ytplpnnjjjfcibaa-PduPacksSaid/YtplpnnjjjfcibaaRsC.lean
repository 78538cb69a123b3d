/- Walks of ref14.Get, ref15.Right. -/
import Derived.Test.YtplpnnjjjfcibaaRsB
import Derived.Test.YtplpnnjjjfcibaaPdY
namespace Go.Proofs.Ytplpnnjjjfcibaa
open Go.ChangeShapes Go.WideShapes Go.ChangeAt Go.RowKit
open SG PD

theorem getN_cons (d : List UInt8) (p : Nat) (ps : List Nat) : ∀ k, getN d (p :: ps) (k + 1) = (if bitL d p then 1 else 0) + 2 * getN d ps k
  | 0 => by simp [getN]
  | k + 1 => by
    have ih := getN_cons d p ps k
    rw [getN, ih, getN, List.getD_cons_succ, Nat.pow_succ]
    by_cases h : bitL d (ps.getD k 0) = true
    · rw [if_pos h, if_pos h]; omega
    · rw [if_neg h, if_neg h]; omega
/-- The number of the bits from the i-th on. -/
def gHi (d : List UInt8) (l : List Nat) (b : Bool) (i : Nat) : Int := sgnI (getN d (l.drop i) (l.length - i)) (l.length - i) b
theorem gHi_end (d : List UInt8) (l : List Nat) (b : Bool) : gHi d l b l.length = 0 := by
  unfold gHi
  rw [Nat.sub_self]
  unfold sgnI
  rw [if_neg (by simp [getN])]
  simp [getN]
theorem gHi_step (d : List UInt8) (l : List Nat) (b : Bool) {i : Nat} (hi : i < l.length) : gHi d l b i = if i + 1 = l.length ∧ b = true ∧ bitL d l[i] = true then -1 else 2 * gHi d l b (i + 1) + if bitL d l[i] then 1 else 0 := by
  unfold gHi
  rw [List.drop_eq_getElem_cons hi]
  obtain ⟨m, hm⟩ : ∃ m, l.length - i = m + 1 := ⟨l.length - i - 1, by omega⟩
  rw [hm, getN_cons, show l.length - (i + 1) = m by omega]
  have hN := getN_lt d (l.drop (i + 1)) m
  generalize getN d (l.drop (i + 1)) m = N at *
  unfold sgnI
  rw [Nat.add_sub_cancel]
  cases m with
  | zero =>
    have hN0 : N = 0 := by simpa using hN
    subst hN0
    have hil : i + 1 = l.length := by omega
    cases bitL d l[i] <;> cases b <;> simp [hil]
  | succ k =>
    have hcn : ¬ (i + 1 = l.length ∧ b = true ∧ bitL d l[i] = true) := fun h => by omega
    rw [if_neg hcn, Nat.add_sub_cancel]
    have hc : ((2 ^ (k + 1) : Nat) : Int) = 2 ^ (k + 1) := by simp
    have e1 : (2 : Int) ^ (k + 1 + 1) = 2 ^ (k + 1) * 2 := Int.pow_succ _ _
    have e2 : (2 : Nat) ^ (k + 1) = 2 ^ k * 2 := Nat.pow_succ _ _
    have hx : (if bitL d l[i] = true then 1 else 0 : Nat) ≤ 1 := by split <;> omega
    have hx2 : ((if bitL d l[i] = true then 1 else 0 : Nat) : Int) = (if bitL d l[i] = true then 1 else 0 : Int) := by split <;> rfl
    rw [← hx2]
    generalize (if bitL d l[i] = true then 1 else 0 : Nat) = x at *
    by_cases h : b = true ∧ 2 ^ k ≤ N
    · have h' : b = true ∧ 2 ^ (k + 1) ≤ x + 2 * N := ⟨h.1, by omega⟩
      rw [if_pos h, if_pos h', e1]; omega
    · have h' : ¬ (b = true ∧ 2 ^ (k + 1) ≤ x + 2 * N) := fun h2 => h ⟨h2.1, by omega⟩
      rw [if_neg h, if_neg h']; omega
theorem gHi_bounds (d : List UInt8) (l : List Nat) (b : Bool) (i : Nat) (hl : l.length ≤ 64) (hb : l.length = 64 → b = true) : -9223372036854775808 ≤ gHi d l b i ∧ gHi d l b i < 9223372036854775808 := by
  unfold gHi
  have hN := getN_lt d (l.drop i) (l.length - i)
  generalize hm : l.length - i = m at *
  generalize getN d (l.drop i) m = N at *
  unfold sgnI
  match m, hm, hN with
  | 0, _, hN =>
    have hN0 : N = 0 := by simpa using hN
    subst hN0
    simp
  | k + 1, hm, hN =>
    rw [Nat.add_sub_cancel]
    have hk : k ≤ 63 := by omega
    have hp : 2 ^ k ≤ 2 ^ 63 := Nat.pow_le_pow_right (by omega) hk
    have e2 : (2 : Nat) ^ (k + 1) = 2 ^ k * 2 := Nat.pow_succ _ _
    have e1 : (2 : Int) ^ (k + 1) = ((2 ^ k : Nat) : Int) * 2 := by rw [Int.pow_succ]; simp
    by_cases h : b = true ∧ 2 ^ k ≤ N
    · rw [if_pos h, e1]; omega
    · rw [if_neg h]
      by_cases hb2 : b = true
      · have : N < 2 ^ k := by
          rcases Nat.lt_or_ge N (2 ^ k) with h3 | h3
          · exact h3
          · exact absurd ⟨hb2, h3⟩ h
        omega
      · have : k ≤ 62 := by
          rcases Nat.lt_or_ge k 63 with h3 | h3
          · omega
          · exact absurd (hb (by omega)) hb2
        have hp2 : 2 ^ (k + 1) ≤ 2 ^ 63 := Nat.pow_le_pow_right (by omega) (by omega)
        omega

set_option maxRecDepth 100000 in
set_option maxHeartbeats 4000000 in
theorem refGet_any (d : ByteArray) (s : Sg) (w : World) (hd : d.size ≤ 8) (hpl : ∀ p ∈ plL s, p < 8 * d.size) (hne : plL s ≠ []) :
    Calls Try.prog 54 #[.string d, .agg #[.int .i64 s.start, .int .i64 s.width, .bool s.big, .bool s.sgn]] w fun e w' => e = .returned (.int .i64 (getF d.data.toList s)) ∧ Below w.heap.size w w' := by
  have PS := hide (fun W => refPlaces_any s W)
  have HP := hide hpl
  have PF := hide (show getF d.data.toList s = gHi d.data.toList (plL s) s.sgn 0 from rfl)
  obtain ⟨hll, hw1, hw2⟩ := plL_length hne
  have hm := (may_iff.1 (plL_may hne).1).2.2.2.2
  have hl64 : (plL s).length ≤ 64 := by omega
  have hl1 : 1 ≤ (plL s).length := by omega
  have GB := hide (fun i => gHi_bounds d.data.toList (plL s) s.sgn i hl64 (fun e => by
    cases hs : s.sgn with
    | true => rfl
    | false => exact absurd ⟨by omega, hs⟩ hm))
  have GE := hide (gHi_end d.data.toList (plL s) s.sgn)
  have GS := hide (fun i (hi : i < (plL s).length) => gHi_step d.data.toList (plL s) s.sgn hi)
  rw [PF.out]
  clear PF hpl hll hw1 hw2 hm hne
  unfold RpV at PS
  generalize plL s = l at *
  obtain ⟨st, wd, bg, sg⟩ := s
  dsimp only at *
  have q0 : Below w.heap.size w (w.alloc (.cells #[.int .i64 st, .int .i64 wd, .bool bg, .bool sg] 36)) := (Below.refl _ _).alloc (Nat.le_refl _) _
  have B0 := hide (World.alloc_heap_new w (.cells #[.int .i64 st, .int .i64 wd, .bool bg, .bool sg] 36))
  go_enter Try.func54, Try.ntmps54
  go_wp2_with fail
  (with_reducible refine (PS.out _).mono ?_)
  rintro e1 w1 ⟨⟨A, c, rfl, hr⟩, q1⟩
  have Q1 := hide (below_next q0 q0.size q1)
  have B1 := hide (heap_below B0.out q1)
  have R1 := hide hr
  clear q0 q1 hr PS B0
  obtain ⟨c0, c1, c2, c3⟩ := sg_cells (s := ⟨st, wd, bg, sg⟩) B1.out
  dsimp only at c0 c1 c2 c3
  go_wp2_with fail
  go_loopw [6, 7] (fun vn vi W => ∃ k : Nat, k ≤ l.length ∧ vi = .int .i64 ((k : Int) - 1) ∧ vn = .int .i64 (gHi d.data.toList l sg k) ∧ w1 = W) (fun _ vi _ => (intOf vi + 1).toNat)
  case atStart => exact ⟨l.length, Nat.le_refl _, rfl, by rw [GE.out], rfl⟩
  case round =>
    obtain ⟨k, hk, rfl, rfl, rfl⟩ := hrel
    cases k with
    | zero =>
      go_wp2_with fail
      go_ret
      exact ⟨by simp, Q1.out⟩
    | succ k =>
      have hkl : k < l.length := by omega
      have hp := HP.out l[k] (List.getElem_mem hkl)
      have gs := GS.out k hkl
      have g1 := GB.out (k + 1)
      have g0 := GB.out k
      obtain ⟨x0, hx0⟩ : ∃ x0, x0 = gHi d.data.toList l sg k := ⟨_, rfl⟩
      rw [← hx0] at gs g0
      have HX0 := hide hx0
      have RB := hide (fun W => refBit_any d l[k] W (by omega) (by omega))
      obtain ⟨bk, ok, hAe, hbk, ck⟩ := NR.at_ R1.out hkl
      subst hAe
      have hki : (k : Int) < (l.length : Int) := by omega
      have hkc : ((k + 1 : Nat) : Int) - 1 = (k : Int) := by omega
      rw [hkc]
      have hx1 : k + 1 = l.length → gHi d.data.toList l sg (k + 1) = 0 := fun e => by rw [e]; exact GE.out
      generalize gHi d.data.toList l sg (k + 1) = x1 at *
      generalize bitL d.data.toList l[k] = b at *
      generalize l[k] = p at *
      clear hx0 HP GB hkc
      obtain ⟨bi, hbi⟩ : ∃ bi : Int, bi = if b = true then 1 else 0 := ⟨_, rfl⟩
      rw [← hbi] at gs RB
      have hb1 : 0 ≤ bi ∧ bi ≤ 1 := by rw [hbi]; split <;> omega
      have HBI := hide hbi
      have GSH := hide gs
      by_cases hlast : k + 1 = l.length
      · have hx2 := hx1 hlast
        subst hx2
        have e1 : ((k : Int) == (l.length : Int) - 1) = true := by rw [beq_iff_eq]; omega
        have EB : bi = 1 ∧ b = true ∨ bi = 0 ∧ b = false := by rw [hbi]; cases b <;> simp
        clear gs hbi hx1
        rcases EB with ⟨rfl, rfl⟩ | ⟨rfl, rfl⟩
        · cases sg with
          | true =>
            have gs2 : Hid (x0 = -1) := hide (by rw [GSH.out, if_pos ⟨hlast, rfl, rfl⟩])
            clear GSH GS hlast
            go_wp2_with fail
            (with_reducible refine (RB.out _).mono ?_)
            rintro e2 w2 ⟨rfl, rfl⟩
            go_wp2_with fail
            go_roundw
            case rel => exact ⟨k, by omega, rfl, by rw [← HX0.out, gs2.out], trivial⟩
            case measure => simp [intOf]
          | false =>
            have gs2 : Hid (x0 = 1) := hide (by rw [GSH.out, if_neg (by simp)]; rfl)
            clear GSH GS hlast
            go_wp2_with fail
            (with_reducible refine (RB.out _).mono ?_)
            rintro e2 w2 ⟨rfl, rfl⟩
            go_wp2_with fail
            go_roundw
            case rel => exact ⟨k, by omega, rfl, by rw [← HX0.out, gs2.out], trivial⟩
            case measure => simp [intOf]
        · have gs2 : Hid (x0 = 0) := hide (by rw [GSH.out, if_neg (by simp)]; rfl)
          clear GSH GS hlast
          cases sg with
          | true =>
            go_wp2_with fail
            (with_reducible refine (RB.out _).mono ?_)
            rintro e2 w2 ⟨rfl, rfl⟩
            go_wp2_with fail
            go_roundw
            case rel => exact ⟨k, by omega, rfl, by rw [← HX0.out, gs2.out], trivial⟩
            case measure => simp [intOf]
          | false =>
            go_wp2_with fail
            (with_reducible refine (RB.out _).mono ?_)
            rintro e2 w2 ⟨rfl, rfl⟩
            go_wp2_with fail
            go_roundw
            case rel => exact ⟨k, by omega, rfl, by rw [← HX0.out, gs2.out], trivial⟩
            case measure => simp [intOf]
      · have gs2 : x0 = 2 * x1 + bi := by rw [GSH.out, if_neg (fun h => hlast h.1)]
        have e1 : ((k : Int) == (l.length : Int) - 1) = false := by rw [beq_eq_false_iff_ne]; omega
        have EW := hide (show wrap64 (wrap64 (2 * x1) + bi) = x0 by unfold wrap64; omega)
        clear gs hbi GSH GS gs2 hx1
        go_wp2_with fail
        (with_reducible refine (RB.out _).mono ?_)
        rintro e2 w2 ⟨rfl, rfl⟩
        go_wp2_with fail
        go_roundw
        case rel => exact ⟨k, by omega, rfl, by rw [← HX0.out, EW.out], trivial⟩
        case measure => simp [intOf]
end Go.Proofs.Ytplpnnjjjfcibaa
