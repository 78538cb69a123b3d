/- Walks of ref14.Power, Fits, With, Put. -/
import Derived.Test.YtplpnnjjjfcibaaSgG
namespace Go.Proofs.Ytplpnnjjjfcibaa
open Go.ChangeShapes Go.WideShapes Go.ChangeAt Go.RowKit
open SG

set_option maxRecDepth 100000 in
theorem refPower_any (n : Nat) (w : World) (hn : n ≤ 62) : Calls Try.prog 84 #[.int .i64 n] w fun e w' => e = .returned (.int .i64 ((2 : Int) ^ n)) ∧ w = w' := by
  go_enter Try.func84, Try.ntmps84
  go_wp2_with fail
  go_loopw [3, 4] (fun vp vi W => ∃ i : Nat, i ≤ n ∧ vi = .int .i64 i ∧ vp = .int .i64 ((2 : Int) ^ i) ∧ w = W) (fun _ vi _ => n - (intOf vi).toNat)
  case atStart => exact ⟨0, Nat.zero_le _, rfl, rfl, rfl⟩
  case round =>
    obtain ⟨i, hi, rfl, rfl, rfl⟩ := hrel
    by_cases hlt : i < n
    · have hni : (i : Int) < (n : Int) := by omega
      have NX := hide (show (2 : Int) * 2 ^ i = 2 ^ (i + 1) by rw [Int.pow_succ]; omega)
      have h1 : (2 : Int) ^ i ≤ 2 ^ 61 := by
        have : (2 : Nat) ^ i ≤ 2 ^ 61 := Nat.pow_le_pow_right (by omega) (by omega)
        exact_mod_cast this
      have h0 : (0 : Int) < 2 ^ i := Int.pow_pos (by omega)
      have h2 : (2 : Int) ^ i ≤ 2305843009213693952 := h1
      clear h1
      generalize (2 : Int) ^ i = P at *
      go_wp2_with fail
      go_roundw
      case rel => exact ⟨i + 1, by omega, by go_num, by rw [← NX.out], trivial⟩
      case measure => simp [intOf]; omega
    · obtain rfl : i = n := by omega
      have hni : ¬ (i : Int) < (i : Int) := by omega
      obtain ⟨P, hP⟩ : ∃ P, P = (2 : Int) ^ i := ⟨_, rfl⟩
      rw [← hP]
      have HP := hide hP
      clear hP
      go_wp2_with fail
      go_ret
      exact ⟨by rw [← HP.out]; rfl, rfl⟩

theorem fit_signed {s : Sg} {v : Int} {k : Nat} (hs : s.sgn = true) (hk : (s.width - 1).toNat = k) : fitsB s v = (decide (-(2 : Int) ^ k ≤ v) && decide (v < 2 ^ k)) := by
  unfold fitsB
  rw [hs, if_pos rfl, hk, ← Bool.decide_and, decide_eq_decide]
  have hp : (0 : Int) < 2 ^ k := Int.pow_pos (by omega)
  have e := Int.emod_add_mul_ediv v (2 ^ k)
  have b1 := Int.emod_nonneg v (show (2 : Int) ^ k ≠ 0 by omega)
  have b2 := Int.emod_lt_of_pos v hp
  constructor
  · rintro (h | h)
    · rw [h] at e; omega
    · rw [h] at e; omega
  · rintro ⟨h1, h2⟩
    by_cases h0 : 0 ≤ v
    · exact .inl (Int.ediv_eq_zero_of_lt h0 h2)
    · refine .inr ?_
      have : (v + 2 ^ k) / 2 ^ k = 0 := Int.ediv_eq_zero_of_lt (by omega) (by omega)
      have e2 := Int.add_mul_ediv_right v 1 (show (2 : Int) ^ k ≠ 0 by omega)
      rw [Int.one_mul] at e2
      omega
theorem fit_uns {s : Sg} {v : Int} (hs : s.sgn = false) : fitsB s v = (decide (0 ≤ v) && (decide (63 ≤ s.width) || decide (v < 2 ^ s.width.toNat))) := by
  unfold fitsB
  rw [hs]
  simp only [Bool.false_eq_true, if_false]
  rw [← Bool.decide_or, ← Bool.decide_and, decide_eq_decide]
  have hp : (0 : Int) < 2 ^ s.width.toNat := Int.pow_pos (by omega)
  have e := Int.emod_add_mul_ediv v (2 ^ s.width.toNat)
  have b1 := Int.emod_nonneg v (show (2 : Int) ^ s.width.toNat ≠ 0 by omega)
  have b2 := Int.emod_lt_of_pos v hp
  constructor
  · rintro ⟨h0, h | h⟩
    · exact ⟨h0, .inl h⟩
    · rw [h] at e; exact ⟨h0, .inr (by omega)⟩
  · rintro ⟨h0, h | h⟩
    · exact ⟨h0, .inl h⟩
    · exact ⟨h0, .inr (Int.ediv_eq_zero_of_lt h0 h)⟩

set_option maxRecDepth 100000 in
set_option maxHeartbeats 4000000 in
theorem refFits_any (s : Sg) (v : Int) (w : World) (hv1 : -9223372036854775808 ≤ v) (hv2 : v < 9223372036854775808) (hm : mayB s = true) :
    Calls Try.prog 51 #[.agg #[.int .i64 s.start, .int .i64 s.width, .bool s.big, .bool s.sgn], .int .i64 v] w fun e w' => e = .returned (.bool (fitsB s v)) ∧ Below w.heap.size w w' := by
  obtain ⟨_, _, hw1, hw2, h64⟩ := may_iff.1 hm
  obtain ⟨r, hr⟩ : ∃ r, r = fitsB s v := ⟨_, rfl⟩
  rw [← hr]
  have FS := hide (fun k (h1 : s.sgn = true) h2 => hr.trans (fit_signed (v := v) (k := k) h1 h2))
  have FU := hide (fun (h1 : s.sgn = false) => hr.trans (fit_uns (v := v) h1))
  clear hr hm
  obtain ⟨st, wd, bg, sg⟩ := s
  dsimp only at *
  have q0 : Below w.heap.size w (w.alloc (.cells #[.int .i64 st, .int .i64 wd, .bool bg, .bool sg] 36)) := (Below.refl _ _).alloc (Nat.le_refl _) _
  cases sg with
  | true =>
    obtain ⟨k, hk⟩ : ∃ k : Nat, wd - 1 = k := ⟨(wd - 1).toNat, by omega⟩
    have HR := hide (FS.out k rfl (by omega))
    clear FS FU
    by_cases h : wd = 64
    · subst h
      have hk63 : k = 63 := by omega
      subst hk63
      have HT : Hid (r = true) := hide (by
        rw [HR.out, decide_eq_true (by omega), decide_eq_true (by omega)]; rfl)
      clear HR hk
      go_enter Try.func51, Try.ntmps51
      go_wp2_with fail
      go_ret
      exact ⟨by rw [HT.out]; rfl, q0⟩
    · have e1 : (wd == 64) = false := by rw [beq_eq_false_iff_ne]; exact h
      have PW := hide (fun W => refPower_any k W (by omega))
      have h1 : (2 : Int) ^ k ≤ 4611686018427387904 := by
        have : (2 : Nat) ^ k ≤ 2 ^ 62 := Nat.pow_le_pow_right (by omega) (by omega)
        have h2 : ((2 ^ k : Nat) : Int) ≤ ((2 ^ 62 : Nat) : Int) := by omega
        simpa using h2
      have h0 : (0 : Int) < 2 ^ k := Int.pow_pos (by omega)
      generalize (2 : Int) ^ k = P at *
      go_enter Try.func51, Try.ntmps51
      go_wp2_with fail
      (with_reducible refine (PW.out _).mono ?_)
      rintro e1 w1 ⟨rfl, rfl⟩
      by_cases ha : -P ≤ v
      · have eA : decide (-P ≤ v) = true := decide_eq_true ha
        by_cases hb : v < P
        · have eB : decide (v < P) = true := decide_eq_true hb
          have HT : Hid (r = true) := hide (by rw [HR.out, eA, eB]; rfl)
          clear HR
          go_wp2_with fail
          go_ret
          exact ⟨by rw [HT.out]; rfl, q0⟩
        · have eB : decide (v < P) = false := decide_eq_false hb
          have HT : Hid (r = false) := hide (by rw [HR.out, eA, eB]; rfl)
          clear HR
          go_wp2_with fail
          go_ret
          exact ⟨by rw [HT.out]; rfl, q0⟩
      · have eA : decide (-P ≤ v) = false := decide_eq_false ha
        have HT : Hid (r = false) := hide (by rw [HR.out, eA]; rfl)
        clear HR
        go_wp2_with fail
        go_ret
        exact ⟨by rw [HT.out]; rfl, q0⟩
  | false =>
    have HR := hide (FU.out rfl)
    clear FS FU
    have h64' : wd ≤ 63 := by have : wd ≠ 64 := (fun e => h64 ⟨e, rfl⟩); omega
    obtain ⟨k, rfl⟩ : ∃ k : Nat, wd = k := ⟨wd.toNat, by omega⟩
    clear h64
    by_cases ha : 0 ≤ v
    · have eA : decide (0 ≤ v) = true := decide_eq_true ha
      by_cases h63 : 63 ≤ (k : Int)
      · have HT : Hid (r = true) := hide (by rw [HR.out, eA, decide_eq_true h63]; rfl)
        clear HR
        go_enter Try.func51, Try.ntmps51
        go_wp2_with fail
        go_ret
        exact ⟨by rw [HT.out]; rfl, q0⟩
      · have PW := hide (fun W => refPower_any k W (by omega))
        rw [Int.toNat_natCast] at HR
        have e63 : decide (63 ≤ (k : Int)) = false := decide_eq_false h63
        generalize (2 : Int) ^ k = P at *
        go_enter Try.func51, Try.ntmps51
        go_wp2_with fail
        (with_reducible refine (PW.out _).mono ?_)
        rintro e1 w1 ⟨rfl, rfl⟩
        by_cases hb : v < P
        · have eB : decide (v < P) = true := decide_eq_true hb
          have HT : Hid (r = true) := hide (by rw [HR.out, eA, e63, eB]; rfl)
          clear HR
          go_wp2_with fail
          go_ret
          exact ⟨by rw [HT.out]; rfl, q0⟩
        · have eB : decide (v < P) = false := decide_eq_false hb
          have HT : Hid (r = false) := hide (by rw [HR.out, eA, e63, eB]; rfl)
          clear HR
          go_wp2_with fail
          go_ret
          exact ⟨by rw [HT.out]; rfl, q0⟩
    · have eA : decide (0 ≤ v) = false := decide_eq_false ha
      have HT : Hid (r = false) := hide (by rw [HR.out, eA]; rfl)
      clear HR
      by_cases h63 : 63 ≤ (k : Int)
      · go_enter Try.func51, Try.ntmps51
        go_wp2_with fail
        go_ret
        exact ⟨by rw [HT.out]; rfl, q0⟩
      · go_enter Try.func51, Try.ntmps51
        go_wp2_with fail
        go_ret
        exact ⟨by rw [HT.out]; rfl, q0⟩

theorem with_or : ∀ (x : Fin 256) (j : Fin 8), bits .or .u8 (x.val : Int) (2 ^ j.val) = ((setN x.val j.val true : Nat) : Int) := by decide +kernel
theorem with_sub : ∀ (x : Fin 256) (j : Fin 8), IntKind.u8.wrap (((setN x.val j.val true : Nat) : Int) - 2 ^ j.val) = ((setN x.val j.val false : Nat) : Int) := by decide +kernel
theorem one_step : ∀ (i : Fin 7), (2 * (2 : Int) ^ i.val) % 256 = (2 : Int) ^ (i.val + 1) := by decide +kernel

set_option maxRecDepth 100000 in
set_option maxHeartbeats 4000000 in
theorem refWith_any (d : ByteArray) (p : Nat) (b : Bool) (w : World) (hp : p < 8 * d.size) (hd : d.size ≤ 1000) :
    Calls Try.prog 53 #[.string d, .int .i64 p, .bool b] w fun e w' => e = .returned (.string ⟨(setB d.data.toList p b).toArray⟩) ∧ Below w.heap.size w w' := by
  obtain ⟨a, ha⟩ : ∃ a, a = p / 8 := ⟨_, rfl⟩
  obtain ⟨j, hj⟩ : ∃ j, j = p % 8 := ⟨_, rfl⟩
  have hds : d.data.toList.length = d.size := by simp
  have had : a < d.data.toList.length := by omega
  have hj8 : j < 8 := by omega
  have hx : (d.data.toList[a]).toNat < 256 := UInt8.toNat_lt _
  have WO := with_or ⟨(d.data.toList[a]).toNat, hx⟩ ⟨j, hj8⟩
  have WS := with_sub ⟨(d.data.toList[a]).toNat, hx⟩ ⟨j, hj8⟩
  have L1 := setN_lt ⟨(d.data.toList[a]).toNat, hx⟩ ⟨j, hj8⟩ true
  have L2 := setN_lt ⟨(d.data.toList[a]).toNat, hx⟩ ⟨j, hj8⟩ false
  dsimp only at WO WS L1 L2
  have SB := hide (show ∀ b, setB d.data.toList p b = d.data.toList.set a (UInt8.ofNat (setN (d.data.toList[a]).toNat j b)) from fun b => by
    unfold setB
    rw [← ha, ← hj, List.getD_eq_getElem?_getD, List.getElem?_eq_getElem had]
    rfl)
  have hai : (p : Int) / 8 = (a : Int) := by omega
  have hji : (p : Int) % 8 = (j : Int) := by omega
  have hat : (p : Int).tdiv 8 = (a : Int) := by rw [Int.tdiv_eq_ediv_of_nonneg (by omega)]; exact hai
  have hjt : (p : Int).tmod 8 = (j : Int) := by rw [Int.tmod_eq_emod_of_nonneg (by omega)]; exact hji
  have hwa : IntKind.i64.wrap (a : Int) = (a : Int) := IntWalk.i64_in _ (by omega)
  have hadi : (a : Int) < (d.size : Int) := by omega
  have hcap : d.size ≤ grownCap w d.size 0 5 := grownCap_ge _ _ _ _
  have hcv := run_bytes_of_string (P := Try.prog) w 9 87 5 d Try.underlying9 Try.underlying87 Try.underlying5
  have Y0 := hide (ByB.made w.drew d _ hcap)
  generalize grownCap w d.size 0 5 = cap at *
  have q0 : Below w.heap.size w (w.drew.alloc (.cells (bytesRow d cap) 5 ((bytesRow d cap).size, (bytesRow d cap).size + 1))) := (Below.refl _ _).drew.alloc (Nat.le_refl _) _
  generalize hw3 : w.drew.alloc (.cells (bytesRow d cap) 5 ((bytesRow d cap).size, (bytesRow d cap).size + 1)) = w3 at *
  replace Y0 : Hid (ByB w3 w.heap.size d.data.toList) := hide (hw3 ▸ Y0.out)
  clear ha hj
  go_enter Try.func53, Try.ntmps53
  go_wp2_with fail
  clear hcv hw3
  go_loopw [8, 9] (fun vp vi W => ∃ i : Nat, i ≤ j ∧ vi = .int .i64 i ∧ vp = .int .u8 ((2 : Int) ^ i) ∧ w3 = W) (fun _ vi _ => j - (intOf vi).toNat)
  case atStart => exact ⟨0, Nat.zero_le _, rfl, rfl, rfl⟩
  case round =>
    obtain ⟨i, hi, rfl, rfl, rfl⟩ := hrel
    by_cases hlt : i < j
    · have hni : (i : Int) < (j : Int) := by omega
      have NX := hide (one_step ⟨i, by omega⟩)
      clear WO WS
      generalize (2 : Int) ^ i = P at *
      go_wp2_with fail
      go_roundw
      case rel => exact ⟨i + 1, by omega, by go_num, by rw [← NX.out], trivial⟩
      case measure => simp [intOf]; omega
    · obtain rfl : i = j := by omega
      have hni : ¬ (i : Int) < (i : Int) := by omega
      obtain ⟨c1, c2⟩ := Y0.out.cell had
      generalize (2 : Int) ^ i = P at *
      have hwr : ∀ z : Int, IntKind.u8.wrap z = z % 256 := fun z => by simp [IntKind.wrap, IntKind.bits, IntKind.signed]
      rw [hwr] at WS
      have hgs : w.heap.size ≤ w.heap.size := Nat.le_refl _
      obtain ⟨X1, hX1⟩ : ∃ X1, X1 = setN (d.data.toList[a]).toNat i true := ⟨_, rfl⟩
      obtain ⟨X2, hX2⟩ : ∃ X2, X2 = setN (d.data.toList[a]).toNat i false := ⟨_, rfl⟩
      have eU1 : (UInt8.ofNat X1).toNat = X1 := by rw [UInt8.toNat_ofNat', Nat.mod_eq_of_lt (by rw [hX1]; exact L1)]
      have eU2 : (UInt8.ofNat X2).toNat = X2 := by rw [UInt8.toNat_ofNat', Nat.mod_eq_of_lt (by rw [hX2]; exact L2)]
      have SBt : Hid (setB d.data.toList p true = d.data.toList.set a (UInt8.ofNat X1)) := hide (by rw [hX1]; exact SB.out true)
      have SBf : Hid (setB d.data.toList p false = d.data.toList.set a (UInt8.ofNat X2)) := hide (by rw [hX2]; exact SB.out false)
      rw [← hX1] at WO WS L1
      rw [← hX2] at WS L2
      have Y1 := Y0.out.set had (UInt8.ofNat X1)
      rw [eU1] at Y1
      have had1 : a < (d.data.toList.set a (UInt8.ofNat X1)).length := by rw [List.length_set]; exact had
      have Y2 := Y1.set had1 (UInt8.ofNat X2)
      rw [eU2, List.set_set] at Y2
      obtain ⟨c3, c4⟩ := Y1.cell had1
      rw [List.getElem_set_self, eU1] at c3
      have Q4 := hide (q0.setCell (p := ⟨w.heap.size, a, none⟩) hgs (.int .u8 (X1 : Int)))
      have Q5 := hide (Q4.out.setCell (p := ⟨w.heap.size, a, none⟩) hgs (.int .u8 (X2 : Int)))
      have HY1 := hide Y1
      have HY2 := hide Y2
      clear hX1 hX2 SB Y1 Y2 eU1 eU2 L1 L2 had1
      generalize (d.data.toList[a]).toNat = x at *
      cases b with
      | true =>
        have hcv2 := run_bytes_str (P := Try.prog) (w3.setCell ⟨w.heap.size, a, none⟩ (.int .u8 (X1 : Int))) 87 9 5 Try.underlying87 Try.underlying5 Try.underlying9 w.heap.size d.size cap _ (by rw [List.length_set, hds]) (fun i hi => (HY1.out.cell hi).1)
        clear HY2 Q5 c3 c4
        go_wp2_with fail
        go_ret
        exact ⟨by rw [SBt.out]; rfl, Q4.out⟩
      | false =>
        have hcv2 := run_bytes_str (P := Try.prog) ((w3.setCell ⟨w.heap.size, a, none⟩ (.int .u8 (X1 : Int))).setCell ⟨w.heap.size, a, none⟩ (.int .u8 (X2 : Int))) 87 9 5 Try.underlying87 Try.underlying5 Try.underlying9 w.heap.size d.size cap _ (by rw [List.length_set, hds]) (fun i hi => (HY2.out.cell hi).1)
        go_wp2_with fail
        go_ret
        exact ⟨by rw [SBf.out]; rfl, Q5.out⟩
end Go.Proofs.Ytplpnnjjjfcibaa
