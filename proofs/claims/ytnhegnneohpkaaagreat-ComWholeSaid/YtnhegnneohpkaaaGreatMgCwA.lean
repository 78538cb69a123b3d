/- Walks of campanilelaw20.layout, alive. -/
import Derived.Test.YtnhegnneohpkaaaGreatPdG
import Derived.Test.YtnhegnneohpkaaaGreatMgPdE
import Derived.Test.YtnhegnneohpkaaaGreatMgSgG
namespace Go.Proofs.YtnhegnneohpkaaaGreat
open Go.ChangeShapes Go.WideShapes Go.ChangeAt Go.RowKit
open SG PD

/-- The first eighteen. -/
def layL (L : Ly) : Ly := ⟨L.size, L.sgs.take 18, L.nws.take 18⟩

set_option maxRecDepth 100000 in
set_option maxHeartbeats 4000000 in
theorem lay20_any (L : Ly) (A : Option Addr) (c : Nat) (B : Option Addr) (d : Nat) (w : World) (hc : L.sgs.length ≤ c) (hd : L.nws.length ≤ d) :
    Calls Tryz.prog 14 #[.agg (lyV L A c B d)] w fun e w' => e = .returned (.agg (lyV (layL L) A c B d)) ∧ Below w.heap.size w w' := by
  obtain ⟨k1, hk1⟩ : ∃ k, k = (L.sgs.take 18).length := ⟨_, rfl⟩
  obtain ⟨k2, hk2⟩ : ∃ k, k = (L.nws.take 18).length := ⟨_, rfl⟩
  unfold lyV layL
  dsimp only
  rw [← hk1, ← hk2]
  rw [List.length_take] at hk1 hk2
  generalize L.sgs.length = n1 at *
  generalize L.nws.length = n2 at *
  generalize L.size = sz at *
  obtain ⟨m1, em1, hm1⟩ := run_min (P := Tryz.prog) (n1 : Int) 18
  obtain ⟨m2, em2, hm2⟩ := run_min (P := Tryz.prog) (n2 : Int) 18
  have ek1 : m1 = (k1 : Int) := by omega
  have ek2 : m2 = (k2 : Int) := by omega
  subst ek1 ek2
  have ht1 := run_to (P := Tryz.prog) 24 23 Tryz.underlying24 4 (fun W => by kernel_rfl) A n1 c (k1 : Int) k1 rfl (by omega)
  have ht2 := run_to (P := Tryz.prog) 25 3 Tryz.underlying25 1 (fun W => by kernel_rfl) B n2 d (k2 : Int) k2 rfl (by omega)
  clear hk1 hk2 em1 em2 hc hd
  obtain ⟨w1, hw1⟩ : ∃ w1, w1 = (w.alloc (.cells #[.int .i64 sz, .slice A n1 c, .slice B n2 d] 27)).alloc (.cells #[.int .i64 0, .slice none 0 0, .slice none 0 0] 27) := ⟨_, rfl⟩
  have z1 : w.heap.size + 2 = w1.heap.size := by rw [hw1]; simp
  have C0 : Hid (w1.heap[w.heap.size]? = some (.cells #[.int .i64 sz, .slice A n1 c, .slice B n2 d] 27 (0, 0))) := by
    rw [hw1]
    exact hide (heap_below (World.alloc_heap_new w _) ((Below.refl _ _).alloc (Nat.le_refl _) _))
  have C1 : Hid (w1.heap[w.heap.size + 1]? = some (.cells #[.int .i64 0, .slice none 0 0, .slice none 0 0] 27 (0, 0))) := by
    rw [hw1]
    have := World.alloc_heap_new (w.alloc (.cells #[.int .i64 sz, .slice A n1 c, .slice B n2 d] 27)) (.cells #[.int .i64 0, .slice none 0 0, .slice none 0 0] 27)
    simp only [World.size_alloc] at this
    exact hide this
  have Q1 : Hid (Below w.heap.size w w1) := by
    rw [hw1]
    exact hide (((Below.refl _ _).alloc (Nat.le_refl _) _).alloc (by simp) _)
  go_enter Tryz.func14, Tryz.ntmps14
  go_upto_region 1 with fail
  rw [← hw1]
  clear hw1
  refine wp_region_L [0, 1, 2, 3, 4, 5, 6, 7, 8, 9, 10, 11, 12, 13] [(1, fun W => W.cell? ⟨w.heap.size, 1, none⟩ = some (.slice A n1 c)), (3, fun W => W.cell? ⟨w.heap.size, 1, none⟩ = some (.slice A n1 c)), (8, fun W => W.cell? ⟨w.heap.size, 2, none⟩ = some (.slice B n2 d)), (10, fun W => W.cell? ⟨w.heap.size, 2, none⟩ = some (.slice B n2 d))] (by kernel_rfl) ?_
  replace C0 : Hid (w1.drew.heap[w.heap.size]? = some (.cells #[.int .i64 sz, .slice A n1 c, .slice B n2 d] 27 (0, 0))) := C0
  replace C1 : Hid (w1.drew.heap[w.heap.size + 1]? = some (.cells #[.int .i64 0, .slice none 0 0, .slice none 0 0] 27 (0, 0))) := C1
  replace Q1 : Hid (Below w.heap.size w w1.drew) := hide Q1.out.drew
  clear z1
  generalize w1.drew = wx at *
  obtain ⟨y0, y1, y2⟩ := three_cells C0.out
  have Y1 := hide y1
  have Y2 := hide y2
  clear y0 y1 y2
  refine wpAnyL_pure (i := 0) (v := .pointer (some ⟨w.heap.size, 1, none⟩)) rfl rfl (by kernel_rfl) (by kernel_rfl) (by kernel_rfl) (by kernel_rfl) (by kernel_rfl) (fun _ _ _ h => h) rfl (fun W => by go_simp) ?_
  go_simp
  refine wpAnyL_load (i := 1) (v := .slice A n1 c) rfl rfl (by kernel_rfl) (by kernel_rfl) (by kernel_rfl) (by kernel_rfl) (by kernel_rfl) (fun _ _ _ h => h) rfl (fun W h => by (have hc0 := h; clear h; go_simp)) (Y1.out) ?_
  go_simp
  refine wpAnyL_pure (i := 2) (v := .pointer (some ⟨w.heap.size, 1, none⟩)) rfl rfl (by kernel_rfl) (by kernel_rfl) (by kernel_rfl) (by kernel_rfl) (by kernel_rfl) (fun _ _ _ h => h) rfl (fun W => by go_simp) ?_
  go_simp
  refine wpAnyL_load (i := 3) (v := .slice A n1 c) rfl rfl (by kernel_rfl) (by kernel_rfl) (by kernel_rfl) (by kernel_rfl) (by kernel_rfl) (fun _ _ _ h => h) rfl (fun W h => by (have hc0 := h; clear h; go_simp)) (Y1.out) ?_
  go_simp
  refine wpAnyL_pure (i := 4) (v := .int .i64 n1) rfl rfl (by kernel_rfl) (by kernel_rfl) (by kernel_rfl) (by kernel_rfl) (by kernel_rfl) (fun _ _ _ h => h) rfl (fun W => by go_simp) ?_
  go_simp
  refine wpAnyL_pure (i := 5) (v := .int .i64 k1) rfl rfl (by kernel_rfl) (by kernel_rfl) (by kernel_rfl) (by kernel_rfl) (by kernel_rfl) (fun _ _ _ h => h) rfl (fun W => by go_simp) ?_
  go_simp
  refine wpAnyL_pure (i := 6) (v := .slice A k1 c) rfl rfl (by kernel_rfl) (by kernel_rfl) (by kernel_rfl) (by kernel_rfl) (by kernel_rfl) (fun _ _ _ h => h) rfl (fun W => by go_simp) ?_
  go_simp
  refine wpAnyL_pure (i := 7) (v := .pointer (some ⟨w.heap.size, 2, none⟩)) rfl rfl (by kernel_rfl) (by kernel_rfl) (by kernel_rfl) (by kernel_rfl) (by kernel_rfl) (fun _ _ _ h => h) rfl (fun W => by go_simp) ?_
  go_simp
  refine wpAnyL_load (i := 8) (v := .slice B n2 d) rfl rfl (by kernel_rfl) (by kernel_rfl) (by kernel_rfl) (by kernel_rfl) (by kernel_rfl) (fun _ _ _ h => h) rfl (fun W h => by (have hc0 := h; clear h; go_simp)) (Y2.out) ?_
  go_simp
  refine wpAnyL_pure (i := 9) (v := .pointer (some ⟨w.heap.size, 2, none⟩)) rfl rfl (by kernel_rfl) (by kernel_rfl) (by kernel_rfl) (by kernel_rfl) (by kernel_rfl) (fun _ _ _ h => h) rfl (fun W => by go_simp) ?_
  go_simp
  refine wpAnyL_load (i := 10) (v := .slice B n2 d) rfl rfl (by kernel_rfl) (by kernel_rfl) (by kernel_rfl) (by kernel_rfl) (by kernel_rfl) (fun _ _ _ h => h) rfl (fun W h => by (have hc0 := h; clear h; go_simp)) (Y2.out) ?_
  go_simp
  refine wpAnyL_pure (i := 11) (v := .int .i64 n2) rfl rfl (by kernel_rfl) (by kernel_rfl) (by kernel_rfl) (by kernel_rfl) (by kernel_rfl) (fun _ _ _ h => h) rfl (fun W => by go_simp) ?_
  go_simp
  refine wpAnyL_pure (i := 12) (v := .int .i64 k2) rfl rfl (by kernel_rfl) (by kernel_rfl) (by kernel_rfl) (by kernel_rfl) (by kernel_rfl) (fun _ _ _ h => h) rfl (fun W => by go_simp) ?_
  go_simp
  refine wpAnyL_pure (i := 13) (v := .slice B k2 d) rfl rfl (by kernel_rfl) (by kernel_rfl) (by kernel_rfl) (by kernel_rfl) (by kernel_rfl) (fun _ _ _ h => h) rfl (fun W => by go_simp) ?_
  go_simp
  clear hm1 hm2 ht1 ht2 Y1 Y2
  refine wpAnyL_one (i := 14) (by kernel_rfl) ?_
  refine wpOp_do rfl rfl ?_
  go_simp
  refine ⟨keepsL_all (by kernel_rfl) (by kernel_rfl), ?_⟩
  go_simp
  refine wpAnyL_one (i := 15) (by kernel_rfl) ?_
  refine wpOp_do rfl rfl ?_
  obtain ⟨y0, y1, y2⟩ := three_cells C0.out
  have f1 : wx.frozen? ⟨w.heap.size, 1, none⟩ = false := by have := C0.out; simp [World.frozen?, this]
  go_simp
  refine ⟨keepsL_all (by kernel_rfl) (by kernel_rfl), ?_⟩
  have C2 : Hid ((wx.setCell ⟨w.heap.size, 1, none⟩ (.slice A k1 c)).heap[w.heap.size]? = some (.cells #[.int .i64 sz, .slice A k1 c, .slice B n2 d] 27 (0, 0))) := by
    have := heap_setCell_same wx w.heap.size 1 _ _ (.slice A k1 c) C0.out
    exact hide (by simpa using this)
  have D2 : Hid ((wx.setCell ⟨w.heap.size, 1, none⟩ (.slice A k1 c)).heap[w.heap.size + 1]? = some (.cells #[.int .i64 0, .slice none 0 0, .slice none 0 0] 27 (0, 0))) := by
    have := C1.out
    rw [← heap_setCell_other wx ⟨w.heap.size, 1, none⟩ (w.heap.size + 1) (.slice A k1 c) (by simp)] at this
    exact hide this
  have Q2 := hide (Q1.out.setCell (p := ⟨w.heap.size, 1, none⟩) (Nat.le_refl _) (.slice A k1 c))
  clear C0 C1 Q1 y0 y1 y2 f1
  generalize wx.setCell ⟨w.heap.size, 1, none⟩ (.slice A k1 c) = wy at *
  go_simp
  refine wpAnyL_one (i := 16) (by kernel_rfl) ?_
  refine wpOp_do rfl rfl ?_
  go_simp
  refine ⟨keepsL_all (by kernel_rfl) (by kernel_rfl), ?_⟩
  go_simp
  refine wpAnyL_one (i := 17) (by kernel_rfl) ?_
  refine wpOp_do rfl rfl ?_
  obtain ⟨y0, y1, y2⟩ := three_cells C2.out
  have f1 : wy.frozen? ⟨w.heap.size, 2, none⟩ = false := by have := C2.out; simp [World.frozen?, this]
  go_simp
  refine ⟨keepsL_all (by kernel_rfl) (by kernel_rfl), ?_⟩
  have C3 : Hid ((wy.setCell ⟨w.heap.size, 2, none⟩ (.slice B k2 d)).heap[w.heap.size]? = some (.cells #[.int .i64 sz, .slice A k1 c, .slice B k2 d] 27 (0, 0))) := by
    have := heap_setCell_same wy w.heap.size 2 _ _ (.slice B k2 d) C2.out
    exact hide (by simpa using this)
  have D3 : Hid ((wy.setCell ⟨w.heap.size, 2, none⟩ (.slice B k2 d)).heap[w.heap.size + 1]? = some (.cells #[.int .i64 0, .slice none 0 0, .slice none 0 0] 27 (0, 0))) := by
    have := D2.out
    rw [← heap_setCell_other wy ⟨w.heap.size, 2, none⟩ (w.heap.size + 1) (.slice B k2 d) (by simp)] at this
    exact hide this
  have Q3 := hide (Q2.out.setCell (p := ⟨w.heap.size, 2, none⟩) (Nat.le_refl _) (.slice B k2 d))
  clear C2 D2 Q2 y0 y1 y2 f1
  generalize wy.setCell ⟨w.heap.size, 2, none⟩ (.slice B k2 d) = wz at *
  go_simp
  refine wpAnyL_done (by kernel_rfl) ?_ _
  obtain ⟨y0, y1, y2⟩ := three_cells C3.out
  have TH := hide (show wz.there (w.heap.size + 1) 0 3 from there_heap (cs := [.int .i64 0, .slice none 0 0, .slice none 0 0]) D3.out)
  go_wp2_with (refine wpList_store_hid (by rfl) 27 (.tmp 2) (.tmp 19) (by rfl) (w.heap.size + 1) 0 [.int .i64 sz, .slice A k1 c, .slice B k2 d] (by rfl) (by rfl) (by exact TH.out) (by kernel_rfl) (by simp [Value.oneCell']) ?_)
  intro w5 e5
  have D5 : w5.heap[w.heap.size + 1]? = some (.cells #[.int .i64 sz, .slice A k1 c, .slice B k2 d] 27 (0, 0)) := by
    rw [e5.out]
    exact whole_heap [.int .i64 sz, .slice A k1 c, .slice B k2 d] (xs := [_, _, _]) D3.out rfl
  have Q5 := hide (show Below w.heap.size w w5 by rw [e5.out]; exact Q3.out.trans (below_setCells (g := w.heap.size + 1) _ 0 _ (by omega)))
  obtain ⟨r0, r1, r2⟩ := three_cells D5
  clear e5 y0 y1 y2 C3 D3 Q3 D5
  go_wp2_with fail
  refine bodyPost_ret (v := .agg #[.int .i64 sz, .slice A k1 c, .slice B k2 d]) (by simp [results, Tryz.results14, go_sem, r0, r1, r2]) rfl ⟨rfl, Q5.out⟩
end Go.Proofs.YtnhegnneohpkaaaGreat

/- Walks of ref14.Power, Fits, With, Put. -/
namespace Go.Proofs.YtnhegnneohpkaaaGreat
open Go.ChangeShapes Go.WideShapes Go.ChangeAt Go.RowKit
open SG

set_option maxRecDepth 100000 in
theorem refPower_any (n : Nat) (w : World) (hn : n ≤ 62) : Calls Tryz.prog 78 #[.int .i64 n] w fun e w' => e = .returned (.int .i64 ((2 : Int) ^ n)) ∧ w = w' := by
  go_enter Tryz.func78, Tryz.ntmps78
  go_wp2_with fail
  go_loopw [3, 4] (fun vp vi W => ∃ i : Nat, i ≤ n ∧ vi = .int .i64 i ∧ vp = .int .i64 ((2 : Int) ^ i) ∧ w = W) (fun _ vi _ => n - (intOf vi).toNat)
  case atStart => exact ⟨0, Nat.zero_le _, rfl, rfl, rfl⟩
  case round =>
    obtain ⟨i, hi, rfl, rfl, rfl⟩ := hrel
    by_cases hlt : i < n
    · have hni : (i : Int) < (n : Int) := by omega
      have NX := hide (show (2 : Int) * 2 ^ i = 2 ^ (i + 1) by rw [Int.pow_succ]; omega)
      have h1 : (2 : Int) ^ i ≤ 2 ^ 61 := by
        have : (2 : Nat) ^ i ≤ 2 ^ 61 := Nat.pow_le_pow_right (by omega) (by omega)
        exact_mod_cast this
      have h0 : (0 : Int) < 2 ^ i := Int.pow_pos (by omega)
      have h2 : (2 : Int) ^ i ≤ 2305843009213693952 := h1
      clear h1
      generalize (2 : Int) ^ i = P at *
      go_wp2_with fail
      go_roundw
      case rel => exact ⟨i + 1, by omega, by go_num, by rw [← NX.out], trivial⟩
      case measure => simp [intOf]; omega
    · obtain rfl : i = n := by omega
      have hni : ¬ (i : Int) < (i : Int) := by omega
      obtain ⟨P, hP⟩ : ∃ P, P = (2 : Int) ^ i := ⟨_, rfl⟩
      rw [← hP]
      have HP := hide hP
      clear hP
      go_wp2_with fail
      go_ret
      exact ⟨by rw [← HP.out]; rfl, rfl⟩

theorem fit_signed {s : Sg} {v : Int} {k : Nat} (hs : s.sgn = true) (hk : (s.width - 1).toNat = k) : fitsB s v = (decide (-(2 : Int) ^ k ≤ v) && decide (v < 2 ^ k)) := by
  unfold fitsB
  rw [hs, if_pos rfl, hk, ← Bool.decide_and, decide_eq_decide]
  have hp : (0 : Int) < 2 ^ k := Int.pow_pos (by omega)
  have e := Int.emod_add_mul_ediv v (2 ^ k)
  have b1 := Int.emod_nonneg v (show (2 : Int) ^ k ≠ 0 by omega)
  have b2 := Int.emod_lt_of_pos v hp
  constructor
  · rintro (h | h)
    · rw [h] at e; omega
    · rw [h] at e; omega
  · rintro ⟨h1, h2⟩
    by_cases h0 : 0 ≤ v
    · exact .inl (Int.ediv_eq_zero_of_lt h0 h2)
    · refine .inr ?_
      have : (v + 2 ^ k) / 2 ^ k = 0 := Int.ediv_eq_zero_of_lt (by omega) (by omega)
      have e2 := Int.add_mul_ediv_right v 1 (show (2 : Int) ^ k ≠ 0 by omega)
      rw [Int.one_mul] at e2
      omega
theorem fit_uns {s : Sg} {v : Int} (hs : s.sgn = false) : fitsB s v = (decide (0 ≤ v) && (decide (63 ≤ s.width) || decide (v < 2 ^ s.width.toNat))) := by
  unfold fitsB
  rw [hs]
  simp only [Bool.false_eq_true, if_false]
  rw [← Bool.decide_or, ← Bool.decide_and, decide_eq_decide]
  have hp : (0 : Int) < 2 ^ s.width.toNat := Int.pow_pos (by omega)
  have e := Int.emod_add_mul_ediv v (2 ^ s.width.toNat)
  have b1 := Int.emod_nonneg v (show (2 : Int) ^ s.width.toNat ≠ 0 by omega)
  have b2 := Int.emod_lt_of_pos v hp
  constructor
  · rintro ⟨h0, h | h⟩
    · exact ⟨h0, .inl h⟩
    · rw [h] at e; exact ⟨h0, .inr (by omega)⟩
  · rintro ⟨h0, h | h⟩
    · exact ⟨h0, .inl h⟩
    · exact ⟨h0, .inr (Int.ediv_eq_zero_of_lt h0 h)⟩

set_option maxRecDepth 100000 in
set_option maxHeartbeats 4000000 in
theorem refFits_any (s : Sg) (v : Int) (w : World) (hv1 : -9223372036854775808 ≤ v) (hv2 : v < 9223372036854775808) (hm : mayB s = true) :
    Calls Tryz.prog 45 #[.agg #[.int .i64 s.start, .int .i64 s.width, .bool s.big, .bool s.sgn], .int .i64 v] w fun e w' => e = .returned (.bool (fitsB s v)) ∧ Below w.heap.size w w' := by
  obtain ⟨_, _, hw1, hw2, h64⟩ := may_iff.1 hm
  obtain ⟨r, hr⟩ : ∃ r, r = fitsB s v := ⟨_, rfl⟩
  rw [← hr]
  have FS := hide (fun k (h1 : s.sgn = true) h2 => hr.trans (fit_signed (v := v) (k := k) h1 h2))
  have FU := hide (fun (h1 : s.sgn = false) => hr.trans (fit_uns (v := v) h1))
  clear hr hm
  obtain ⟨st, wd, bg, sg⟩ := s
  dsimp only at *
  have q0 : Below w.heap.size w (w.alloc (.cells #[.int .i64 st, .int .i64 wd, .bool bg, .bool sg] 23)) := (Below.refl _ _).alloc (Nat.le_refl _) _
  cases sg with
  | true =>
    obtain ⟨k, hk⟩ : ∃ k : Nat, wd - 1 = k := ⟨(wd - 1).toNat, by omega⟩
    have HR := hide (FS.out k rfl (by omega))
    clear FS FU
    by_cases h : wd = 64
    · subst h
      have hk63 : k = 63 := by omega
      subst hk63
      have HT : Hid (r = true) := hide (by
        rw [HR.out, decide_eq_true (by omega), decide_eq_true (by omega)]; rfl)
      clear HR hk
      go_enter Tryz.func45, Tryz.ntmps45
      go_wp2_with fail
      go_ret
      exact ⟨by rw [HT.out]; rfl, q0⟩
    · have e1 : (wd == 64) = false := by rw [beq_eq_false_iff_ne]; exact h
      have PW := hide (fun W => refPower_any k W (by omega))
      have h1 : (2 : Int) ^ k ≤ 4611686018427387904 := by
        have : (2 : Nat) ^ k ≤ 2 ^ 62 := Nat.pow_le_pow_right (by omega) (by omega)
        have h2 : ((2 ^ k : Nat) : Int) ≤ ((2 ^ 62 : Nat) : Int) := by omega
        simpa using h2
      have h0 : (0 : Int) < 2 ^ k := Int.pow_pos (by omega)
      generalize (2 : Int) ^ k = P at *
      go_enter Tryz.func45, Tryz.ntmps45
      go_wp2_with fail
      (with_reducible refine (PW.out _).mono ?_)
      rintro e1 w1 ⟨rfl, rfl⟩
      by_cases ha : -P ≤ v
      · have eA : decide (-P ≤ v) = true := decide_eq_true ha
        by_cases hb : v < P
        · have eB : decide (v < P) = true := decide_eq_true hb
          have HT : Hid (r = true) := hide (by rw [HR.out, eA, eB]; rfl)
          clear HR
          go_wp2_with fail
          go_ret
          exact ⟨by rw [HT.out]; rfl, q0⟩
        · have eB : decide (v < P) = false := decide_eq_false hb
          have HT : Hid (r = false) := hide (by rw [HR.out, eA, eB]; rfl)
          clear HR
          go_wp2_with fail
          go_ret
          exact ⟨by rw [HT.out]; rfl, q0⟩
      · have eA : decide (-P ≤ v) = false := decide_eq_false ha
        have HT : Hid (r = false) := hide (by rw [HR.out, eA]; rfl)
        clear HR
        go_wp2_with fail
        go_ret
        exact ⟨by rw [HT.out]; rfl, q0⟩
  | false =>
    have HR := hide (FU.out rfl)
    clear FS FU
    have h64' : wd ≤ 63 := by have : wd ≠ 64 := (fun e => h64 ⟨e, rfl⟩); omega
    obtain ⟨k, rfl⟩ : ∃ k : Nat, wd = k := ⟨wd.toNat, by omega⟩
    clear h64
    by_cases ha : 0 ≤ v
    · have eA : decide (0 ≤ v) = true := decide_eq_true ha
      by_cases h63 : 63 ≤ (k : Int)
      · have HT : Hid (r = true) := hide (by rw [HR.out, eA, decide_eq_true h63]; rfl)
        clear HR
        go_enter Tryz.func45, Tryz.ntmps45
        go_wp2_with fail
        go_ret
        exact ⟨by rw [HT.out]; rfl, q0⟩
      · have PW := hide (fun W => refPower_any k W (by omega))
        rw [Int.toNat_natCast] at HR
        have e63 : decide (63 ≤ (k : Int)) = false := decide_eq_false h63
        generalize (2 : Int) ^ k = P at *
        go_enter Tryz.func45, Tryz.ntmps45
        go_wp2_with fail
        (with_reducible refine (PW.out _).mono ?_)
        rintro e1 w1 ⟨rfl, rfl⟩
        by_cases hb : v < P
        · have eB : decide (v < P) = true := decide_eq_true hb
          have HT : Hid (r = true) := hide (by rw [HR.out, eA, e63, eB]; rfl)
          clear HR
          go_wp2_with fail
          go_ret
          exact ⟨by rw [HT.out]; rfl, q0⟩
        · have eB : decide (v < P) = false := decide_eq_false hb
          have HT : Hid (r = false) := hide (by rw [HR.out, eA, e63, eB]; rfl)
          clear HR
          go_wp2_with fail
          go_ret
          exact ⟨by rw [HT.out]; rfl, q0⟩
    · have eA : decide (0 ≤ v) = false := decide_eq_false ha
      have HT : Hid (r = false) := hide (by rw [HR.out, eA]; rfl)
      clear HR
      by_cases h63 : 63 ≤ (k : Int)
      · go_enter Tryz.func45, Tryz.ntmps45
        go_wp2_with fail
        go_ret
        exact ⟨by rw [HT.out]; rfl, q0⟩
      · go_enter Tryz.func45, Tryz.ntmps45
        go_wp2_with fail
        go_ret
        exact ⟨by rw [HT.out]; rfl, q0⟩

theorem with_or : ∀ (x : Fin 256) (j : Fin 8), bits .or .u8 (x.val : Int) (2 ^ j.val) = ((setN x.val j.val true : Nat) : Int) := by decide +kernel
theorem with_sub : ∀ (x : Fin 256) (j : Fin 8), IntKind.u8.wrap (((setN x.val j.val true : Nat) : Int) - 2 ^ j.val) = ((setN x.val j.val false : Nat) : Int) := by decide +kernel
theorem one_step : ∀ (i : Fin 7), (2 * (2 : Int) ^ i.val) % 256 = (2 : Int) ^ (i.val + 1) := by decide +kernel

end Go.Proofs.YtnhegnneohpkaaaGreat
