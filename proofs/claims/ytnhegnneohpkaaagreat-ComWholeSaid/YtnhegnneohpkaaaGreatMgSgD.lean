/- Walks of signal.Places, Right, Fits, well. -/
import Derived.Test.YtnhegnneohpkaaaGreatSgC
import Derived.Test.YtnhegnneohpkaaaGreatMgFin
import Derived.Test.YtnhegnneohpkaaaGreatOwS
import Derived.WalkKit
namespace Go.Proofs.YtnhegnneohpkaaaGreat
open Go.ChangeShapes Go.WideShapes Go.ChangeAt Go.RowKit
open SG

theorem run_eql_nil {P : Program} (w : World) (t e : TypeId) (a : Option Addr) (l c : Nat) (h : P.underlying t = some (.slice e)) : (binOp .eql t (.slice a l c) (.slice none 0 0)).run P w = .ok (.bool a.isNone) w := by
  simp [binOp, run_equal_slice_nil w t e a l c h]
attribute [local go_sem] run_eql_nil

theorem sg_cells {W : World} {B : Nat} {s : Sg} {t : TypeId} {fz : Nat × Nat} (h : W.heap[B]? = some (.cells #[.int .i64 s.start, .int .i64 s.width, .bool s.big, .bool s.sgn] t fz)) :
    W.cell? ⟨B, 0, none⟩ = some (.int .i64 s.start) ∧ W.cell? ⟨B, 1, none⟩ = some (.int .i64 s.width) ∧ W.cell? ⟨B, 2, none⟩ = some (.bool s.big) ∧ W.cell? ⟨B, 3, none⟩ = some (.bool s.sgn) := by
  refine ⟨?_, ?_, ?_, ?_⟩ <;> simp [World.cell?, h]

set_option maxRecDepth 100000 in
theorem Places_none (s : Sg) (w : World) (h : plL s = []) : Calls Tryz.prog 105 #[.agg #[.int .i64 s.start, .int .i64 s.width, .bool s.big, .bool s.sgn]] w fun e w' => e = .returned (.tuple #[.slice none 0 0, .int .i64 1]) ∧ Below w.heap.size w w' := by
  have P := hide (fun W => places_none s W h)
  clear h
  obtain ⟨st, wd, bg, sg⟩ := s
  dsimp only at *
  have q0 : Below w.heap.size w (w.alloc (.cells #[.int .i64 st, .int .i64 wd, .bool bg, .bool sg] 23)) := (Below.refl _ _).alloc (Nat.le_refl _) _
  go_enter Tryz.func105, Tryz.ntmps105
  go_wp2_with fail
  (with_reducible refine (P.out _).mono ?_)
  rintro e1 w1 ⟨rfl, q1⟩
  have q := below_next q0 q0.size q1
  clear q0 q1
  go_wp2_with fail
  refine bodyPost_ret (v := .tuple #[.slice none 0 0, .int .i64 1]) (by simp [results, Tryz.results105, go_sem]) rfl ⟨rfl, q⟩
set_option maxRecDepth 100000 in
theorem Places_some (s : Sg) (w : World) (h : plL s ≠ []) : Calls Tryz.prog 105 #[.agg #[.int .i64 s.start, .int .i64 s.width, .bool s.big, .bool s.sgn]] w fun e w' => ∃ g c, e = .returned (.tuple #[.slice (some ⟨g, 0, none⟩) (plL s).length c, .int .i64 0]) ∧ Own w' w.heap.size 3 1 (some ⟨g, 0, none⟩) c (rowN (plL s)) ∧ Below w.heap.size w w' := by
  have P := hide (fun W => places_own s W h)
  clear h
  generalize plL s = l at *
  obtain ⟨st, wd, bg, sg⟩ := s
  dsimp only at *
  have q0 : Below w.heap.size w (w.alloc (.cells #[.int .i64 st, .int .i64 wd, .bool bg, .bool sg] 23)) := (Below.refl _ _).alloc (Nat.le_refl _) _
  go_enter Tryz.func105, Tryz.ntmps105
  go_wp2_with fail
  (with_reducible refine (P.out _).mono ?_)
  rintro e1 w1 ⟨g, c, rfl, ho, q1⟩
  have q := below_next q0 q0.size q1
  have hr := ho.mono (base' := w.heap.size) (by simp)
  clear q0 q1 ho
  go_wp2_with fail
  refine bodyPost_ret (v := .tuple #[.slice (some ⟨g, 0, none⟩) l.length c, .int .i64 0]) (by simp [results, Tryz.results105, go_sem]) rfl ⟨g, c, rfl, hr, q⟩

set_option maxRecDepth 100000 in
theorem sigRight_any (s : Sg) (n : Int) (w : World) : Calls Tryz.prog 82 #[.agg #[.int .i64 s.start, .int .i64 s.width, .bool s.big, .bool s.sgn], .int .i64 n] w fun e w' => e = .returned (.bool (rightS s n)) ∧ Below w.heap.size w w' := by
  by_cases h : plL s = []
  · have P := hide (fun W => places_none s W h)
    have E : rightS s n = false := by unfold rightS; rw [decide_eq_false]; exact fun x => x.1 h
    rw [E]
    clear h E
    obtain ⟨st, wd, bg, sg⟩ := s
    dsimp only at *
    have q0 : Below w.heap.size w (w.alloc (.cells #[.int .i64 st, .int .i64 wd, .bool bg, .bool sg] 23)) := (Below.refl _ _).alloc (Nat.le_refl _) _
    go_enter Tryz.func82, Tryz.ntmps82
    go_wp2_with fail
    (with_reducible refine (P.out _).mono ?_)
    rintro e1 w1 ⟨rfl, q1⟩
    have q := below_next q0 q0.size q1
    clear q0 q1
    go_wp2_with fail
    go_ret
    exact ⟨rfl, q⟩
  · have P := hide (fun W => places_some s W h)
    have hl : 0 < (plL s).length := List.length_pos_iff.2 h
    have hl2 : (plL s).length ≤ 1000 := by have := plL_length h; omega
    by_cases h0 : n < 0
    · have E : rightS s n = false := by unfold rightS; rw [decide_eq_false]; intro x; omega
      rw [E]
      clear h E
      generalize plL s = l at *
      obtain ⟨st, wd, bg, sg⟩ := s
      dsimp only at *
      have q0 : Below w.heap.size w (w.alloc (.cells #[.int .i64 st, .int .i64 wd, .bool bg, .bool sg] 23)) := (Below.refl _ _).alloc (Nat.le_refl _) _
      go_enter Tryz.func82, Tryz.ntmps82
      go_wp2_with fail
      (with_reducible refine (P.out _).mono ?_)
      rintro e1 w1 ⟨g, c, rfl, hr, q1⟩
      have q := below_next q0 q0.size q1
      clear q0 q1
      go_wp2_with fail
      go_ret
      exact ⟨rfl, q⟩
    by_cases h8 : 8 < n
    · have E : rightS s n = false := by unfold rightS; rw [decide_eq_false]; intro x; omega
      rw [E]
      clear h E
      generalize plL s = l at *
      obtain ⟨st, wd, bg, sg⟩ := s
      dsimp only at *
      have q0 : Below w.heap.size w (w.alloc (.cells #[.int .i64 st, .int .i64 wd, .bool bg, .bool sg] 23)) := (Below.refl _ _).alloc (Nat.le_refl _) _
      go_enter Tryz.func82, Tryz.ntmps82
      go_wp2_with fail
      (with_reducible refine (P.out _).mono ?_)
      rintro e1 w1 ⟨g, c, rfl, hr, q1⟩
      have q := below_next q0 q0.size q1
      clear q0 q1
      go_wp2_with fail
      go_ret
      exact ⟨rfl, q⟩
    have E : rightS s n = decide ((mxN (plL s) : Int) < 8 * n) := by
      unfold rightS
      congr 1
      apply propext
      constructor
      · intro x
        have := (mxN_le (plL s) (8 * n - 1).toNat).2 (fun p hp => by have := x.2.2.2 p hp; omega)
        obtain ⟨p, hp⟩ := List.exists_mem_of_ne_nil _ h
        have := x.2.2.2 p hp
        omega
      · intro x
        refine ⟨h, by omega, by omega, fun p hp => ?_⟩
        have := (mxN_le (plL s) (mxN (plL s))).1 (Nat.le_refl _) p hp
        omega
    have hmb : mxN (plL s) ≤ 63 := (mxN_le _ _).2 (fun p hp => by have := plL_lt hp; omega)
    rw [E]
    clear h E
    generalize plL s = l at *
    obtain ⟨m, hm⟩ : ∃ m, m = mxN l := ⟨_, rfl⟩
    rw [← hm] at hmb ⊢
    have HM := hide hm
    clear hm
    obtain ⟨st, wd, bg, sg⟩ := s
    dsimp only at *
    have q0 : Below w.heap.size w (w.alloc (.cells #[.int .i64 st, .int .i64 wd, .bool bg, .bool sg] 23)) := (Below.refl _ _).alloc (Nat.le_refl _) _
    go_enter Tryz.func82, Tryz.ntmps82
    go_wp2_with fail
    (with_reducible refine (P.out _).mono ?_)
    rintro e1 w1 ⟨g, c, rfl, hr, q1⟩
    have q := below_next q0 q0.size q1
    have MX := maxInts_any l (some ⟨g, 0, none⟩) c w1 hr hl hl2
    rw [← HM.out] at MX
    replace MX := hide MX
    clear q0 q1 hr P
    go_wp2_with fail
    (with_reducible refine MX.out.mono ?_)
    rintro e2 w2 ⟨rfl, rfl⟩
    go_wp2_with fail
    go_ret
    exact ⟨rfl, q⟩

set_option maxRecDepth 100000 in
theorem fits_any (s : Sg) (v : Int) (w : World) (hv1 : -9223372036854775808 ≤ v) (hv2 : v < 9223372036854775808) (h : plL s ≠ []) : Calls Tryz.prog 26 #[.agg #[.int .i64 s.start, .int .i64 s.width, .bool s.big, .bool s.sgn], .int .i64 v] w fun e w' => e = .returned (.bool (fitsB s v)) ∧ Below w.heap.size w w' := by
  have P := hide (fun W => places_some s W h)
  obtain ⟨hx, hw1, hw2⟩ := plL_length h
  clear hx h
  generalize plL s = l at *
  obtain ⟨st, wd, bg, sg⟩ := s
  dsimp only at *
  have q0 : Below w.heap.size w (w.alloc (.cells #[.int .i64 st, .int .i64 wd, .bool bg, .bool sg] 23)) := (Below.refl _ _).alloc (Nat.le_refl _) _
  have B0 := hide (World.alloc_heap_new w (.cells #[.int .i64 st, .int .i64 wd, .bool bg, .bool sg] 23))
  cases sg with
  | true =>
    go_enter Tryz.func26, Tryz.ntmps26
    go_wp2_with fail
    (with_reducible refine (P.out _).mono ?_)
    rintro e1 w1 ⟨g, c, rfl, hr, q1⟩
    have q := below_next q0 q0.size q1
    have B1 := heap_below B0.out q1
    obtain ⟨_, c1, _, c3⟩ := sg_cells (s := ⟨st, wd, bg, true⟩) B1
    dsimp only at c1 c3
    clear q0 q1 hr P B0 B1
    go_wp2_with fail
    · rename_i hx
      have E : fitsB ⟨st, wd, bg, true⟩ v = true := by
        unfold fitsB
        have e : (wd - 1).toNat = wd.toNat - 1 := by omega
        simp only [e, hx]
        simp
      rw [E]
      go_ret
      exact ⟨rfl, q⟩
    · rename_i hx
      have E : fitsB ⟨st, wd, bg, true⟩ v = (v / 2 ^ (wd.toNat - 1) == -1) := by
        unfold fitsB
        have e : (wd - 1).toNat = wd.toNat - 1 := by omega
        simp only [e]
        rw [if_pos trivial, Bool.eq_iff_iff]
        simp [hx]
      rw [E]
      go_ret
      refine ⟨?_, q⟩
      show Ending.returned (Value.bool (v / 2 ^ (wd.toNat - 1) == 0 || v / 2 ^ (wd.toNat - 1) == -1)) = _
      rw [show (v / 2 ^ (wd.toNat - 1) == 0) = false from by rw [beq_eq_false_iff_ne]; exact hx]
      rfl
  | false =>
    by_cases h0 : 0 ≤ v
    · by_cases h63 : 63 ≤ wd
      · have E : fitsB ⟨st, wd, bg, false⟩ v = true := by
          unfold fitsB
          simp [h0, h63]
        rw [E]
        go_enter Tryz.func26, Tryz.ntmps26
        go_wp2_with fail
        (with_reducible refine (P.out _).mono ?_)
        rintro e1 w1 ⟨g, c, rfl, hr, q1⟩
        have q := below_next q0 q0.size q1
        have B1 := heap_below B0.out q1
        obtain ⟨_, c1, _, c3⟩ := sg_cells (s := ⟨st, wd, bg, false⟩) B1
        dsimp only at c1 c3
        clear q0 q1 hr P B0 B1 E
        go_wp2_with fail
        go_ret
        exact ⟨rfl, q⟩
      · have E : fitsB ⟨st, wd, bg, false⟩ v = (v / 2 ^ wd.toNat == 0) := by
          unfold fitsB
          rw [Bool.eq_iff_iff]
          simp [h0, h63]
        rw [E]
        go_enter Tryz.func26, Tryz.ntmps26
        go_wp2_with fail
        (with_reducible refine (P.out _).mono ?_)
        rintro e1 w1 ⟨g, c, rfl, hr, q1⟩
        have q := below_next q0 q0.size q1
        have B1 := heap_below B0.out q1
        obtain ⟨_, c1, _, c3⟩ := sg_cells (s := ⟨st, wd, bg, false⟩) B1
        dsimp only at c1 c3
        clear q0 q1 hr P B0 B1 E
        go_wp2_with fail
        go_ret
        refine ⟨?_, q⟩
        show Ending.returned (Value.bool (decide (63 ≤ wd) || v / 2 ^ wd.toNat == 0)) = _
        rw [decide_eq_false (by omega : ¬ 63 ≤ wd)]
        rfl
    · have E : fitsB ⟨st, wd, bg, false⟩ v = false := by
        unfold fitsB
        simp [h0]
      rw [E]
      go_enter Tryz.func26, Tryz.ntmps26
      go_wp2_with fail
      (with_reducible refine (P.out _).mono ?_)
      rintro e1 w1 ⟨g, c, rfl, hr, q1⟩
      have q := below_next q0 q0.size q1
      have B1 := heap_below B0.out q1
      obtain ⟨_, c1, _, c3⟩ := sg_cells (s := ⟨st, wd, bg, false⟩) B1
      dsimp only at c1 c3
      clear q0 q1 hr P B0 B1 E
      go_wp2_with fail
      go_ret
      exact ⟨rfl, q⟩

/-- Why bytes are not of a signal. -/
def wellF (n : Int) (s : Sg) : Int := if plL s = [] then 1 else if 8 < n ∨ rightS s n = false then 23 else 0
set_option maxRecDepth 100000 in
theorem sigWell_any (d : ByteArray) (s : Sg) (w : World) (hd : d.size ≤ 1000000) : Calls Tryz.prog 102 #[.string d, .agg #[.int .i64 s.start, .int .i64 s.width, .bool s.big, .bool s.sgn]] w fun e w' => e = .returned (.int .i64 (wellF d.size s)) ∧ Below w.heap.size w w' := by
  have RT := hide (fun W => sigRight_any s d.size W)
  by_cases h : plL s = []
  · have P := hide (fun W => places_none s W h)
    have E : wellF d.size s = 1 := by unfold wellF; rw [if_pos h]
    rw [E]
    clear h E RT
    obtain ⟨st, wd, bg, sg⟩ := s
    dsimp only at *
    have q0 : Below w.heap.size w (w.alloc (.cells #[.int .i64 st, .int .i64 wd, .bool bg, .bool sg] 23)) := (Below.refl _ _).alloc (Nat.le_refl _) _
    go_enter Tryz.func102, Tryz.ntmps102
    go_wp2_with fail
    (with_reducible refine (P.out _).mono ?_)
    rintro e1 w1 ⟨rfl, q1⟩
    have q := below_next q0 q0.size q1
    clear q0 q1
    go_wp2_with fail
    go_ret
    exact ⟨rfl, q⟩
  · have P := hide (fun W => places_some s W h)
    have E : wellF d.size s = if 8 < (d.size : Int) ∨ rightS s d.size = false then 23 else 0 := by unfold wellF; rw [if_neg h]
    by_cases h8 : 8 < (d.size : Int)
    · rw [E, if_pos (.inl h8)]
      clear h E RT
      generalize plL s = l at *
      obtain ⟨st, wd, bg, sg⟩ := s
      dsimp only at *
      have q0 : Below w.heap.size w (w.alloc (.cells #[.int .i64 st, .int .i64 wd, .bool bg, .bool sg] 23)) := (Below.refl _ _).alloc (Nat.le_refl _) _
      go_enter Tryz.func102, Tryz.ntmps102
      go_wp2_with fail
      (with_reducible refine (P.out _).mono ?_)
      rintro e1 w1 ⟨g, c, rfl, hr, q1⟩
      have q := below_next q0 q0.size q1
      clear q0 q1 hr
      go_wp2_with fail
      go_ret
      exact ⟨rfl, q⟩
    · have E2 : wellF d.size s = if rightS s d.size = false then 23 else 0 := by rw [E]; simp [h8]
      rw [E2]
      clear h E E2
      generalize rightS s d.size = R at *
      generalize plL s = l at *
      obtain ⟨st, wd, bg, sg⟩ := s
      dsimp only at *
      have q0 : Below w.heap.size w (w.alloc (.cells #[.int .i64 st, .int .i64 wd, .bool bg, .bool sg] 23)) := (Below.refl _ _).alloc (Nat.le_refl _) _
      have B0 := hide (World.alloc_heap_new w (.cells #[.int .i64 st, .int .i64 wd, .bool bg, .bool sg] 23))
      cases R with
      | true =>
        rw [if_neg (by simp)]
        go_enter Tryz.func102, Tryz.ntmps102
        go_wp2_with fail
        (with_reducible refine (P.out _).mono ?_)
        rintro e1 w1 ⟨g, c, rfl, hr, q1⟩
        have Q := hide (below_next q0 q0.size q1)
        have B1 := heap_below B0.out q1
        obtain ⟨c0, c1, c2, c3⟩ := sg_cells (s := ⟨st, wd, bg, sg⟩) B1
        dsimp only at c0 c1 c2 c3
        clear q0 q1 hr P B0 B1
        go_wp2_with fail
        (with_reducible refine (RT.out _).mono ?_)
        rintro e2 w2 ⟨rfl, q2⟩
        have q := below_next Q.out Q.out.size q2
        clear Q q2 c0 c1 c2 c3
        go_wp2_with fail
        go_ret
        exact ⟨rfl, q⟩
      | false =>
        rw [if_pos rfl]
        go_enter Tryz.func102, Tryz.ntmps102
        go_wp2_with fail
        (with_reducible refine (P.out _).mono ?_)
        rintro e1 w1 ⟨g, c, rfl, hr, q1⟩
        have Q := hide (below_next q0 q0.size q1)
        have B1 := heap_below B0.out q1
        obtain ⟨c0, c1, c2, c3⟩ := sg_cells (s := ⟨st, wd, bg, sg⟩) B1
        dsimp only at c0 c1 c2 c3
        clear q0 q1 hr P B0 B1
        go_wp2_with fail
        (with_reducible refine (RT.out _).mono ?_)
        rintro e2 w2 ⟨rfl, q2⟩
        have q := below_next Q.out Q.out.size q2
        clear Q q2 c0 c1 c2 c3
        go_wp2_with fail
        go_ret
        exact ⟨rfl, q⟩
end Go.Proofs.YtnhegnneohpkaaaGreat

/- Bytes of a string in a block of the call's own ('[]byte(s)'), written in place; a bit of a byte. Nothing of the program's text. -/
namespace Go.Proofs.YtnhegnneohpkaaaGreat
open Go.ChangeShapes Go.WideShapes Go.ChangeAt Go.RowKit
open SG

theorem and_one_i64 (x : Int) : bits .and .i64 x 1 = x % 2 := by
  have h : ((BitVec.ofInt 64 x) &&& (BitVec.ofInt 64 1)).toNat = (x % 2).toNat := by
    rw [BitVec.toNat_and, BitVec.toNat_ofInt, BitVec.toNat_ofInt]
    have e1 : ((1 : Int) % ((2 ^ 64 : Nat) : Int)).toNat = 1 := by decide
    rw [e1, Nat.and_one_is_mod]
    have : x % ((2 ^ 64 : Nat) : Int) % 2 = x % 2 := Int.emod_emod_of_dvd _ (by decide)
    have h0 := Int.emod_nonneg x (show ((2 ^ 64 : Nat) : Int) ≠ 0 by decide)
    omega
  have h2 := Int.emod_two_eq x
  show IntKind.i64.wrap (((BitVec.ofInt 64 x) &&& (BitVec.ofInt 64 1)).toNat : Int) = x % 2
  rw [h]
  rcases h2 with h2 | h2 <;> rw [h2] <;> decide
theorem byte_set : ∀ (x : Fin 256) (j : Fin 8) (b : Bool), bits .or .u8 (bits .andNot .u8 (x.val : Int) (IntKind.u8.wrap (2 ^ j.val))) (IntKind.u8.wrap ((if b then 1 else 0) * 2 ^ j.val)) = ((setN x.val j.val b : Nat) : Int) := by decide +kernel
theorem byte_get : ∀ (x : Fin 256) (j : Fin 8), (x.val : Int) / 2 ^ j.val % 2 = if x.val.testBit j.val then 1 else 0 := by decide +kernel

/-- The bytes l lie at block g, open to stores. -/
def ByB (W : World) (g : Nat) (l : List UInt8) : Prop := ∃ cs n, W.heap[g]? = some (.cells cs 5 (n, n + 1)) ∧ l.length ≤ n ∧ ∀ j (hj : j < l.length), cs[j]? = some (.int .u8 (l[j].toNat : Int))
theorem ByB.lt {W : World} {g : Nat} {l : List UInt8} (h : ByB W g l) : g < W.heap.size := by obtain ⟨cs, n, h, _⟩ := h; exact heap_lt h
theorem ByB.below {W W' : World} {g : Nat} {l : List UInt8} (h : ByB W g l) (q : Below W.heap.size W W') : ByB W' g l := by obtain ⟨cs, n, h, r⟩ := h; exact ⟨cs, n, heap_below h q, r⟩
theorem ByB.drew {W : World} {g : Nat} {l : List UInt8} (h : ByB W g l) : ByB W.drew g l := h
theorem ByB.cell {W : World} {g : Nat} {l : List UInt8} (h : ByB W g l) {j : Nat} (hj : j < l.length) : W.cell? ⟨g, j, none⟩ = some (.int .u8 (l[j].toNat : Int)) ∧ W.frozen? ⟨g, j, none⟩ = false := by
  obtain ⟨cs, n, h, hn, hc⟩ := h
  refine ⟨?_, ?_⟩
  · simp [World.cell?, h, hc j hj]
  · simp only [World.frozen?, h]
    simp; omega
theorem ByB.set {W : World} {g : Nat} {l : List UInt8} (h : ByB W g l) {j : Nat} (hj : j < l.length) (x : UInt8) : ByB (W.setCell ⟨g, j, none⟩ (.int .u8 (x.toNat : Int))) g (l.set j x) := by
  obtain ⟨cs, n, h, hn, hc⟩ := h
  refine ⟨cs.setIfInBounds j (.int .u8 (x.toNat : Int)), n, ?_, by simpa using hn, fun i hi => ?_⟩
  · simp [World.setCell, Array.getElem?_modify, h]
  · have hi' : i < l.length := by simpa using hi
    have := hc i hi'
    have hz : i < cs.size := (Array.getElem?_eq_some_iff.1 this).1
    rw [Array.getElem?_setIfInBounds, List.getElem_set]
    by_cases e : j = i
    · subst e; rw [if_pos rfl, if_pos hz, if_pos rfl]
    · rw [if_neg e, if_neg e]; exact this
theorem ByB.made (w : World) (s : ByteArray) (c : Nat) (hc : s.size ≤ c) : ByB (w.alloc (.cells (bytesRow s c) 5 ((bytesRow s c).size, (bytesRow s c).size + 1))) w.heap.size s.data.toList := by
  refine ⟨_, _, World.alloc_heap_new w _, ?_, fun j hj => ?_⟩
  · have : s.data.toList.length = s.size := by simp
    rw [this]
    simp [bytesRow]
  · have hz : j < s.data.size := by simpa using hj
    have hz2 : j < s.size := hz
    have hg : s.data[j]? = some s.data[j] := Array.getElem?_eq_getElem hz
    simp [bytesRow, Array.getElem?_append, hz2, hg]
end Go.Proofs.YtnhegnneohpkaaaGreat
