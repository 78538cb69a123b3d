/- PrioKinds. -/
import Derived.Test.YtbdgifngldipcaaPrF
import Derived.Test.YtbdgifngldipcaaFrame
namespace Go.Proofs.Ytbdgifngldipcaa
open Go.ChangeShapes Go.WideShapes Go.ChangeAt Go.RowKit
open FP (bit bitsOf Fr bitB)

def al05 : List Fr := [⟨5, false, false, 0, ⟨#[]⟩⟩, ⟨3, false, false, 0, ⟨#[]⟩⟩, ⟨4, false, false, 0, ⟨#[]⟩⟩]
theorem al05_best : PP.Best al05 1 := ⟨by decide, by decide +kernel⟩
theorem al05_left : leftIdx (lostF al05) al05.length = [1] := by
  have h0 : ¬ lostF al05 0 < 0 := fun h => absurd ((PP.left_iff al05_best (j := 0) (by decide)).1 h) (by decide +kernel)
  have h1 : lostF al05 1 < 0 := (PP.left_iff al05_best (j := 1) (by decide)).2 rfl
  have h2 : ¬ lostF al05 2 < 0 := fun h => absurd ((PP.left_iff al05_best (j := 2) (by decide)).1 h) (by decide +kernel)
  show leftIdx (lostF al05) 3 = [1]
  rw [leftIdx_out h2, leftIdx_in h1, leftIdx_out h0]
  rfl

theorem rd_cell {w : World} {B : Nat} {A : Option Addr} {v : Value} (h : Rd w B A 1 [[v]]) : ∃ b off, A = some ⟨b, off, none⟩ ∧ w.cell? ⟨b, off, none⟩ = some v := by
  obtain ⟨b, off, e, _, hc⟩ := h (by simp)
  exact ⟨b, off, e, by simpa using hc 0 [v] 0 v rfl rfl⟩

set_option maxRecDepth 100000 in
theorem alive05_any (w : World) : Calls Try.prog 27 #[] w fun e w' => e = .returned (.bool true) ∧ Below w.heap.size w w' := by
  have R : FrR (w.alloc (.cells (al05.map frc).flatten.toArray 39 (0, 0))) (w.alloc (.cells (al05.map frc).flatten.toArray 39 (0, 0))).heap.size (some ⟨w.heap.size, 0, none⟩) al05 := by
    have := Rd.new w (al05.map frc) 5 39 (0, 0) (by intro r hr; obtain ⟨x, _, rfl⟩ := List.mem_map.1 hr; rfl)
    unfold FrR
    rw [World.size_alloc]
    exact this
  have C := hide (Contest_well al05 (some ⟨w.heap.size, 0, none⟩) 3 _ R (by decide) (by decide) (by decide) (by decide +kernel))
  have q0 : Below w.heap.size w (w.alloc (.cells (al05.map frc).flatten.toArray 39 (0, 0))) := (Below.refl _ _).alloc (Nat.le_refl _) _
  have Q0 := hide q0
  clear q0 R
  go_enter Try.func27, Try.ntmps27
  go_wp2_with fail
  refine C.out.mono ?_
  rintro e1 w1 ⟨AL, cL, AT, cT, rfl, rl, _, q1⟩
  rw [show leftRows (lostF al05) al05.length = [[.int .i64 1]] by unfold leftRows; rw [al05_left]; rfl] at rl
  rw [al05_left]
  obtain ⟨b, off, rfl, hc⟩ := rd_cell rl
  clear rl
  go_wp2
  go_ret
  exact ⟨rfl, below_next Q0.out Q0.out.size q1⟩

theorem less_is (f g : Fr) (v : Bool) (h : lessB f g = v) (hf : f.id < 4294967296) (hg : g.id < 4294967296) (w : World) :
    Calls Try.prog 26 #[.agg #[.int .u32 f.id, .bool f.ext, .bool f.rem, .int .i64 f.dlc, .string f.data], .agg #[.int .u32 g.id, .bool g.ext, .bool g.rem, .int .i64 g.dlc, .string g.data]] w fun e w' => e = .returned (.bool v) ∧ Below w.heap.size w w' := by
  rw [← h]
  exact Less_any f g w hf hg

def sh (a : Nat) (r : Bool) : Fr := ⟨a, false, r, 0, ⟨#[]⟩⟩
def lo (N : Nat) : Fr := ⟨N, true, false, 0, ⟨#[]⟩⟩
theorem sh_right {a : Nat} (ha : a < 2048) (r : Bool) : FP.rightB (sh a r) = true := by cases r <;> simp [FP.rightB, sh, ha] <;> rfl
theorem lo_right {a c : Nat} (ha : a < 2048) (hc : c < 262144) : FP.rightB (lo (a * 262144 + c)) = true := by
  have h : a * 262144 + c < 536870912 := by omega
  simp [FP.rightB, lo, h]; rfl
theorem sh_field (a : Nat) (r : Bool) : fieldF (sh a r) = bitsOf a 11 ++ [bitB r, 48] := by simp [fieldF, sh]
theorem lo_field {a c : Nat} (hc : c < 262144) : ∃ t, fieldF (lo (a * 262144 + c)) = bitsOf a 11 ++ ([49, 49] ++ t) := by
  have h := FP.bitsOf_append (a * 262144 + c) 11 18
  have hd : (a * 262144 + c) / 2 ^ 18 = a := by omega
  rw [hd] at h
  refine ⟨(bitsOf (a * 262144 + c) 29).drop 11 ++ [48], ?_⟩
  have ht : (bitsOf (a * 262144 + c) 29).take 11 = bitsOf a 11 := by
    rw [h, List.take_left' (FP.bitsOf_length _ _)]
  simp [fieldF, lo, ht, bitB]
theorem ls_ss {a b : Nat} (ha : a < 2048) (hb : b < 2048) (r s : Bool) : lessB (sh a r) (sh b s) = if a = b then (!r && s) else decide (a < b) := by
  rw [PP.lessB_bl (sh_right ha r) (sh_right hb s), sh_field, sh_field, PP.bl_bits a b 11 (by omega) (by omega)]
  cases r <;> cases s <;> simp [PP.bl, Op.bytesLess, bitB]
theorem ls_sl {a b c : Nat} (ha : a < 2048) (hb : b < 2048) (hc : c < 262144) (r : Bool) : lessB (sh a r) (lo (b * 262144 + c)) = decide (a ≤ b) := by
  obtain ⟨t, ht⟩ := lo_field (a := b) hc
  rw [PP.lessB_bl (sh_right ha r) (lo_right hb hc), sh_field, ht, PP.bl_bits a b 11 (by omega) (by omega)]
  by_cases h : a = b
  · subst h; cases r <;> simp [PP.bl, Op.bytesLess, bitB]
  · rw [if_neg h, decide_eq_decide]; omega
theorem ls_ls {a b c : Nat} (ha : a < 2048) (hb : b < 2048) (hc : c < 262144) (r : Bool) : lessB (lo (a * 262144 + c)) (sh b r) = decide (a < b) := by
  obtain ⟨t, ht⟩ := lo_field (a := a) hc
  rw [PP.lessB_bl (lo_right ha hc) (sh_right hb r), sh_field, ht, PP.bl_bits a b 11 (by omega) (by omega)]
  by_cases h : a = b
  · subst h; cases r <;> simp [PP.bl, Op.bytesLess, bitB]
  · rw [if_neg h]

/-- A frame lies in the block b. -/
def FrB (W : World) (b : Nat) (f : Fr) : Prop := b < W.heap.size ∧ W.cell? ⟨b, 0, none⟩ = some (.int .u32 f.id) ∧ W.cell? ⟨b, 1, none⟩ = some (.bool f.ext) ∧ W.cell? ⟨b, 2, none⟩ = some (.bool f.rem) ∧ W.cell? ⟨b, 3, none⟩ = some (.int .i64 f.dlc) ∧ W.cell? ⟨b, 4, none⟩ = some (.string f.data)
theorem FrB.below {W W' : World} {b : Nat} {f : Fr} (h : FrB W b f) (hb : Below W.heap.size W W') : FrB W' b f :=
  ⟨Nat.lt_of_lt_of_le h.1 hb.size, cellBelow hb h.1 h.2.1, cellBelow hb h.1 h.2.2.1, cellBelow hb h.1 h.2.2.2.1, cellBelow hb h.1 h.2.2.2.2.1, cellBelow hb h.1 h.2.2.2.2.2⟩

theorem or_low (a c : Nat) (ha : a < 2048) (hc : c < 262144) : bits BinOp.or IntKind.u32 ((a : Int) * 262144) (c : Int) = ((a * 262144 + c : Nat) : Int) := by
  have h : bits BinOp.or IntKind.u32 ((a * 262144 : Nat) : Int) (c : Int) = ((a * 262144 ||| c : Nat) : Int) := Go.u32_or_nat _ _ (by omega) (by omega)
  have e := Nat.two_pow_add_eq_or_of_lt (i := 18) (b := c) (by omega) a
  rw [show ((a : Int) * 262144) = ((a * 262144 : Nat) : Int) by simp, h, show a * 262144 = 2 ^ 18 * a by omega, ← e]

set_option maxRecDepth 100000 in
set_option maxHeartbeats 2000000 in
theorem prioKinds_walk (a b c N : Nat) (hN : N = a * 262144 + c) (id other low : Int) (_ : 0 ≤ id) (_ : 0 ≤ other) (_ : 0 ≤ low) (ha : id.tmod 2048 = a) (hb : other.tmod 2048 = b) (hc : low.tmod 262144 = c) (ha' : a < 2048) (hb' : b < 2048) (hc' : c < 262144) (w : World) :
    Calls Try.prog 7 #[.int .u32 id, .int .u32 other, .int .u32 low] w fun e w' => e = .returned (.bool true) ∧ Below w.heap.size w w' := by
  have HO := or_low a c ha' hc'
  have hNb : N < 4294967296 := by omega
  rw [← hN] at HO
  have L1 := hide (less_is (sh a false) (sh a true) true (by rw [ls_ss ha' ha']; simp) (by simp only [sh]; omega) (by simp only [sh]; omega))
  have L2 := hide (less_is (sh a true) (sh a false) false (by rw [ls_ss ha' ha']; simp) (by simp only [sh]; omega) (by simp only [sh]; omega))
  have L3 := hide (less_is (sh a false) (lo N) true (by rw [hN, ls_sl ha' ha' hc']; simp) (by simp only [sh]; omega) (by simp only [lo]; omega))
  have L4 := hide (less_is (sh a true) (lo N) true (by rw [hN, ls_sl ha' ha' hc']; simp) (by simp only [sh]; omega) (by simp only [lo]; omega))
  have L5 := hide (less_is (lo N) (sh a true) false (by rw [hN, ls_ls ha' ha' hc']; simp) (by simp only [lo]; omega) (by simp only [sh]; omega))
  have L6 := hide (less_is (sh a false) (sh a false) false (by rw [ls_ss ha' ha']; simp) (by simp only [sh]; omega) (by simp only [sh]; omega))
  have L7 := hide (less_is (sh a false) (sh b false) (decide (a < b)) (by rw [ls_ss ha' hb']; by_cases h : a = b <;> simp [h]) (by simp only [sh]; omega) (by simp only [sh]; omega))
  have L8 := hide (less_is (lo N) (sh b false) (decide (a < b)) (by rw [hN]; exact ls_ls ha' hb' hc' false) (by simp only [lo]; omega) (by simp only [sh]; omega))
  have ALV := hide alive05_any
  clear hN
  go_enter Try.func7, Try.ntmps7
  go_wp2_with fail
  clear HO ha hb hc
  have q0 : Below w.heap.size w (((w.alloc (.cells #[.int .u32 a, .bool false, .bool false, .int .i64 0, .string ⟨#[]⟩] 39)).alloc (.cells #[.int .u32 a, .bool false, .bool true, .int .i64 0, .string ⟨#[]⟩] 39)).alloc (.cells #[.int .u32 (N : Int), .bool true, .bool false, .int .i64 0, .string ⟨#[]⟩] 39)) :=
    (((Below.refl _ _).alloc (Nat.le_refl _) _).alloc (by simp) _).alloc (by simp; omega) _
  have F1 : FrB (((w.alloc (.cells #[.int .u32 a, .bool false, .bool false, .int .i64 0, .string ⟨#[]⟩] 39)).alloc (.cells #[.int .u32 a, .bool false, .bool true, .int .i64 0, .string ⟨#[]⟩] 39)).alloc (.cells #[.int .u32 (N : Int), .bool true, .bool false, .int .i64 0, .string ⟨#[]⟩] 39)) w.heap.size (sh a false) := by
    refine ⟨by simp; omega, ?_, ?_, ?_, ?_, ?_⟩ <;> simp [go_sem, sh]
  have F2 : FrB (((w.alloc (.cells #[.int .u32 a, .bool false, .bool false, .int .i64 0, .string ⟨#[]⟩] 39)).alloc (.cells #[.int .u32 a, .bool false, .bool true, .int .i64 0, .string ⟨#[]⟩] 39)).alloc (.cells #[.int .u32 (N : Int), .bool true, .bool false, .int .i64 0, .string ⟨#[]⟩] 39)) (w.heap.size + 1) (sh a true) := by
    refine ⟨by simp, ?_, ?_, ?_, ?_, ?_⟩ <;> simp [go_sem, sh]
  have F3 : FrB (((w.alloc (.cells #[.int .u32 a, .bool false, .bool false, .int .i64 0, .string ⟨#[]⟩] 39)).alloc (.cells #[.int .u32 a, .bool false, .bool true, .int .i64 0, .string ⟨#[]⟩] 39)).alloc (.cells #[.int .u32 (N : Int), .bool true, .bool false, .int .i64 0, .string ⟨#[]⟩] 39)) (w.heap.size + 1 + 1) (lo N) := by
    refine ⟨by simp, ?_, ?_, ?_, ?_, ?_⟩ <;> simp [go_sem, lo]
  generalize (((w.alloc (.cells #[.int .u32 a, .bool false, .bool false, .int .i64 0, .string ⟨#[]⟩] 39)).alloc (.cells #[.int .u32 a, .bool false, .bool true, .int .i64 0, .string ⟨#[]⟩] 39)).alloc (.cells #[.int .u32 (N : Int), .bool true, .bool false, .int .i64 0, .string ⟨#[]⟩] 39)) = W0 at *
  refine (L1.out _).mono ?_
  rintro e1 W1 ⟨rfl, q1⟩
  have q0 := below_next q0 q0.size q1
  have F1 := F1.below q1
  have F2 := F2.below q1
  have F3 := F3.below q1
  obtain ⟨-, c10, c11, c12, c13, c14⟩ := (show True ∧ _ from ⟨trivial, F1⟩).2
  obtain ⟨-, c20, c21, c22, c23, c24⟩ := (show True ∧ _ from ⟨trivial, F2⟩).2
  obtain ⟨-, c30, c31, c32, c33, c34⟩ := (show True ∧ _ from ⟨trivial, F3⟩).2
  dsimp only [sh, lo] at c10 c11 c12 c13 c14 c20 c21 c22 c23 c24 c30 c31 c32 c33 c34
  go_wp2_with fail
  refine (L2.out _).mono ?_
  rintro e2 W2 ⟨rfl, q2⟩
  have q0 := below_next q0 q0.size q2
  have F1 := F1.below q2
  have F2 := F2.below q2
  have F3 := F3.below q2
  clear c10 c11 c12 c13 c14 c20 c21 c22 c23 c24 c30 c31 c32 c33 c34
  obtain ⟨-, c10, c11, c12, c13, c14⟩ := (show True ∧ _ from ⟨trivial, F1⟩).2
  obtain ⟨-, c20, c21, c22, c23, c24⟩ := (show True ∧ _ from ⟨trivial, F2⟩).2
  obtain ⟨-, c30, c31, c32, c33, c34⟩ := (show True ∧ _ from ⟨trivial, F3⟩).2
  dsimp only [sh, lo] at c10 c11 c12 c13 c14 c20 c21 c22 c23 c24 c30 c31 c32 c33 c34
  go_wp2_with fail
  refine (L3.out _).mono ?_
  rintro e3 W3 ⟨rfl, q3⟩
  have q0 := below_next q0 q0.size q3
  have F1 := F1.below q3
  have F2 := F2.below q3
  have F3 := F3.below q3
  clear c10 c11 c12 c13 c14 c20 c21 c22 c23 c24 c30 c31 c32 c33 c34
  obtain ⟨-, c10, c11, c12, c13, c14⟩ := (show True ∧ _ from ⟨trivial, F1⟩).2
  obtain ⟨-, c20, c21, c22, c23, c24⟩ := (show True ∧ _ from ⟨trivial, F2⟩).2
  obtain ⟨-, c30, c31, c32, c33, c34⟩ := (show True ∧ _ from ⟨trivial, F3⟩).2
  dsimp only [sh, lo] at c10 c11 c12 c13 c14 c20 c21 c22 c23 c24 c30 c31 c32 c33 c34
  go_wp2_with fail
  refine (L4.out _).mono ?_
  rintro e4 W4 ⟨rfl, q4⟩
  have q0 := below_next q0 q0.size q4
  have F1 := F1.below q4
  have F2 := F2.below q4
  have F3 := F3.below q4
  clear c10 c11 c12 c13 c14 c20 c21 c22 c23 c24 c30 c31 c32 c33 c34
  obtain ⟨-, c10, c11, c12, c13, c14⟩ := (show True ∧ _ from ⟨trivial, F1⟩).2
  obtain ⟨-, c20, c21, c22, c23, c24⟩ := (show True ∧ _ from ⟨trivial, F2⟩).2
  obtain ⟨-, c30, c31, c32, c33, c34⟩ := (show True ∧ _ from ⟨trivial, F3⟩).2
  dsimp only [sh, lo] at c10 c11 c12 c13 c14 c20 c21 c22 c23 c24 c30 c31 c32 c33 c34
  go_wp2_with fail
  refine (L5.out _).mono ?_
  rintro e5 W5 ⟨rfl, q5⟩
  have q0 := below_next q0 q0.size q5
  have F1 := F1.below q5
  have F2 := F2.below q5
  have F3 := F3.below q5
  clear c10 c11 c12 c13 c14 c20 c21 c22 c23 c24 c30 c31 c32 c33 c34
  obtain ⟨-, c10, c11, c12, c13, c14⟩ := (show True ∧ _ from ⟨trivial, F1⟩).2
  obtain ⟨-, c20, c21, c22, c23, c24⟩ := (show True ∧ _ from ⟨trivial, F2⟩).2
  obtain ⟨-, c30, c31, c32, c33, c34⟩ := (show True ∧ _ from ⟨trivial, F3⟩).2
  dsimp only [sh, lo] at c10 c11 c12 c13 c14 c20 c21 c22 c23 c24 c30 c31 c32 c33 c34
  go_wp2_with fail
  refine (L6.out _).mono ?_
  rintro e6 W6 ⟨rfl, q6⟩
  have q0 := below_next q0 q0.size q6
  have F1 := F1.below q6
  have F2 := F2.below q6
  have F3 := F3.below q6
  clear c10 c11 c12 c13 c14 c20 c21 c22 c23 c24 c30 c31 c32 c33 c34
  obtain ⟨-, c10, c11, c12, c13, c14⟩ := (show True ∧ _ from ⟨trivial, F1⟩).2
  obtain ⟨-, c20, c21, c22, c23, c24⟩ := (show True ∧ _ from ⟨trivial, F2⟩).2
  obtain ⟨-, c30, c31, c32, c33, c34⟩ := (show True ∧ _ from ⟨trivial, F3⟩).2
  dsimp only [sh, lo] at c10 c11 c12 c13 c14 c20 c21 c22 c23 c24 c30 c31 c32 c33 c34
  go_wp2_with fail
  refine (ALV.out _).mono ?_
  rintro e7 W7 ⟨rfl, q7⟩
  have q0 := below_next q0 q0.size q7
  have F1 := F1.below q7
  have F2 := F2.below q7
  have F3 := F3.below q7
  clear c10 c11 c12 c13 c14 c20 c21 c22 c23 c24 c30 c31 c32 c33 c34
  obtain ⟨-, c10, c11, c12, c13, c14⟩ := (show True ∧ _ from ⟨trivial, F1⟩).2
  obtain ⟨-, c20, c21, c22, c23, c24⟩ := (show True ∧ _ from ⟨trivial, F2⟩).2
  obtain ⟨-, c30, c31, c32, c33, c34⟩ := (show True ∧ _ from ⟨trivial, F3⟩).2
  dsimp only [sh, lo] at c10 c11 c12 c13 c14 c20 c21 c22 c23 c24 c30 c31 c32 c33 c34
  go_wp2_with fail
  by_cases hab : a < b
  · rw [show decide (a < b) = true from decide_eq_true hab] at L7 L8
    have hab' : (a : Int) < (b : Int) := by omega
    refine (L7.out _).mono ?_
    rintro e8 W8 ⟨rfl, q8⟩
    have q0 := below_next q0 q0.size q8
    have F1 := F1.below q8
    have F2 := F2.below q8
    have F3 := F3.below q8
    clear c10 c11 c12 c13 c14 c20 c21 c22 c23 c24 c30 c31 c32 c33 c34
    obtain ⟨-, c10, c11, c12, c13, c14⟩ := (show True ∧ _ from ⟨trivial, F1⟩).2
    obtain ⟨-, c20, c21, c22, c23, c24⟩ := (show True ∧ _ from ⟨trivial, F2⟩).2
    obtain ⟨-, c30, c31, c32, c33, c34⟩ := (show True ∧ _ from ⟨trivial, F3⟩).2
    dsimp only [sh, lo] at c10 c11 c12 c13 c14 c20 c21 c22 c23 c24 c30 c31 c32 c33 c34
    go_wp2_with fail
    refine (L8.out _).mono ?_
    rintro e9 W9 ⟨rfl, q9⟩
    go_wp2
    go_ret
    exact ⟨rfl, below_next q0 q0.size q9⟩
  · rw [show decide (a < b) = false from decide_eq_false hab] at L7
    have hab' : ¬ (a : Int) < (b : Int) := by omega
    have hab2 : (b : Int) ≤ (a : Int) := by omega
    refine (L7.out _).mono ?_
    rintro e8 W8 ⟨rfl, q8⟩
    go_wp2
    go_ret
    exact ⟨rfl, below_next q0 q0.size q8⟩
end Go.Proofs.Ytbdgifngldipcaa
