import Derived.Test.YtkmddjbialpppaaGreatDoorMgCoZ
import Derived.Test.YtkmddjbialpppaaGreatDoorMgPrA
namespace Go.Proofs.YtkmddjbialpppaaGreatDoor
open Go.ChangeShapes Go.WideShapes Go.ChangeAt Go.RowKit
open FP (bit aY numOf Fr dT gY bT cC)
theorem btW : BT 316 := ⟨by kernel_rfl, by decide⟩
def IsW (B b : Nat) (l : List UInt8) (w : World) : Prop := Lib.IsBuilder 316 5 B b (Lib.byteCells l) w
theorem IsW.keep {B b : Nat} {l : List UInt8} {w w' : World} (h : IsW B b l w) (hb : Below w.heap.size w w') : IsW B b l w' := bld_keep h hb
set_option maxRecDepth 100000 in
theorem jN (b B : Nat) (x : Bool) (l : List UInt8) (w : World) (h : IsW B b l w) (hl : l.length ≤ 500000) (hB : B ≤ w.heap.size) :
    Calls Tryz.prog 217 #[.pointer (some ⟨b, 0, none⟩), .bool x] w fun e w' => e = .returned (.tuple #[]) ∧ IsW B b (l ++ [dT x]) w' ∧ Below B w w' := by
  have W := aA (fun s hs => ws_any _ b B btW l s w h hs hB)
  cases x
  all_goals
    go_enter Tryz.func217, Tryz.ntmps217
    go_wp2_with fail
    refine (W.out _ (by simp [ByteArray.size]; omega)).mono ?_
    rintro e w1 ⟨rfl, r, q⟩
    have R := aA r
    clear r
    go_wp2
    go_end0
    exact ⟨rfl, R.out, q⟩
set_option maxRecDepth 100000 in
theorem eI (b B : Nat) (N K : Int) (n k : Nat) (hN : N = n) (hK : K = k) (hk : k ≤ 64) (hn : n < 2 ^ k) (l : List UInt8) (w : World) (h : IsW B b l w) (hl : l.length ≤ 500000) (hB : B ≤ w.heap.size) :
    Calls Tryz.prog 218 #[.pointer (some ⟨b, 0, none⟩), .int .u64 N, .int .i64 K] w fun e w' => e = .returned (.tuple #[]) ∧ IsW B b (l ++ aY n k) w' ∧ Below B w w' := by
  subst hN
  subst hK
  have O := aA (jY n k w hk hn)
  have W := aA (fun w1 (q : Below w.heap.size w w1) => ws_any _ b B btW l ⟨(aY n k).toArray⟩ w1 (h.keep q) (by simp [ByteArray.size, FP.bitsOf_length]; omega) (by have := q.size; omega))
  go_enter Tryz.func218, Tryz.ntmps218
  go_wp2_with fail
  refine O.out.mono ?_
  rintro e w1 ⟨rfl, q1⟩
  go_wp2_with fail
  refine (W.out w1 q1).mono ?_
  rintro e w2 ⟨rfl, r, q2⟩
  have R := aA r
  clear r
  go_wp2
  go_end0
  exact ⟨rfl, by unfold IsW; simpa using R.out, (q1.mono hB).trans q2⟩
def tailF (rem : Bool) (dlc : Int) (l : List UInt8) : List UInt8 := dT rem :: (48 :: 48 :: (aY dlc.toNat 4 ++ bT l))
theorem wrap_byte (c : UInt8) : IntKind.u64.wrap (c.toNat : Int) = (c.toNat : Int) := by
  have := UInt8.toNat_lt c
  simp [IntKind.wrap, IntKind.bits, IntKind.signed]
  omega
theorem low_bits (id : Nat) (h : id < 4294967296) : IntKind.u64.wrap (bits BinOp.and IntKind.u32 (id : Int) 262143) = ((id % 262144 : Nat) : Int) := by
  have e := u32_and_nat id 262143 h (by omega)
  rw [show ((262143 : Nat) : Int) = 262143 from rfl] at e
  rw [e, show (262143 : Nat) = 2 ^ 18 - 1 by decide, Nat.and_two_pow_sub_one_eq_mod, IntKind.wrap_u64]
  omega
theorem jS (l : List UInt8) (c : UInt8) : bT (l ++ [c]) = bT l ++ aY c.toNat 8 := by simp [bT]
set_option maxRecDepth 100000 in
set_option maxHeartbeats 2000000 in
theorem head_any (f : Fr) (w : World) (hr : FP.rightB f = true) :
    Calls Tryz.prog 178 #[.agg #[.int .u32 f.id, .bool f.ext, .bool f.rem, .int .i64 f.dlc, .string f.data]] w fun e w' => e = .returned (.string ⟨(cC f).toArray⟩) ∧ Below w.heap.size w w' := by
  obtain ⟨id, ext, rem, dlc, data⟩ := f
  have hr' : id < (if ext then 536870912 else 2048) ∧ 0 ≤ dlc ∧ dlc ≤ 8 ∧ data.size ≤ 8 := by
    unfold FP.rightB at hr
    generalize data.size = m at *
    cases rem <;> simp at hr <;> (refine ⟨hr.1.1.1, ?_⟩; omega)
  obtain ⟨hid, hd0, hd8, hds⟩ := hr'
  clear hr
  dsimp only
  have hT : ∀ p, 48 :: (p ++ tailF rem dlc data.data.toList) = 48 :: (p ++ tailF rem dlc data.data.toList) := fun _ => rfl
  clear hT
  have F0 := aA (Lib.fresh_isBuilder 316 5 (w.alloc (.cells #[.int .u32 id, .bool ext, .bool rem, .int .i64 dlc, .string data] 35)))
  have hs1 : (w.alloc (.cells #[.int .u32 id, .bool ext, .bool rem, .int .i64 dlc, .string data] 35)).heap.size = w.heap.size + 1 := by simp
  have F1 : Hid (IsW (w.heap.size + 1) (w.heap.size + 1) [] ((w.alloc (.cells #[.int .u32 id, .bool ext, .bool rem, .int .i64 dlc, .string data] 35)).alloc (.cells #[.pointer none, .slice none 0 0] 316))) := by
    have := F0.out
    rw [hs1] at this
    exact this
  clear F0 hs1
  cases ext
  · have hid' : id < 2048 := by simpa using hid
    clear hid
    go_enter Tryz.func178, Tryz.ntmps178
    go_wp2_with fail
    generalize hW0 : (w.alloc (.cells #[.int .u32 id, .bool false, .bool rem, .int .i64 dlc, .string data] 35)).alloc (.cells #[.pointer none, .slice none 0 0] 316) = W0 at *
    have z0 : W0.heap.size = w.heap.size + 2 := by rw [← hW0]; simp
    have k0 : Below w.heap.size w W0 := by rw [← hW0]; exact ((Below.refl _ w).alloc (Nat.le_refl _) _).alloc (by simp) _
    have c0 : W0.cell? ⟨w.heap.size, 0, none⟩ = some (.int .u32 id) := by rw [← hW0]; simp [go_sem]
    have c1 : W0.cell? ⟨w.heap.size, 1, none⟩ = some (.bool false) := by rw [← hW0]; simp [go_sem]
    have c2 : W0.cell? ⟨w.heap.size, 2, none⟩ = some (.bool rem) := by rw [← hW0]; simp [go_sem]
    have c3 : W0.cell? ⟨w.heap.size, 3, none⟩ = some (.int .i64 dlc) := by rw [← hW0]; simp [go_sem]
    have c4 : W0.cell? ⟨w.heap.size, 4, none⟩ = some (.string data) := by rw [← hW0]; simp [go_sem]
    clear hW0
    have C := aA (fun (W : World) (q : Below (w.heap.size + 1) W0 W) => And.intro (aT (v := .int .u32 id) q (Nat.lt_succ_self _) c0) (And.intro (aT (v := .bool false) q (Nat.lt_succ_self _) c1) (And.intro (aT (v := .bool rem) q (Nat.lt_succ_self _) c2) (And.intro (aT (v := .int .i64 dlc) q (Nat.lt_succ_self _) c3) (aT (v := .string data) q (Nat.lt_succ_self _) c4)))))
    have Z := aA (fun (W : World) (q : Below (w.heap.size + 1) W0 W) => show w.heap.size + 1 ≤ W.heap.size by have := q.size; omega)
    clear c0 c1 c2 c3 c4 z0
    have q0 := Below.refl (w.heap.size + 1) W0
    refine (jN _ (w.heap.size + 1) false [] W0 F1.out (by simp) (Z.out W0 q0)).mono ?_
    rintro e1 w1 ⟨rfl, r1, q1⟩
    have R1 : Hid (IsW (w.heap.size + 1) (w.heap.size + 1) [48] w1) := r1
    clear r1 F1 q0
    obtain ⟨d0, d1, d2, d3, d4⟩ := C.out w1 q1
    go_wp2_with fail
    refine (eI _ (w.heap.size + 1) _ _ (id) 11 (by simp) (by omega) (by omega) (by omega) [48] w1 R1.out (by simp [FP.bitsOf_length]) (Z.out _ q1)).mono ?_
    rintro e2 w2 ⟨rfl, r2, p2⟩
    have q2 := q1.trans p2
    have R2 : Hid (IsW (w.heap.size + 1) (w.heap.size + 1) (48 :: aY id 11) w2) := r2
    clear r2 p2 d0 d1 d2 d3 d4 R1 q1
    obtain ⟨d0, d1, d2, d3, d4⟩ := C.out w2 q2
    go_wp2_with fail
    refine (jN _ (w.heap.size + 1) rem (48 :: aY id 11) w2 R2.out (by simp [FP.bitsOf_length]) (Z.out _ q2)).mono ?_
    rintro e3 w3 ⟨rfl, r3, p3⟩
    have q3 := q2.trans p3
    have R3 := aA r3
    clear r3 p3 d0 d1 d2 d3 d4 R2 q2
    obtain ⟨d0, d1, d2, d3, d4⟩ := C.out w3 q3
    go_wp2_with fail
    refine (ws_any _ _ (w.heap.size + 1) btW (48 :: aY id 11 ++ [dT rem]) _ w3 R3.out (by simp [ByteArray.size, FP.bitsOf_length]) (Z.out _ q3)).mono ?_
    rintro e4 w4 ⟨rfl, r4, p4⟩
    have q4 := q3.trans p4
    have R4 : Hid (IsW (w.heap.size + 1) (w.heap.size + 1) (48 :: aY id 11 ++ [dT rem] ++ [48, 48]) w4) := r4
    clear r4 p4 d0 d1 d2 d3 d4 R3 q3
    obtain ⟨d0, d1, d2, d3, d4⟩ := C.out w4 q4
    go_wp2_with fail
    refine (eI _ (w.heap.size + 1) _ _ dlc.toNat 4 (by omega) (by omega) (by omega) (by omega) (48 :: aY id 11 ++ [dT rem] ++ [48, 48]) w4 R4.out (by simp [FP.bitsOf_length]) (Z.out _ q4)).mono ?_
    rintro e5 w5 ⟨rfl, r5, p5⟩
    have q5 := q4.trans p5
    have R5 := aA r5
    clear r5 p5 d0 d1 d2 d3 d4 R4 q4
    obtain ⟨d0, d1, d2, d3, d4⟩ := C.out w5 q5
    go_wp2_with fail
    have hsl : data.data.toList.length = data.size := Array.length_toList
    have HSL := aA hsl
    clear hsl d0 d1 d2 d3 d4
    go_loopw [48] (fun i W => ∃ j : Nat, j ≤ data.size ∧ i = .int .i64 j ∧ Below (w.heap.size + 1) W0 W ∧ Hid (IsW (w.heap.size + 1) (w.heap.size + 1) ((48 :: aY id 11 ++ [dT rem] ++ [48, 48] ++ aY dlc.toNat 4) ++ bT (data.data.toList.take j)) W)) (fun i _ => data.size - (intOf i).toNat)
    case atStart => exact ⟨0, Nat.zero_le _, rfl, q5, by have := R5.out; simpa [bT, Hid] using this⟩
    case round =>
      obtain ⟨j, hj, rfl, q, R⟩ := hrel
      clear q5 R5
      obtain ⟨d0, d1, d2, d3, d4⟩ := C.out wr q
      by_cases hlt : j < data.size
      · have hE := aA (show bT (data.data.toList.take (j + 1)) = bT (data.data.toList.take j) ++ aY data[j].toNat 8 by
          rw [List.take_succ_eq_append_getElem (by rw [HSL.out]; exact hlt), jS]; rfl)
        have hlen := aA (show (bT (data.data.toList.take j)).length ≤ 64 by rw [FP.dataPart_length, List.length_take]; omega)
        clear d0 d1 d2 d3
        go_wp2_with fail
        refine (eI _ (w.heap.size + 1) _ _ data[j].toNat 8 (wrap_byte _) (by omega) (by omega) (UInt8.toNat_lt _) ((48 :: aY id 11 ++ [dT rem] ++ [48, 48] ++ aY dlc.toNat 4) ++ bT (data.data.toList.take j)) wr R.out (by have := hlen.out; simp [FP.bitsOf_length]; omega) (Z.out _ q)).mono ?_
        rintro e9 w9 ⟨rfl, r9, p9⟩
        have q9 := q.trans p9
        have R9 := aA r9
        clear r9 p9 q R
        go_wp2
        go_roundw
        case rel => exact ⟨j + 1, by omega, by go_num, q9, by rw [hE.out, ← List.append_assoc]; exact R9.out⟩
        case measure => simp [intOf]; omega
      · have hE := aA (show data.data.toList.take j = data.data.toList from List.take_of_length_le (by rw [HSL.out]; omega))
        clear d0 d1 d2 d3
        go_wp2_with fail
        rw [hE.out] at R
        refine (bstr_any _ _ (w.heap.size + 1) ((48 :: aY id 11 ++ [dT rem] ++ [48, 48] ++ aY dlc.toNat 4) ++ bT data.data.toList) wr R.out (by simp)).mono ?_
        rintro e9 w9 ⟨rfl, p9⟩
        go_wp2
        go_ret
        exact ⟨by simp [cC, gY, List.append_assoc], k0.trans ((q.trans p9).mono (by omega))⟩
  · have hid' : id < 536870912 := by simpa using hid
    clear hid
    go_enter Tryz.func178, Tryz.ntmps178
    go_wp2_with fail
    generalize hW0 : (w.alloc (.cells #[.int .u32 id, .bool true, .bool rem, .int .i64 dlc, .string data] 35)).alloc (.cells #[.pointer none, .slice none 0 0] 316) = W0 at *
    have z0 : W0.heap.size = w.heap.size + 2 := by rw [← hW0]; simp
    have k0 : Below w.heap.size w W0 := by rw [← hW0]; exact ((Below.refl _ w).alloc (Nat.le_refl _) _).alloc (by simp) _
    have c0 : W0.cell? ⟨w.heap.size, 0, none⟩ = some (.int .u32 id) := by rw [← hW0]; simp [go_sem]
    have c1 : W0.cell? ⟨w.heap.size, 1, none⟩ = some (.bool true) := by rw [← hW0]; simp [go_sem]
    have c2 : W0.cell? ⟨w.heap.size, 2, none⟩ = some (.bool rem) := by rw [← hW0]; simp [go_sem]
    have c3 : W0.cell? ⟨w.heap.size, 3, none⟩ = some (.int .i64 dlc) := by rw [← hW0]; simp [go_sem]
    have c4 : W0.cell? ⟨w.heap.size, 4, none⟩ = some (.string data) := by rw [← hW0]; simp [go_sem]
    clear hW0
    have C := aA (fun (W : World) (q : Below (w.heap.size + 1) W0 W) => And.intro (aT (v := .int .u32 id) q (Nat.lt_succ_self _) c0) (And.intro (aT (v := .bool true) q (Nat.lt_succ_self _) c1) (And.intro (aT (v := .bool rem) q (Nat.lt_succ_self _) c2) (And.intro (aT (v := .int .i64 dlc) q (Nat.lt_succ_self _) c3) (aT (v := .string data) q (Nat.lt_succ_self _) c4)))))
    have Z := aA (fun (W : World) (q : Below (w.heap.size + 1) W0 W) => show w.heap.size + 1 ≤ W.heap.size by have := q.size; omega)
    clear c0 c1 c2 c3 c4 z0
    have q0 := Below.refl (w.heap.size + 1) W0
    refine (jN _ (w.heap.size + 1) false [] W0 F1.out (by simp) (Z.out W0 q0)).mono ?_
    rintro e1 w1 ⟨rfl, r1, q1⟩
    have R1 : Hid (IsW (w.heap.size + 1) (w.heap.size + 1) [48] w1) := r1
    clear r1 F1 q0
    obtain ⟨d0, d1, d2, d3, d4⟩ := C.out w1 q1
    go_wp2_with fail
    refine (eI _ (w.heap.size + 1) _ _ (id / 262144) 11 (by simp) (by omega) (by omega) (by omega) ([48]) w1 R1.out (by simp [FP.bitsOf_length]) (Z.out _ q1)).mono ?_
    rintro e2 w2 ⟨rfl, r2, p2⟩
    have q2 := q1.trans p2
    have R2 : Hid (IsW (w.heap.size + 1) (w.heap.size + 1) (48 :: aY (id / 262144) 11) w2) := r2
    clear r2 p2 d0 d1 d2 d3 d4 R1 q1
    obtain ⟨d0, d1, d2, d3, d4⟩ := C.out w2 q2
    go_wp2_with fail
    refine (ws_any _ _ (w.heap.size + 1) btW (48 :: aY (id / 262144) 11) _ w2 R2.out (by simp [ByteArray.size, FP.bitsOf_length]) (Z.out _ q2)).mono ?_
    rintro e3 w3 ⟨rfl, r3, p3⟩
    have q3 := q2.trans p3
    have R3 : Hid (IsW (w.heap.size + 1) (w.heap.size + 1) (48 :: aY (id / 262144) 11 ++ [49, 49]) w3) := r3
    clear r3 p3 d0 d1 d2 d3 d4 R2 q2
    obtain ⟨d0, d1, d2, d3, d4⟩ := C.out w3 q3
    go_wp2_with fail
    refine (eI _ (w.heap.size + 1) _ _ (id % 262144) 18 (low_bits id (by omega)) (by omega) (by omega) (by omega) (48 :: aY (id / 262144) 11 ++ [49, 49]) w3 R3.out (by simp [FP.bitsOf_length]) (Z.out _ q3)).mono ?_
    rintro e4 w4 ⟨rfl, r4, p4⟩
    have q4 := q3.trans p4
    have R4 : Hid (IsW (w.heap.size + 1) (w.heap.size + 1) (48 :: aY (id / 262144) 11 ++ [49, 49] ++ aY (id % 262144) 18) w4) := r4
    clear r4 p4 d0 d1 d2 d3 d4 R3 q3
    obtain ⟨d0, d1, d2, d3, d4⟩ := C.out w4 q4
    go_wp2_with fail
    refine (jN _ (w.heap.size + 1) rem (48 :: aY (id / 262144) 11 ++ [49, 49] ++ aY (id % 262144) 18) w4 R4.out (by simp [FP.bitsOf_length]) (Z.out _ q4)).mono ?_
    rintro e5 w5 ⟨rfl, r5, p5⟩
    have q5 := q4.trans p5
    have R5 := aA r5
    clear r5 p5 d0 d1 d2 d3 d4 R4 q4
    obtain ⟨d0, d1, d2, d3, d4⟩ := C.out w5 q5
    go_wp2_with fail
    refine (ws_any _ _ (w.heap.size + 1) btW (48 :: aY (id / 262144) 11 ++ [49, 49] ++ aY (id % 262144) 18 ++ [dT rem]) _ w5 R5.out (by simp [ByteArray.size, FP.bitsOf_length]) (Z.out _ q5)).mono ?_
    rintro e6 w6 ⟨rfl, r6, p6⟩
    have q6 := q5.trans p6
    have R6 : Hid (IsW (w.heap.size + 1) (w.heap.size + 1) (48 :: aY (id / 262144) 11 ++ [49, 49] ++ aY (id % 262144) 18 ++ [dT rem] ++ [48, 48]) w6) := r6
    clear r6 p6 d0 d1 d2 d3 d4 R5 q5
    obtain ⟨d0, d1, d2, d3, d4⟩ := C.out w6 q6
    go_wp2_with fail
    refine (eI _ (w.heap.size + 1) _ _ dlc.toNat 4 (by omega) (by omega) (by omega) (by omega) (48 :: aY (id / 262144) 11 ++ [49, 49] ++ aY (id % 262144) 18 ++ [dT rem] ++ [48, 48]) w6 R6.out (by simp [FP.bitsOf_length]) (Z.out _ q6)).mono ?_
    rintro e7 w7 ⟨rfl, r7, p7⟩
    have q7 := q6.trans p7
    have R7 := aA r7
    clear r7 p7 d0 d1 d2 d3 d4 R6 q6
    obtain ⟨d0, d1, d2, d3, d4⟩ := C.out w7 q7
    go_wp2_with fail
    have hsl : data.data.toList.length = data.size := Array.length_toList
    have HSL := aA hsl
    clear hsl d0 d1 d2 d3 d4
    go_loopw [48] (fun i W => ∃ j : Nat, j ≤ data.size ∧ i = .int .i64 j ∧ Below (w.heap.size + 1) W0 W ∧ Hid (IsW (w.heap.size + 1) (w.heap.size + 1) ((48 :: aY (id / 262144) 11 ++ [49, 49] ++ aY (id % 262144) 18 ++ [dT rem] ++ [48, 48] ++ aY dlc.toNat 4) ++ bT (data.data.toList.take j)) W)) (fun i _ => data.size - (intOf i).toNat)
    case atStart => exact ⟨0, Nat.zero_le _, rfl, q7, by have := R7.out; simpa [bT, Hid] using this⟩
    case round =>
      obtain ⟨j, hj, rfl, q, R⟩ := hrel
      clear q7 R7
      obtain ⟨d0, d1, d2, d3, d4⟩ := C.out wr q
      by_cases hlt : j < data.size
      · have hE := aA (show bT (data.data.toList.take (j + 1)) = bT (data.data.toList.take j) ++ aY data[j].toNat 8 by
          rw [List.take_succ_eq_append_getElem (by rw [HSL.out]; exact hlt), jS]; rfl)
        have hlen := aA (show (bT (data.data.toList.take j)).length ≤ 64 by rw [FP.dataPart_length, List.length_take]; omega)
        clear d0 d1 d2 d3
        go_wp2_with fail
        refine (eI _ (w.heap.size + 1) _ _ data[j].toNat 8 (wrap_byte _) (by omega) (by omega) (UInt8.toNat_lt _) ((48 :: aY (id / 262144) 11 ++ [49, 49] ++ aY (id % 262144) 18 ++ [dT rem] ++ [48, 48] ++ aY dlc.toNat 4) ++ bT (data.data.toList.take j)) wr R.out (by have := hlen.out; simp [FP.bitsOf_length]; omega) (Z.out _ q)).mono ?_
        rintro e9 w9 ⟨rfl, r9, p9⟩
        have q9 := q.trans p9
        have R9 := aA r9
        clear r9 p9 q R
        go_wp2
        go_roundw
        case rel => exact ⟨j + 1, by omega, by go_num, q9, by rw [hE.out, ← List.append_assoc]; exact R9.out⟩
        case measure => simp [intOf]; omega
      · have hE := aA (show data.data.toList.take j = data.data.toList from List.take_of_length_le (by rw [HSL.out]; omega))
        clear d0 d1 d2 d3
        go_wp2_with fail
        rw [hE.out] at R
        refine (bstr_any _ _ (w.heap.size + 1) ((48 :: aY (id / 262144) 11 ++ [49, 49] ++ aY (id % 262144) 18 ++ [dT rem] ++ [48, 48] ++ aY dlc.toNat 4) ++ bT data.data.toList) wr R.out (by simp)).mono ?_
        rintro e9 w9 ⟨rfl, p9⟩
        go_wp2
        go_ret
        exact ⟨by simp [cC, gY, List.append_assoc], k0.trans ((q.trans p9).mono (by omega))⟩
end Go.Proofs.YtkmddjbialpppaaGreatDoor
