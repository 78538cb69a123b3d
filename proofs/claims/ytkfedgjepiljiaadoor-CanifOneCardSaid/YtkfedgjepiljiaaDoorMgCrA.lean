/- The walks of the reference's sum: dividing on paper. -/
import Derived.Test.YtkfedgjepiljiaaDoorOrdL
import Derived.Test.YtkfedgjepiljiaaDoorOwS
import Derived.Test.YtkfedgjepiljiaaDoorMgFrR
import Derived.Test.YtkfedgjepiljiaaDoorMgCrP
import Derived.Test.YtkfedgjepiljiaaDoorMgMem
import Derived.Test.YtkfedgjepiljiaaDoorMgCtE
import Derived.Test.YtkfedgjepiljiaaDoorMgBxL
namespace Go.Proofs.YtkfedgjepiljiaaDoor
open Go.ChangeShapes Go.WideShapes Go.ChangeAt Go.RowKit
open FP (bit bitsOf numOf bitAt divB divK pB crcOf crcStep)

theorem slByteC : SlT Tryd.prog 108 5 1 1 := SlT.mk (z := .int .u8 0) Tryd.underlying108 (by kernel_rfl) rfl (by decide)
def bI (b : Bool) : Int := if b then 1 else 0
def bV (b : Bool) : Value := .int .u8 (bI b)
def bRow (n : Nat) (F : Nat → Bool) : List (List Value) := (List.range n).map fun j => [bV (F j)]
theorem bRow_len (n : Nat) (F : Nat → Bool) : (bRow n F).length = n := by simp [bRow]
theorem bRow_rows (n : Nat) (F : Nat → Bool) : ∀ r ∈ bRow n F, r.length = 1 := by
  intro r hr
  obtain ⟨j, _, rfl⟩ := List.mem_map.1 hr
  rfl
theorem flat1 (l : List Nat) (f : Nat → Value) : (l.map fun j => [f j]).flatten = l.map f := by
  induction l with
  | nil => rfl
  | cons a l ih => simp [ih]
theorem bRow_flat (n : Nat) (F : Nat → Bool) : (bRow n F).flatten = (List.range n).map fun j => bV (F j) := flat1 _ _
theorem bRow_succ (n : Nat) (F : Nat → Bool) : bRow (n + 1) F = bRow n F ++ [[bV (F n)]] := by simp [bRow, List.range_succ]
theorem bRow_get (n : Nat) (F : Nat → Bool) {j : Nat} (h : j < n) : (bRow n F)[j]? = some [bV (F j)] := by
  unfold bRow
  rw [List.getElem?_map, List.getElem?_range h]
  rfl
theorem bRow_congr (n : Nat) {F G : Nat → Bool} (h : ∀ j, j < n → F j = G j) : bRow n F = bRow n G := by
  unfold bRow
  apply List.map_congr_left
  intro j hj
  rw [h j (List.mem_range.1 hj)]
theorem bRow_set (n m : Nat) (F G : Nat → Bool) (b : Bool) (hb : G m = b) (h : ∀ j, j ≠ m → G j = F j) : (bRow n F).flatten.set m (bV b) = (bRow n G).flatten := by
  rw [bRow_flat, bRow_flat]
  apply List.ext_getElem?
  intro j
  rw [List.getElem?_set]
  by_cases hj : m = j
  · subst hj
    by_cases hm : m < n
    · simp [hm, hb]
    · simp [hm]
  · rw [if_neg hj, List.getElem?_map, List.getElem?_map]
    by_cases hm : j < n
    · rw [List.getElem?_range hm]
      simp only [Option.map_some]
      rw [h j (fun e => hj e.symm)]
    · rw [List.getElem?_eq_none (by simp; omega)]; rfl

/-- A cell of such a row of the call's own. -/
theorem bOwn_cell {W : World} {B n c g : Nat} {F : Nat → Bool} (h : Own W B 5 1 (some ⟨g, 0, none⟩) c (bRow n F)) {j : Nat} (hj : j < n) : W.cell? ⟨g, j, none⟩ = some (bV (F j)) := by
  have := own_at h (bRow_rows n F) (bRow_get n F hj) (j := 0) rfl
  simpa using this
theorem bOwn_set {W : World} {B n c g : Nat} {F : Nat → Bool} (h : Own W B 5 1 (some ⟨g, 0, none⟩) c (bRow n F)) (m : Nat) (G : Nat → Bool) (b : Bool) (hb : G m = b) (hG : ∀ j, j ≠ m → G j = F j) :
    Own (W.setCell ⟨g, m, none⟩ (bV b)) B 5 1 (some ⟨g, 0, none⟩) c (bRow n G) := by
  have h1 := (World.ownsRow.stored h m (bV b)).1
  unfold Own
  rw [bRow_len] at h1 ⊢
  rw [bRow_set n m F G b hb hG] at h1
  exact h1
theorem bOwn_form {W : World} {B n c : Nat} {A : Option Addr} {F : Nat → Bool} (h : Own W B 5 1 A c (bRow n F)) (hn : 0 < n) : ∃ g, A = some ⟨g, 0, none⟩ ∧ B ≤ g ∧ g < W.heap.size := h.ofLen (by rw [bRow_len]; exact hn)

theorem byte_sub (c : UInt8) (h : c = 48 ∨ c = 49) : ((c.toNat : Int) - 48) % 256 = if c == 49 then 1 else 0 := by
  rcases h with rfl | rfl <;> decide
theorem pB_cell (k : Nat) (hk : k < 16) : ((⟨(bitsOf 50585 16).toArray⟩ : ByteArray).data.toList)[k]? = some (if pB k then 49 else 48) := by
  have := FP.pB_bits ⟨k, hk⟩
  simpa using this

/-- How far the sum has come. -/
def numK (r d : Nat) : Nat := r / 2 ^ (15 - d)

theorem numK_zero (r : Nat) (h : r < 32768) : numK r 0 = 0 := by unfold numK; omega
theorem numK_full (r : Nat) : numK r 15 = r := by unfold numK; simp
theorem numK_le (r d : Nat) (h : r < 32768) (hd : d < 15) : numK r d < 16384 := by
  unfold numK
  have h1 : 2 ^ 1 ≤ 2 ^ (15 - d) := Nat.pow_le_pow_right (by omega) (by omega)
  calc r / 2 ^ (15 - d) ≤ r / 2 ^ 1 := Nat.div_le_div_left h1 (by decide)
    _ < 16384 := by omega
theorem bitAt_val (l : List UInt8) (k : Nat) (hk : k < l.length) (h : ∀ c ∈ l, c = 48 ∨ c = 49) : ((l[k].toNat : Int) - 48) % 256 = if bitAt l k then 1 else 0 := by
  rw [byte_sub _ (h _ (List.getElem_mem hk))]
  unfold bitAt
  rw [List.getElem?_eq_getElem hk]
  rfl
theorem xor_bits (x p : Bool) : bits .xor .u8 (bI x) (bI p) = bI (x ^^ p) := by cases x <;> cases p <;> decide
theorem bV_eq (b : Bool) : bV b = .int .u8 (bI b) := rfl

end Go.Proofs.YtkfedgjepiljiaaDoor

/- The walks of the reference's stuffing. -/
namespace Go.Proofs.YtkfedgjepiljiaaDoor
open Go.ChangeShapes Go.WideShapes Go.ChangeAt Go.RowKit
open FP (SS SInv ssN ssStep stuffS stuffF oth equalB)

theorem equalB_true {l : List UInt8} {fr : Nat} (h : 5 ≤ l.length - fr) (ha : ∀ m, m < 5 → l[l.length - 5 + m]? = l[l.length - 1]?) : equalB l fr = true := by
  unfold equalB
  rw [decide_eq_true h, Bool.true_and, List.all_eq_true]
  intro j hj
  rw [List.mem_range] at hj
  have := ha (4 - j) (by omega)
  rw [show l.length - 5 + (4 - j) = l.length - 1 - j by omega] at this
  rw [this]
  simp
theorem equalB_false {l : List UInt8} {fr m : Nat} (h : 5 ≤ l.length - fr) (hm : m < 5) (ha : l[l.length - 5 + m]? ≠ l[l.length - 1]?) : equalB l fr = false := by
  unfold equalB
  rw [Bool.and_eq_false_iff]
  right
  rw [List.all_eq_false]
  refine ⟨4 - m, by rw [List.mem_range]; omega, ?_⟩
  rw [show l.length - 1 - (4 - m) = l.length - 5 + m by omega]
  simpa using ha
theorem equalB_short {l : List UInt8} {fr : Nat} (h : ¬ 5 ≤ l.length - fr) : equalB l fr = false := by
  unfold equalB
  rw [decide_eq_false h, Bool.false_and]

end Go.Proofs.YtkfedgjepiljiaaDoor

/- The walks of the reference's Head, Sum and Bits. -/
namespace Go.Proofs.YtkfedgjepiljiaaDoor
open Go.ChangeShapes Go.WideShapes Go.ChangeAt Go.RowKit
open FP (bit bitsOf Fr bitB idPart dataPart headF crcOf stuffF sumF bitsF tenF)

theorem bytes_get {l : List UInt8} {i : Nat} {c : UInt8} (h : l[i]? = some c) : ∃ hi : i < (⟨l.toArray⟩ : ByteArray).size, (⟨l.toArray⟩ : ByteArray)[i] = c := by
  have hl : i < l.length := (List.getElem?_eq_some_iff.1 h).1
  refine ⟨by simpa [ByteArray.size] using hl, ?_⟩
  have := (List.getElem?_eq_some_iff.1 h).2
  simpa [ByteArray.getElem_eq_getElem_data] using this
theorem bytes_extract (l : List UInt8) (a b : Nat) : (⟨l.toArray⟩ : ByteArray).extract a b = ⟨(l.extract a b).toArray⟩ := by
  rw [ByteArray.ext_iff]
  simp [ByteArray.data_extract]
theorem toList_of (l : List UInt8) : (⟨l.toArray⟩ : ByteArray).data.toList = l := rfl
theorem size_of (l : List UInt8) : (⟨l.toArray⟩ : ByteArray).size = l.length := by simp [ByteArray.size]
theorem str_app (a b : List UInt8) : (⟨a.toArray⟩ : ByteArray) ++ ⟨b.toArray⟩ = ⟨(a ++ b).toArray⟩ := by rw [ByteArray.ext_iff]; simp
theorem str_of (s : ByteArray) : s = ⟨s.data.toList.toArray⟩ := by rw [ByteArray.ext_iff]
theorem long_parts (id : Nat) : (bitsOf id 29).extract 0 11 = bitsOf (id / 262144) 11 ∧ (bitsOf id 29).extract 11 29 = bitsOf (id % 262144) 18 := by
  have h := FP.bitsOf_append id 11 18
  have h2 := FP.bitsOf_mod id 18
  rw [show (2 : Nat) ^ 18 = 262144 from rfl] at h h2
  rw [show (29 : Nat) = 11 + 18 from rfl, h, h2]
  constructor
  · simp [List.extract_eq_take_drop, FP.bitsOf_length]
  · rw [List.extract_eq_take_drop, List.drop_append, FP.bitsOf_length, List.drop_of_length_le (by simp [FP.bitsOf_length]), List.take_of_length_le (by simp [FP.bitsOf_length])]
    simp
theorem str_len (n k : Nat) : (⟨(bitsOf n k).toArray⟩ : ByteArray).size = k := by rw [size_of, FP.bitsOf_length]
theorem dataPart_take (data : ByteArray) (j : Nat) (h : j < data.size) : dataPart (data.data.toList.take (j + 1)) = dataPart (data.data.toList.take j) ++ bitsOf data[j].toNat 8 := by
  rw [List.take_succ_eq_append_getElem (by rw [Array.length_toList]; exact h), dataPart_snoc]; rfl

set_option maxRecDepth 100000 in
set_option maxHeartbeats 2000000 in
theorem refHead_any (f : Fr) (w : World) (hr : FP.rightB f = true) :
    Calls Tryd.prog 53 #[.agg #[.int .u32 f.id, .bool f.ext, .bool f.rem, .int .i64 f.dlc, .string f.data]] w fun e w' => e = .returned (.string ⟨(headF f).toArray⟩) ∧ Below w.heap.size w w' := by
  obtain ⟨hs, hd0, hd8, hid⟩ := FP.right_size hr
  clear hr
  have HF := hide (show (⟨(headF f).toArray⟩ : ByteArray) = ⟨(headF f).toArray⟩ from rfl)
  generalize hHF : (⟨(headF f).toArray⟩ : ByteArray) = hf
  replace HF : Hid (hf = ⟨(48 :: (idPart f ++ (bitB f.rem :: (48 :: 48 :: (bitsOf f.dlc.toNat 4 ++ dataPart f.data.data.toList))))).toArray⟩) := by rw [← hHF]; exact hide rfl
  clear hHF
  obtain ⟨id, ext, rem, dlc, data⟩ := f
  dsimp only at *
  obtain ⟨d, rfl⟩ : ∃ d : Nat, dlc = d := ⟨dlc.toNat, by omega⟩
  have HSL := hide (show data.data.toList.length = data.size from Array.length_toList)
  have B11 := hide (fun W => refOf_any id 11 id 11 rfl rfl (by omega) (by omega) W)
  have B4 := hide (fun W => refOf_any d 4 d 4 rfl rfl (by omega) (by omega) W)
  have h11 := str_len id 11
  have h4 := str_len d 4
  have q0 : Below w.heap.size w (w.alloc (.cells #[.int .u32 id, .bool ext, .bool rem, .int .i64 d, .string data] 24)) := (Below.refl _ _).alloc (Nat.le_refl _) _
  generalize e11 : (⟨(bitsOf id 11).toArray⟩ : ByteArray) = s11 at *
  generalize e4 : (⟨(bitsOf d 4).toArray⟩ : ByteArray) = s4 at *
  have E11 := hide e11
  have E4 := hide e4
  clear e11 e4
  have hdd : ((d : Int)).toNat = d := by omega
  rw [hdd] at HF
  clear hdd
  obtain ⟨base, hbase⟩ : ∃ base, base = 48 :: (idPart ⟨id, ext, rem, d, data⟩ ++ (bitB rem :: 48 :: 48 :: bitsOf d 4)) := ⟨_, rfl⟩
  replace HF : Hid (hf = ⟨(base ++ dataPart data.data.toList).toArray⟩) := by rw [HF.out, hbase]; simp [Hid]
  have HBS := hide hbase
  clear hbase
  cases ext with
  | false =>
    cases rem
    all_goals
      go_enter Tryd.func53, Tryd.ntmps53
      go_wp2_with fail
      refine (B11.out _).mono ?_
      rintro e1 w1 ⟨rfl, rfl⟩
      go_wp2_with fail
      refine (B4.out _).mono ?_
      rintro e1 w1 ⟨rfl, rfl⟩
      go_wp2_with fail
      go_loop [4, 6] (fun vs vi => ∃ (j : Nat) (t : ByteArray), j ≤ data.size ∧ vi = .int .i64 j ∧ vs = .string t ∧ t.size ≤ 39 + 8 * j ∧ Hid (t.data.toList = base ++ dataPart (data.data.toList.take j))) (fun _ vi => data.size - (intOf vi).toNat)
      case atStart => exact ⟨0, _, Nat.zero_le _, rfl, rfl, by simp [ByteArray.size_append, h11, h4]; try decide, by rw [HBS.out, ← E11.out, ← E4.out]; simp [Hid, dataPart, idPart]; try rfl⟩
      case round =>
        obtain ⟨j, t, hj, rfl, rfl, ht, HT⟩ := hrel
        by_cases hlt : j < data.size
        · have B8 := hide (fun (N : Int) (hN : N = (data[j].toNat : Int)) W => refOf_any N 8 data[j].toNat 8 hN rfl (by have := UInt8.toNat_lt data[j]; omega) (by omega) W)
          have h8 := str_len data[j].toNat 8
          have NX := hide (dataPart_take data j hlt)
          generalize e8 : (⟨(bitsOf data[j].toNat 8).toArray⟩ : ByteArray) = s8 at *
          have E8 := hide (show s8.data.toList = bitsOf data[j].toNat 8 by rw [← e8])
          clear e8
          go_wp2_with fail
          (with_reducible refine (B8.out _ ?_ _).mono ?_)
          · first | exact wrap_byte _ | rfl
          rintro e1 w1 ⟨rfl, rfl⟩
          go_wp2_with fail
          go_round
          case rel => exact ⟨j + 1, t ++ s8, by omega, by go_num, rfl, by rw [ByteArray.size_append]; omega, by rw [NX.out, ← List.append_assoc, ← HT.out, ← E8.out]; simp [Hid]⟩
          case measure => simp [intOf]; omega
        · obtain rfl : j = data.size := by omega
          have HT2 := hide (show hf = t by
            rw [HF.out, ByteArray.ext_iff, ← Array.toList_inj, HT.out, List.take_of_length_le (by rw [HSL.out]; exact Nat.le_refl _)])
          go_wp2_with fail
          go_ret
          exact ⟨by rw [HT2.out]; rfl, q0⟩
  | true =>
    have B29 := hide (fun W => refOf_any id 29 id 29 rfl rfl (by omega) (by omega) W)
    have h29 := str_len id 29
    obtain ⟨lp1, lp2⟩ := long_parts id
    have x1 : (⟨(bitsOf id 29).toArray⟩ : ByteArray).extract 0 11 = ⟨(bitsOf (id / 262144) 11).toArray⟩ := by rw [bytes_extract, lp1]
    have x2 : (⟨(bitsOf id 29).toArray⟩ : ByteArray).extract 11 29 = ⟨(bitsOf (id % 262144) 18).toArray⟩ := by rw [bytes_extract, lp2]
    have hy1 := str_len (id / 262144) 11
    have hy2 := str_len (id % 262144) 18
    clear lp1 lp2
    generalize (⟨(bitsOf id 29).toArray⟩ : ByteArray) = s29 at *
    generalize ey1 : (⟨(bitsOf (id / 262144) 11).toArray⟩ : ByteArray) = y1 at *
    generalize ey2 : (⟨(bitsOf (id % 262144) 18).toArray⟩ : ByteArray) = y2 at *
    have EY1 := hide ey1
    have EY2 := hide ey2
    clear ey1 ey2
    cases rem
    all_goals
      go_enter Tryd.func53, Tryd.ntmps53
      go_wp2_with fail
      refine (B11.out _).mono ?_
      rintro e1 w1 ⟨rfl, rfl⟩
      go_wp2_with fail
      refine (B29.out _).mono ?_
      rintro e1 w1 ⟨rfl, rfl⟩
      go_wp2_with fail
      go_quiet (fail)
      go_wp2_with fail
      refine (B4.out _).mono ?_
      rintro e1 w1 ⟨rfl, rfl⟩
      go_wp2_with fail
      go_loop [4, 6] (fun vs vi => ∃ (j : Nat) (t : ByteArray), j ≤ data.size ∧ vi = .int .i64 j ∧ vs = .string t ∧ t.size ≤ 39 + 8 * j ∧ Hid (t.data.toList = base ++ dataPart (data.data.toList.take j))) (fun _ vi => data.size - (intOf vi).toNat)
      case atStart => exact ⟨0, _, Nat.zero_le _, rfl, rfl, by simp [ByteArray.size_append, h4, hy1, hy2]; try decide, by rw [HBS.out, ← EY1.out, ← EY2.out, ← E4.out]; simp [Hid, dataPart, idPart]; try rfl⟩
      case round =>
        obtain ⟨j, t, hj, rfl, rfl, ht, HT⟩ := hrel
        by_cases hlt : j < data.size
        · have B8 := hide (fun (N : Int) (hN : N = (data[j].toNat : Int)) W => refOf_any N 8 data[j].toNat 8 hN rfl (by have := UInt8.toNat_lt data[j]; omega) (by omega) W)
          have h8 := str_len data[j].toNat 8
          have NX := hide (dataPart_take data j hlt)
          generalize e8 : (⟨(bitsOf data[j].toNat 8).toArray⟩ : ByteArray) = s8 at *
          have E8 := hide (show s8.data.toList = bitsOf data[j].toNat 8 by rw [← e8])
          clear e8
          go_wp2_with fail
          (with_reducible refine (B8.out _ ?_ _).mono ?_)
          · first | exact wrap_byte _ | rfl
          rintro e1 w1 ⟨rfl, rfl⟩
          go_wp2_with fail
          go_round
          case rel => exact ⟨j + 1, t ++ s8, by omega, by go_num, rfl, by rw [ByteArray.size_append]; omega, by rw [NX.out, ← List.append_assoc, ← HT.out, ← E8.out]; simp [Hid]⟩
          case measure => simp [intOf]; omega
        · obtain rfl : j = data.size := by omega
          have HT2 := hide (show hf = t by
            rw [HF.out, ByteArray.ext_iff, ← Array.toList_inj, HT.out, List.take_of_length_le (by rw [HSL.out]; exact Nat.le_refl _)])
          go_wp2_with fail
          go_ret
          exact ⟨by rw [HT2.out]; rfl, below_drewN q0 _⟩

theorem sum_str (l : List UInt8) : (⟨(sumF l).toArray⟩ : ByteArray) = ⟨l.toArray⟩ ++ ⟨(bitsOf (crcOf l) 15).toArray⟩ := by rw [str_app]; rfl

theorem extract_one (s : ByteArray) (k : Nat) (h : k < s.size) : s.extract k (k + 1) = ⟨#[s[k]]⟩ := by
  rw [ByteArray.ext_iff, ByteArray.data_extract]
  have hk : k < s.data.size := h
  apply Array.ext
  · rw [Array.size_extract]
    show min (k + 1) s.data.size - k = 1
    omega
  · intro i h1 h2
    have : i = 0 := by
      have : i < 1 := h2
      omega
    subst this
    rw [Array.getElem_extract]
    rfl
theorem stuffS_step (s : ByteArray) (k : Nat) (h : k < s.size) : stuffF (s.data.toList.take (k + 1)) = (FP.ssStep (FP.stuffS (s.data.toList.take k)) s[k]).out := by
  unfold stuffF
  rw [List.take_succ_eq_append_getElem (by rw [Array.length_toList]; exact h), FP.stuffS_snoc]; rfl

end Go.Proofs.YtkfedgjepiljiaaDoor
