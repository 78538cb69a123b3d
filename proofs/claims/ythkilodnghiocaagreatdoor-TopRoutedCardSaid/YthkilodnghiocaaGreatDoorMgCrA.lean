/- The walks of the reference's sum: dividing on paper. -/
import Derived.Test.YthkilodnghiocaaGreatDoorOrdL
import Derived.Test.YthkilodnghiocaaGreatDoorOwS
import Derived.Test.YthkilodnghiocaaGreatDoorMgFrR
import Derived.Test.YthkilodnghiocaaGreatDoorMgCrP
import Derived.Test.YthkilodnghiocaaGreatDoorMgMem
import Derived.Test.YthkilodnghiocaaGreatDoorMgCtP
import Derived.Test.YthkilodnghiocaaGreatDoorRdQ
namespace Go.Proofs.YthkilodnghiocaaGreatDoor
open Go.ChangeShapes Go.WideShapes Go.ChangeAt Go.RowKit
open FP (bit bitsOf numOf bitAt divB divK pB crcOf crcStep)

theorem slByteC : SlT Tryz.prog 110 5 1 1 := SlT.mk (z := .int .u8 0) Tryz.underlying110 (by kernel_rfl) rfl (by decide)
def bI (b : Bool) : Int := if b then 1 else 0
def bV (b : Bool) : Value := .int .u8 (bI b)
def bRow (n : Nat) (F : Nat → Bool) : List (List Value) := (List.range n).map fun j => [bV (F j)]
theorem bRow_len (n : Nat) (F : Nat → Bool) : (bRow n F).length = n := by simp [bRow]
theorem bRow_rows (n : Nat) (F : Nat → Bool) : ∀ r ∈ bRow n F, r.length = 1 := by
  intro r hr
  obtain ⟨j, _, rfl⟩ := List.mem_map.1 hr
  rfl
theorem flat1 (l : List Nat) (f : Nat → Value) : (l.map fun j => [f j]).flatten = l.map f := by
  induction l with
  | nil => rfl
  | cons a l ih => simp [ih]
theorem bRow_flat (n : Nat) (F : Nat → Bool) : (bRow n F).flatten = (List.range n).map fun j => bV (F j) := flat1 _ _
theorem bRow_succ (n : Nat) (F : Nat → Bool) : bRow (n + 1) F = bRow n F ++ [[bV (F n)]] := by simp [bRow, List.range_succ]
theorem bRow_get (n : Nat) (F : Nat → Bool) {j : Nat} (h : j < n) : (bRow n F)[j]? = some [bV (F j)] := by
  unfold bRow
  rw [List.getElem?_map, List.getElem?_range h]
  rfl
theorem bRow_congr (n : Nat) {F G : Nat → Bool} (h : ∀ j, j < n → F j = G j) : bRow n F = bRow n G := by
  unfold bRow
  apply List.map_congr_left
  intro j hj
  rw [h j (List.mem_range.1 hj)]
theorem bRow_set (n m : Nat) (F G : Nat → Bool) (b : Bool) (hb : G m = b) (h : ∀ j, j ≠ m → G j = F j) : (bRow n F).flatten.set m (bV b) = (bRow n G).flatten := by
  rw [bRow_flat, bRow_flat]
  apply List.ext_getElem?
  intro j
  rw [List.getElem?_set]
  by_cases hj : m = j
  · subst hj
    by_cases hm : m < n
    · simp [hm, hb]
    · simp [hm]
  · rw [if_neg hj, List.getElem?_map, List.getElem?_map]
    by_cases hm : j < n
    · rw [List.getElem?_range hm]
      simp only [Option.map_some]
      rw [h j (fun e => hj e.symm)]
    · rw [List.getElem?_eq_none (by simp; omega)]; rfl

/-- A cell of such a row of the call's own. -/
theorem bOwn_cell {W : World} {B n c g : Nat} {F : Nat → Bool} (h : Own W B 5 1 (some ⟨g, 0, none⟩) c (bRow n F)) {j : Nat} (hj : j < n) : W.cell? ⟨g, j, none⟩ = some (bV (F j)) := by
  have := own_at h (bRow_rows n F) (bRow_get n F hj) (j := 0) rfl
  simpa using this
theorem bOwn_set {W : World} {B n c g : Nat} {F : Nat → Bool} (h : Own W B 5 1 (some ⟨g, 0, none⟩) c (bRow n F)) (m : Nat) (G : Nat → Bool) (b : Bool) (hb : G m = b) (hG : ∀ j, j ≠ m → G j = F j) :
    Own (W.setCell ⟨g, m, none⟩ (bV b)) B 5 1 (some ⟨g, 0, none⟩) c (bRow n G) := by
  have h1 := (World.ownsRow.stored h m (bV b)).1
  unfold Own
  rw [bRow_len] at h1 ⊢
  rw [bRow_set n m F G b hb hG] at h1
  exact h1
theorem bOwn_form {W : World} {B n c : Nat} {A : Option Addr} {F : Nat → Bool} (h : Own W B 5 1 A c (bRow n F)) (hn : 0 < n) : ∃ g, A = some ⟨g, 0, none⟩ ∧ B ≤ g ∧ g < W.heap.size := h.ofLen (by rw [bRow_len]; exact hn)

theorem byte_sub (c : UInt8) (h : c = 48 ∨ c = 49) : ((c.toNat : Int) - 48) % 256 = if c == 49 then 1 else 0 := by
  rcases h with rfl | rfl <;> decide
theorem pB_cell (k : Nat) (hk : k < 16) : ((⟨(bitsOf 50585 16).toArray⟩ : ByteArray).data.toList)[k]? = some (if pB k then 49 else 48) := by
  have := FP.pB_bits ⟨k, hk⟩
  simpa using this

/-- How far the sum has come. -/
def numK (r d : Nat) : Nat := r / 2 ^ (15 - d)

theorem numK_zero (r : Nat) (h : r < 32768) : numK r 0 = 0 := by unfold numK; omega
theorem numK_full (r : Nat) : numK r 15 = r := by unfold numK; simp
theorem numK_le (r d : Nat) (h : r < 32768) (hd : d < 15) : numK r d < 16384 := by
  unfold numK
  have h1 : 2 ^ 1 ≤ 2 ^ (15 - d) := Nat.pow_le_pow_right (by omega) (by omega)
  calc r / 2 ^ (15 - d) ≤ r / 2 ^ 1 := Nat.div_le_div_left h1 (by decide)
    _ < 16384 := by omega
theorem bitAt_val (l : List UInt8) (k : Nat) (hk : k < l.length) (h : ∀ c ∈ l, c = 48 ∨ c = 49) : ((l[k].toNat : Int) - 48) % 256 = if bitAt l k then 1 else 0 := by
  rw [byte_sub _ (h _ (List.getElem_mem hk))]
  unfold bitAt
  rw [List.getElem?_eq_getElem hk]
  rfl
theorem xor_bits (x p : Bool) : bits .xor .u8 (bI x) (bI p) = bI (x ^^ p) := by cases x <;> cases p <;> decide
theorem bV_eq (b : Bool) : bV b = .int .u8 (bI b) := rfl

end Go.Proofs.YthkilodnghiocaaGreatDoor

/- The walks of the reference's stuffing. -/
namespace Go.Proofs.YthkilodnghiocaaGreatDoor
open Go.ChangeShapes Go.WideShapes Go.ChangeAt Go.RowKit
open FP (SS SInv ssN ssStep stuffS stuffF oth equalB)

theorem equalB_true {l : List UInt8} {fr : Nat} (h : 5 ≤ l.length - fr) (ha : ∀ m, m < 5 → l[l.length - 5 + m]? = l[l.length - 1]?) : equalB l fr = true := by
  unfold equalB
  rw [decide_eq_true h, Bool.true_and, List.all_eq_true]
  intro j hj
  rw [List.mem_range] at hj
  have := ha (4 - j) (by omega)
  rw [show l.length - 5 + (4 - j) = l.length - 1 - j by omega] at this
  rw [this]
  simp
theorem equalB_false {l : List UInt8} {fr m : Nat} (h : 5 ≤ l.length - fr) (hm : m < 5) (ha : l[l.length - 5 + m]? ≠ l[l.length - 1]?) : equalB l fr = false := by
  unfold equalB
  rw [Bool.and_eq_false_iff]
  right
  rw [List.all_eq_false]
  refine ⟨4 - m, by rw [List.mem_range]; omega, ?_⟩
  rw [show l.length - 1 - (4 - m) = l.length - 5 + m by omega]
  simpa using ha
theorem equalB_short {l : List UInt8} {fr : Nat} (h : ¬ 5 ≤ l.length - fr) : equalB l fr = false := by
  unfold equalB
  rw [decide_eq_false h, Bool.false_and]

end Go.Proofs.YthkilodnghiocaaGreatDoor

/- The walks of the reference's Head, Sum and Bits. -/
namespace Go.Proofs.YthkilodnghiocaaGreatDoor
open Go.ChangeShapes Go.WideShapes Go.ChangeAt Go.RowKit
open FP (bit bitsOf Fr bitB idPart dataPart headF crcOf stuffF sumF bitsF tenF)

theorem bytes_get {l : List UInt8} {i : Nat} {c : UInt8} (h : l[i]? = some c) : ∃ hi : i < (⟨l.toArray⟩ : ByteArray).size, (⟨l.toArray⟩ : ByteArray)[i] = c := by
  have hl : i < l.length := (List.getElem?_eq_some_iff.1 h).1
  refine ⟨by simpa [ByteArray.size] using hl, ?_⟩
  have := (List.getElem?_eq_some_iff.1 h).2
  simpa [ByteArray.getElem_eq_getElem_data] using this
theorem bytes_extract (l : List UInt8) (a b : Nat) : (⟨l.toArray⟩ : ByteArray).extract a b = ⟨(l.extract a b).toArray⟩ := by
  rw [ByteArray.ext_iff]
  simp [ByteArray.data_extract]
theorem toList_of (l : List UInt8) : (⟨l.toArray⟩ : ByteArray).data.toList = l := rfl
theorem size_of (l : List UInt8) : (⟨l.toArray⟩ : ByteArray).size = l.length := by simp [ByteArray.size]
theorem str_app (a b : List UInt8) : (⟨a.toArray⟩ : ByteArray) ++ ⟨b.toArray⟩ = ⟨(a ++ b).toArray⟩ := by rw [ByteArray.ext_iff]; simp
theorem str_of (s : ByteArray) : s = ⟨s.data.toList.toArray⟩ := by rw [ByteArray.ext_iff]
theorem long_parts (id : Nat) : (bitsOf id 29).extract 0 11 = bitsOf (id / 262144) 11 ∧ (bitsOf id 29).extract 11 29 = bitsOf (id % 262144) 18 := by
  have h := FP.bitsOf_append id 11 18
  have h2 := FP.bitsOf_mod id 18
  rw [show (2 : Nat) ^ 18 = 262144 from rfl] at h h2
  rw [show (29 : Nat) = 11 + 18 from rfl, h, h2]
  constructor
  · simp [List.extract_eq_take_drop, FP.bitsOf_length]
  · rw [List.extract_eq_take_drop, List.drop_append, FP.bitsOf_length, List.drop_of_length_le (by simp [FP.bitsOf_length]), List.take_of_length_le (by simp [FP.bitsOf_length])]
    simp
theorem str_len (n k : Nat) : (⟨(bitsOf n k).toArray⟩ : ByteArray).size = k := by rw [size_of, FP.bitsOf_length]
theorem dataPart_take (data : ByteArray) (j : Nat) (h : j < data.size) : dataPart (data.data.toList.take (j + 1)) = dataPart (data.data.toList.take j) ++ bitsOf data[j].toNat 8 := by
  rw [List.take_succ_eq_append_getElem (by rw [Array.length_toList]; exact h), dataPart_snoc]; rfl

theorem sum_str (l : List UInt8) : (⟨(sumF l).toArray⟩ : ByteArray) = ⟨l.toArray⟩ ++ ⟨(bitsOf (crcOf l) 15).toArray⟩ := by rw [str_app]; rfl

theorem extract_one (s : ByteArray) (k : Nat) (h : k < s.size) : s.extract k (k + 1) = ⟨#[s[k]]⟩ := by
  rw [ByteArray.ext_iff, ByteArray.data_extract]
  have hk : k < s.data.size := h
  apply Array.ext
  · rw [Array.size_extract]
    show min (k + 1) s.data.size - k = 1
    omega
  · intro i h1 h2
    have : i = 0 := by
      have : i < 1 := h2
      omega
    subst this
    rw [Array.getElem_extract]
    rfl
theorem stuffS_step (s : ByteArray) (k : Nat) (h : k < s.size) : stuffF (s.data.toList.take (k + 1)) = (FP.ssStep (FP.stuffS (s.data.toList.take k)) s[k]).out := by
  unfold stuffF
  rw [List.take_succ_eq_append_getElem (by rw [Array.length_toList]; exact h), FP.stuffS_snoc]; rfl

end Go.Proofs.YthkilodnghiocaaGreatDoor

/- The walks of bits.Number and frame.Size. -/
namespace Go.Proofs.YthkilodnghiocaaGreatDoor
open Go.ChangeShapes Go.WideShapes Go.ChangeAt Go.RowKit
open FP (bit bitsOf numOf Fr sizeE sizeV fxN dlN)

theorem or_low (v : Nat) (hv : v < 4611686018427387904) : bits .or .u64 ((v : Int) * 2) 0 = ((2 * v : Nat) : Int) ∧ bits .or .u64 ((v : Int) * 2) 1 = ((2 * v + 1 : Nat) : Int) := by
  have e : ((v : Int) * 2) = ((2 * v : Nat) : Int) := by omega
  rw [e]
  have h0 := u64_or_nat (2 * v) 0 (by omega) (by omega)
  have h1 := u64_or_nat (2 * v) 1 (by omega) (by omega)
  rw [Nat.or_zero] at h0
  rw [nat_join 1 (2 * v) 1 (by omega) (by omega)] at h1
  exact ⟨h0, h1⟩

set_option maxRecDepth 100000 in
set_option maxHeartbeats 1000000 in
theorem bitsNumber_any (s : ByteArray) (w : World) (hb : ∀ c ∈ s.data.toList, c = 48 ∨ c = 49) (hs : s.size ≤ 62) :
    Calls Tryz.prog 71 #[.string s] w fun e w' => e = .returned (.tuple #[.int .u64 (numOf s.data.toList : Nat), .int .i64 0]) ∧ Below w.heap.size w w' := by
  have LS := hide (show s.data.toList.length = s.size from Array.length_toList)
  have RT := hide (fun W => bitsRight_any s W (by unfold maxLen; omega))
  have R : bitRow s.data.toList = true := bitRow_iff.2 ⟨by rw [LS.out]; omega, hb⟩
  rw [R] at RT
  have BT := hide (fun j (hj : j < s.size) => show s[j] = 48 ∨ s[j] = 49 from hb _ (List.getElem_mem (l := s.data.toList) (by rw [LS.out]; exact hj)))
  clear R hb
  go_enter Tryz.func71, Tryz.ntmps71
  go_wp2_with fail
  refine (RT.out _).mono ?_
  rintro e1 w1 ⟨rfl, q1⟩
  go_wp2_with fail
  go_loop [4, 16] (fun m i => ∃ (j v : Nat), j ≤ s.size ∧ i = .int .i64 j ∧ m = .int .u64 v ∧ Hid (v = numOf (s.data.toList.take j))) (fun _ i => s.size - (intOf i).toNat)
  case atStart => exact ⟨0, 0, Nat.zero_le _, rfl, rfl, by simp [Hid, FP.numOf]⟩
  case round =>
    obtain ⟨j, v, hj, rfl, rfl, H⟩ := hrel
    by_cases hlt : j < s.size
    · have hv : v < 2 ^ 62 := by
        have h1 := H.out
        have h2 := FP.numOf_lt (s.data.toList.take j)
        have h3 : (s.data.toList.take j).length ≤ 61 := by rw [List.length_take]; omega
        have h4 := Nat.pow_le_pow_right (n := 2) (by omega) h3
        omega
      have hE := hide (show numOf (s.data.toList.take (j + 1)) = 2 * v + (if s[j] = 49 then 1 else 0) by
        rw [List.take_succ_eq_append_getElem (by rw [LS.out]; exact hlt), FP.numOf_snoc, H.out]; rfl)
      rw [show (2 : Nat) ^ 62 = 4611686018427387904 by decide] at hv
      obtain ⟨o0, o1⟩ := or_low v hv
      rcases BT.out j hlt with hc | hc
      · have hE' := hide (show numOf (s.data.toList.take (j + 1)) = 2 * v by rw [hE.out, hc]; rfl)
        clear hE o1
        go_wp2_with fail
        go_round
        case rel => exact ⟨j + 1, 2 * v, by omega, by go_num, by simp, hE'.out.symm⟩
        case measure => simp [intOf]; omega
      · have hE' := hide (show numOf (s.data.toList.take (j + 1)) = 2 * v + 1 by rw [hE.out, hc]; rfl)
        clear hE o0
        go_wp2_with fail
        go_round
        case rel => exact ⟨j + 1, 2 * v + 1, by omega, by go_num, by simp, hE'.out.symm⟩
        case measure => simp [intOf]; omega
    · have hE := hide (show v = numOf s.data.toList by rw [H.out, List.take_of_length_le (by rw [LS.out]; omega)])
      go_wp2_with fail
      go_ret2
      exact ⟨by rw [← hE.out]; rfl, q1⟩

theorem toList_extract (s : ByteArray) (a b : Nat) : (s.extract a b).data.toList = s.data.toList.extract a b := by
  rw [ByteArray.data_extract]; simp
theorem get_some (s : ByteArray) (j : Nat) (h : j < s.size) : s.data.toList[j]? = some s[j] := by
  rw [List.getElem?_eq_getElem (by simpa using h)]; rfl
theorem bit_eq {c : UInt8} (h : c = 48 ∨ c = 49) : ((c.toNat : Int) == 49) = decide (some c = some 49) := by
  rcases h with rfl | rfl <;> decide
theorem extract_bits {s : ByteArray} (hb : ∀ c ∈ s.data.toList, c = 48 ∨ c = 49) (a b : Nat) : ∀ c ∈ (s.extract a b).data.toList, c = 48 ∨ c = 49 := by
  intro c hc
  rw [toList_extract, List.extract_eq_take_drop] at hc
  exact hb c (List.mem_of_mem_drop (List.mem_of_mem_take hc))

set_option maxRecDepth 100000 in
set_option maxHeartbeats 1000000 in
theorem frSize_no (s : ByteArray) (w : World) (hs : s.size ≤ maxLen) (hR : bitRow s.data.toList = false) :
    Calls Tryz.prog 69 #[.string s] w fun e w' => e = .returned (.tuple #[.int .i64 0, .int .i64 1]) ∧ Below w.heap.size w w' := by
  have RT := hide (fun W => bitsRight_any s W hs)
  rw [hR] at RT
  clear hR hs
  go_enter Tryz.func69, Tryz.ntmps69
  go_wp2_with fail
  refine (RT.out _).mono ?_
  rintro e1 w1 ⟨rfl, q1⟩
  go_wp2_with fail
  go_ret2
  exact ⟨rfl, q1⟩

set_option maxRecDepth 100000 in
set_option maxHeartbeats 4000000 in
theorem frSize_any (s : ByteArray) (w : World) (hb : ∀ c ∈ s.data.toList, c = 48 ∨ c = 49) (hs : s.size ≤ 4000) :
    Calls Tryz.prog 69 #[.string s] w fun e w' => e = .returned (.tuple #[.int .i64 (sizeV s.data.toList : Nat), .int .i64 (sizeE s.data.toList : Nat)]) ∧ Below w.heap.size w w' := by
  have LS := hide (show s.data.toList.length = s.size from Array.length_toList)
  have RT := hide (fun W => bitsRight_any s W (by unfold maxLen; omega))
  have R : bitRow s.data.toList = true := bitRow_iff.2 ⟨by rw [LS.out]; omega, hb⟩
  rw [R] at RT
  have BT := hide (fun j (hj : j < s.size) => show s[j] = 48 ∨ s[j] = 49 from hb _ (List.getElem_mem (l := s.data.toList) (by rw [LS.out]; exact hj)))
  have NB := hide (fun a b (h : b ≤ s.size) (h2 : b ≤ a + 60) W => bitsNumber_any (s.extract a b) W (extract_bits hb a b) (by rw [ByteArray.size_extract]; omega))
  have GS := hide (fun j (h : j < s.size) => get_some s j h)
  have SE := hide (show sizeE s.data.toList = if s.data.toList.length < 14 then 3 else if s.data.toList.length < fxN s.data.toList then 3 else if 8 < dlN s.data.toList then 12 else 0 from rfl)
  have SV := hide (show sizeV s.data.toList = if sizeE s.data.toList = 0 then fxN s.data.toList + 8 * (if s.data.toList[fxN s.data.toList - 7]? = some 49 then 0 else dlN s.data.toList) else 0 from rfl)
  have FX := hide (show fxN s.data.toList = if s.data.toList[13]? = some 49 then 39 else 19 from rfl)
  have DL := hide (show dlN s.data.toList = numOf (s.data.toList.extract (fxN s.data.toList - 4) (fxN s.data.toList)) from rfl)
  generalize sizeE s.data.toList = se at *
  generalize sizeV s.data.toList = sv at *
  generalize fxN s.data.toList = fx at *
  generalize dlN s.data.toList = dl at *
  rw [LS.out] at SE
  clear R hb
  by_cases h14 : s.size < 14
  · have e1 := SE.out
    rw [if_pos h14] at e1
    have e2 := SV.out
    rw [e1, if_neg (by omega)] at e2
    rw [e1, e2]
    clear SE SV FX DL NB GS BT e1 e2
    go_enter Tryz.func69, Tryz.ntmps69
    go_wp2_with fail
    refine (RT.out _).mono ?_
    rintro e1 w1 ⟨rfl, q1⟩
    go_wp2_with fail
    go_ret2
    exact ⟨rfl, q1⟩
  · have h14' : 13 < s.size := by omega
    have E := SE.out
    rw [if_neg h14] at E
    replace SE := hide E
    clear E
    have g13 := GS.out 13 h14'
    have b13 := bit_eq (BT.out 13 h14')
    rw [← g13] at b13
    by_cases hx : s.data.toList[13]? = some 49
    · have hfx := FX.out
      rw [if_pos hx] at hfx
      subst hfx
      rw [decide_eq_true hx] at b13
      clear g13 hx FX
      by_cases hK : s.size < 39
      · have e1 := SE.out
        rw [if_pos hK] at e1
        have e2 := SV.out
        rw [e1, if_neg (by omega)] at e2
        rw [e1, e2]
        clear SE SV DL NB GS BT e1 e2
        go_enter Tryz.func69, Tryz.ntmps69
        go_wp2_with fail
        refine (RT.out _).mono ?_
        rintro e1 w1 ⟨rfl, q1⟩
        go_wp2_with fail
        go_ret2
        exact ⟨rfl, q1⟩
      · have hK' : 39 ≤ s.size := by omega
        have E := SE.out
        rw [if_neg hK] at E
        replace SE := hide E
        clear E
        have N1 := hide (NB.out 35 39 (by omega) (by omega))
        rw [toList_extract] at N1
        have D2 : dl = numOf (s.data.toList.extract 35 39) := DL.out
        rw [← D2] at N1
        have hdl : dl < 16 := by
          have h := FP.numOf_lt (s.data.toList.extract 35 39)
          rw [← D2] at h
          have h2 : (s.data.toList.extract 35 39).length ≤ 4 := by rw [List.extract_eq_take_drop, List.length_take]; omega
          have h3 := Nat.pow_le_pow_right (n := 2) (by omega) h2
          omega
        have bA := bit_eq (BT.out 32 (by omega))
        have gA := GS.out 32 (by omega)
        rw [← gA] at bA
        clear NB BT GS DL D2 gA
        by_cases h8 : 8 < dl
        · have e1 := SE.out
          rw [if_pos h8] at e1
          have e2 := SV.out
          rw [e1, if_neg (by omega)] at e2
          rw [e1, e2]
          clear SE SV e1 e2 bA
          go_enter Tryz.func69, Tryz.ntmps69
          go_wp2_with fail
          refine (RT.out _).mono ?_
          rintro e1 w1 ⟨rfl, q1⟩
          go_wp2_with fail
          refine (N1.out _).mono ?_
          rintro e2 w2 ⟨rfl, q2⟩
          have Q2 := hide (below_next q1 q1.size q2)
          clear q1 q2
          go_wp2_with fail
          go_ret2
          exact ⟨rfl, Q2.out⟩
        · have e1 := SE.out
          rw [if_neg h8] at e1
          have e2 := SV.out
          rw [e1, if_pos rfl] at e2
          rw [e1]
          have e2' : sv = 39 + 8 * (if s.data.toList[32]? = some 49 then 0 else dl) := e2
          clear SE SV e2
          by_cases hA : s.data.toList[32]? = some 49
          · rw [if_pos hA] at e2'
            rw [decide_eq_true hA] at bA
            rw [e2']
            clear e2' e1 hA
            go_enter Tryz.func69, Tryz.ntmps69
            go_wp2_with fail
            refine (RT.out _).mono ?_
            rintro e1 w1 ⟨rfl, q1⟩
            go_wp2_with fail
            refine (N1.out _).mono ?_
            rintro e2 w2 ⟨rfl, q2⟩
            have Q2 := hide (below_next q1 q1.size q2)
            clear q1 q2
            go_wp2_with fail
            go_ret2
            exact ⟨rfl, Q2.out⟩
          · rw [if_neg hA] at e2'
            rw [decide_eq_false hA] at bA
            rw [e2']
            clear e2' e1 hA
            go_enter Tryz.func69, Tryz.ntmps69
            go_wp2_with fail
            refine (RT.out _).mono ?_
            rintro e1 w1 ⟨rfl, q1⟩
            go_wp2_with fail
            refine (N1.out _).mono ?_
            rintro e2 w2 ⟨rfl, q2⟩
            have Q2 := hide (below_next q1 q1.size q2)
            clear q1 q2
            go_wp2_with fail
            go_ret2
            exact ⟨by simp, Q2.out⟩
    · have hfx := FX.out
      rw [if_neg hx] at hfx
      subst hfx
      rw [decide_eq_false hx] at b13
      clear g13 hx FX
      by_cases hK : s.size < 19
      · have e1 := SE.out
        rw [if_pos hK] at e1
        have e2 := SV.out
        rw [e1, if_neg (by omega)] at e2
        rw [e1, e2]
        clear SE SV DL NB GS BT e1 e2
        go_enter Tryz.func69, Tryz.ntmps69
        go_wp2_with fail
        refine (RT.out _).mono ?_
        rintro e1 w1 ⟨rfl, q1⟩
        go_wp2_with fail
        go_ret2
        exact ⟨rfl, q1⟩
      · have hK' : 19 ≤ s.size := by omega
        have E := SE.out
        rw [if_neg hK] at E
        replace SE := hide E
        clear E
        have N1 := hide (NB.out 15 19 (by omega) (by omega))
        rw [toList_extract] at N1
        have D2 : dl = numOf (s.data.toList.extract 15 19) := DL.out
        rw [← D2] at N1
        have hdl : dl < 16 := by
          have h := FP.numOf_lt (s.data.toList.extract 15 19)
          rw [← D2] at h
          have h2 : (s.data.toList.extract 15 19).length ≤ 4 := by rw [List.extract_eq_take_drop, List.length_take]; omega
          have h3 := Nat.pow_le_pow_right (n := 2) (by omega) h2
          omega
        have bA := bit_eq (BT.out 12 (by omega))
        have gA := GS.out 12 (by omega)
        rw [← gA] at bA
        clear NB BT GS DL D2 gA
        by_cases h8 : 8 < dl
        · have e1 := SE.out
          rw [if_pos h8] at e1
          have e2 := SV.out
          rw [e1, if_neg (by omega)] at e2
          rw [e1, e2]
          clear SE SV e1 e2 bA
          go_enter Tryz.func69, Tryz.ntmps69
          go_wp2_with fail
          refine (RT.out _).mono ?_
          rintro e1 w1 ⟨rfl, q1⟩
          go_wp2_with fail
          refine (N1.out _).mono ?_
          rintro e2 w2 ⟨rfl, q2⟩
          have Q2 := hide (below_next q1 q1.size q2)
          clear q1 q2
          go_wp2_with fail
          go_ret2
          exact ⟨rfl, Q2.out⟩
        · have e1 := SE.out
          rw [if_neg h8] at e1
          have e2 := SV.out
          rw [e1, if_pos rfl] at e2
          rw [e1]
          have e2' : sv = 19 + 8 * (if s.data.toList[12]? = some 49 then 0 else dl) := e2
          clear SE SV e2
          by_cases hA : s.data.toList[12]? = some 49
          · rw [if_pos hA] at e2'
            rw [decide_eq_true hA] at bA
            rw [e2']
            clear e2' e1 hA
            go_enter Tryz.func69, Tryz.ntmps69
            go_wp2_with fail
            refine (RT.out _).mono ?_
            rintro e1 w1 ⟨rfl, q1⟩
            go_wp2_with fail
            refine (N1.out _).mono ?_
            rintro e2 w2 ⟨rfl, q2⟩
            have Q2 := hide (below_next q1 q1.size q2)
            clear q1 q2
            go_wp2_with fail
            go_ret2
            exact ⟨rfl, Q2.out⟩
          · rw [if_neg hA] at e2'
            rw [decide_eq_false hA] at bA
            rw [e2']
            clear e2' e1 hA
            go_enter Tryz.func69, Tryz.ntmps69
            go_wp2_with fail
            refine (RT.out _).mono ?_
            rintro e1 w1 ⟨rfl, q1⟩
            go_wp2_with fail
            refine (N1.out _).mono ?_
            rintro e2 w2 ⟨rfl, q2⟩
            have Q2 := hide (below_next q1 q1.size q2)
            clear q1 q2
            go_wp2_with fail
            go_ret2
            exact ⟨by simp, Q2.out⟩
end Go.Proofs.YthkilodnghiocaaGreatDoor
