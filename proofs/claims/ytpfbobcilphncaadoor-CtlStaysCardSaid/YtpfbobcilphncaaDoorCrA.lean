/- The walks of the reference's sum: dividing on paper. -/
import Derived.Test.YtpfbobcilphncaaDoorOrdL
import Derived.Test.YtpfbobcilphncaaDoorOwS
import Derived.Test.YtpfbobcilphncaaDoorMgFrR
import Derived.Test.YtpfbobcilphncaaDoorMgCrP
namespace Go.Proofs.YtpfbobcilphncaaDoor
open Go.ChangeShapes Go.WideShapes Go.ChangeAt Go.RowKit
open FP (bit bitsOf numOf bitAt divB divK pB crcOf crcStep)

theorem slByteC : SlT Tryd.prog 81 5 1 1 := SlT.mk (z := .int .u8 0) Tryd.underlying81 (by kernel_rfl) rfl (by decide)
def bI (b : Bool) : Int := if b then 1 else 0
def bV (b : Bool) : Value := .int .u8 (bI b)
def bRow (n : Nat) (F : Nat → Bool) : List (List Value) := (List.range n).map fun j => [bV (F j)]
theorem bRow_len (n : Nat) (F : Nat → Bool) : (bRow n F).length = n := by simp [bRow]
theorem bRow_rows (n : Nat) (F : Nat → Bool) : ∀ r ∈ bRow n F, r.length = 1 := by
  intro r hr
  obtain ⟨j, _, rfl⟩ := List.mem_map.1 hr
  rfl
theorem flat1 (l : List Nat) (f : Nat → Value) : (l.map fun j => [f j]).flatten = l.map f := by
  induction l with
  | nil => rfl
  | cons a l ih => simp [ih]
theorem bRow_flat (n : Nat) (F : Nat → Bool) : (bRow n F).flatten = (List.range n).map fun j => bV (F j) := flat1 _ _
theorem bRow_succ (n : Nat) (F : Nat → Bool) : bRow (n + 1) F = bRow n F ++ [[bV (F n)]] := by simp [bRow, List.range_succ]
theorem bRow_get (n : Nat) (F : Nat → Bool) {j : Nat} (h : j < n) : (bRow n F)[j]? = some [bV (F j)] := by
  unfold bRow
  rw [List.getElem?_map, List.getElem?_range h]
  rfl
theorem bRow_congr (n : Nat) {F G : Nat → Bool} (h : ∀ j, j < n → F j = G j) : bRow n F = bRow n G := by
  unfold bRow
  apply List.map_congr_left
  intro j hj
  rw [h j (List.mem_range.1 hj)]
theorem bRow_set (n m : Nat) (F G : Nat → Bool) (b : Bool) (hb : G m = b) (h : ∀ j, j ≠ m → G j = F j) : (bRow n F).flatten.set m (bV b) = (bRow n G).flatten := by
  rw [bRow_flat, bRow_flat]
  apply List.ext_getElem?
  intro j
  rw [List.getElem?_set]
  by_cases hj : m = j
  · subst hj
    by_cases hm : m < n
    · simp [hm, hb]
    · simp [hm]
  · rw [if_neg hj, List.getElem?_map, List.getElem?_map]
    by_cases hm : j < n
    · rw [List.getElem?_range hm]
      simp only [Option.map_some]
      rw [h j (fun e => hj e.symm)]
    · rw [List.getElem?_eq_none (by simp; omega)]; rfl

/-- A cell of such a row of the call's own. -/
theorem bOwn_cell {W : World} {B n c g : Nat} {F : Nat → Bool} (h : Own W B 5 1 (some ⟨g, 0, none⟩) c (bRow n F)) {j : Nat} (hj : j < n) : W.cell? ⟨g, j, none⟩ = some (bV (F j)) := by
  have := own_at h (bRow_rows n F) (bRow_get n F hj) (j := 0) rfl
  simpa using this
theorem bOwn_set {W : World} {B n c g : Nat} {F : Nat → Bool} (h : Own W B 5 1 (some ⟨g, 0, none⟩) c (bRow n F)) (m : Nat) (G : Nat → Bool) (b : Bool) (hb : G m = b) (hG : ∀ j, j ≠ m → G j = F j) :
    Own (W.setCell ⟨g, m, none⟩ (bV b)) B 5 1 (some ⟨g, 0, none⟩) c (bRow n G) := by
  have h1 := (World.ownsRow.stored h m (bV b)).1
  unfold Own
  rw [bRow_len] at h1 ⊢
  rw [bRow_set n m F G b hb hG] at h1
  exact h1
theorem bOwn_form {W : World} {B n c : Nat} {A : Option Addr} {F : Nat → Bool} (h : Own W B 5 1 A c (bRow n F)) (hn : 0 < n) : ∃ g, A = some ⟨g, 0, none⟩ ∧ B ≤ g ∧ g < W.heap.size := h.ofLen (by rw [bRow_len]; exact hn)

theorem byte_sub (c : UInt8) (h : c = 48 ∨ c = 49) : ((c.toNat : Int) - 48) % 256 = if c == 49 then 1 else 0 := by
  rcases h with rfl | rfl <;> decide
theorem pB_cell (k : Nat) (hk : k < 16) : ((⟨(bitsOf 50585 16).toArray⟩ : ByteArray).data.toList)[k]? = some (if pB k then 49 else 48) := by
  have := FP.pB_bits ⟨k, hk⟩
  simpa using this

/-- How far the sum has come. -/
def numK (r d : Nat) : Nat := r / 2 ^ (15 - d)

theorem numK_zero (r : Nat) (h : r < 32768) : numK r 0 = 0 := by unfold numK; omega
theorem numK_full (r : Nat) : numK r 15 = r := by unfold numK; simp
theorem numK_le (r d : Nat) (h : r < 32768) (hd : d < 15) : numK r d < 16384 := by
  unfold numK
  have h1 : 2 ^ 1 ≤ 2 ^ (15 - d) := Nat.pow_le_pow_right (by omega) (by omega)
  calc r / 2 ^ (15 - d) ≤ r / 2 ^ 1 := Nat.div_le_div_left h1 (by decide)
    _ < 16384 := by omega
theorem bitAt_val (l : List UInt8) (k : Nat) (hk : k < l.length) (h : ∀ c ∈ l, c = 48 ∨ c = 49) : ((l[k].toNat : Int) - 48) % 256 = if bitAt l k then 1 else 0 := by
  rw [byte_sub _ (h _ (List.getElem_mem hk))]
  unfold bitAt
  rw [List.getElem?_eq_getElem hk]
  rfl
theorem xor_bits (x p : Bool) : bits .xor .u8 (bI x) (bI p) = bI (x ^^ p) := by cases x <;> cases p <;> decide
theorem bV_eq (b : Bool) : bV b = .int .u8 (bI b) := rfl

set_option maxRecDepth 100000 in
set_option maxHeartbeats 4000000 in
theorem refCrc_any (s : ByteArray) (w : World) (hb : ∀ c ∈ s.data.toList, c = 48 ∨ c = 49) (hs : s.size ≤ 4000) :
    Calls Tryd.prog 34 #[.string s] w fun e w' => e = .returned (.int .u32 (crcOf s.data.toList : Nat)) ∧ Below w.heap.size w w' := by
  have O0 := hide (Own.lit w w.heap.size 5 1 [] (Nat.le_refl _) (by simp) (by simp))
  have q0 : Below w.heap.size w (w.alloc (.cells #[] 5)) := (Below.refl _ _).alloc (Nat.le_refl _) _
  have LS := hide (show s.data.toList.length = s.size from Array.length_toList)
  have BV := hide (fun k (hk : k < s.size) => show ((s[k].toNat : Int) - 48) % 256 = bI (bitAt s.data.toList k) from bitAt_val s.data.toList k (by rw [LS.out]; exact hk) hb)
  obtain ⟨n, hn⟩ : ∃ n, n = s.size := ⟨_, rfl⟩
  have HD := hide (fun d (hd : d < 15) => FP.div_left s.data.toList d hd)
  have HZ := hide (fun j (hj : n ≤ j) => FP.bitAt_out s.data.toList j (by rw [LS.out]; omega))
  have HC := hide (FP.crcOf_lt s.data.toList)
  rw [LS.out, ← hn] at HD
  have HN := hide hn
  rw [← hn] at hs
  have hns : n ≤ s.size := by omega
  have hsn : s.size ≤ n := by omega
  clear hn LS hb
  generalize s.data.toList = l at *
  go_enter Tryd.func34, Tryd.ntmps34
  go_wp2
  go_loopw [3, 4] (fun vb vi W => ∃ (k : Nat) (A : Option Addr) (c : Nat), k ≤ n ∧ vi = .int .i64 k ∧ vb = .slice A k c ∧ Hid (Own W w.heap.size 5 1 A c (bRow k (bitAt l))) ∧ Below w.heap.size w W) (fun _ vi _ => n - (intOf vi).toNat)
  case atStart => exact ⟨0, _, 0, Nat.zero_le _, rfl, rfl, O0, q0⟩
  case round =>
    clear O0 q0
    obtain ⟨k, A, c, hk, rfl, rfl, hO, q⟩ := hrel
    have zb : w.heap.size ≤ wr.heap.size := q.size
    by_cases hlt : k < n
    · have hv := BV.out k (by omega)
      have hks : k < s.size := by omega
      have OA := hide (hO.out.alloc (.cells #[bV (bitAt l k)] 5))
      have R6 := hide (fun t => rd_row (cs := [bV (bitAt l k)]) (World.alloc_heap_new wr (.cells #[bV (bitAt l k)] t)))
      have E1 := hide (show ((bRow k (bitAt l)).length + [([bV (bitAt l k)] : List Value)].length) * 1 ≤ 140737488355328 by rw [bRow_len]; simp; omega)
      have E2 := hide (show (bRow k (bitAt l)).length + [([bV (bitAt l k)] : List Value)].length ≤ maxLen by rw [bRow_len]; simp [maxLen]; omega)
      have E3 := hide (show k = (bRow k (bitAt l)).length by rw [bRow_len])
      rw [bV_eq] at *
      go_wp2_with (at_builtin; refine wpList_append_rows _ rfl _ _ 81 rfl slByteC w.heap.size _ _ _ (bRow k (bitAt l)) (by rfl) (by exact OA.out) _ _ _ [[.int .u8 (bI (bitAt l k))]] (by rfl) (by simpa using R6.out _) (by simp) (by simp [Value.oneCell']) (by exact E1.out) (by exact E2.out) (by simp; omega) (by exact E3.out) (by rfl) ?_)
      intro A6 c6 W6 o6 g6
      have q6 := below_append (q.alloc q.size (.cells #[.int .u8 (bI (bitAt l k))] 5)) g6 OA.out (Nat.le_refl _) (by have := q.size; simp; omega)
      have NX : Hid (Own W6 w.heap.size 5 1 A6 c6 (bRow (k + 1) (bitAt l))) := by
        rw [bRow_succ]
        exact hide o6
      clear o6 g6 OA R6 E1 E2 E3 hO hv
      go_wp2
      go_roundw
      case rel => exact ⟨k + 1, A6, c6, by omega, by go_num, rfl, NX, q6⟩
      case measure => simp [intOf]; omega
    · obtain rfl : k = n := by omega
      have HOx := hO
      clear hO
      have hkd : decide (k < s.size) = false := decide_eq_false (by omega)
      go_wp2
      go_loopw [3, 5] (fun vb vi W => ∃ (d : Nat) (A : Option Addr) (c : Nat), d ≤ 15 ∧ vi = .int .i64 d ∧ vb = .slice A (k + d) c ∧ Hid (Own W w.heap.size 5 1 A c (bRow (k + d) (bitAt l))) ∧ Below w.heap.size w W) (fun _ vi _ => 15 - (intOf vi).toNat)
      case atStart => exact ⟨0, A, c, Nat.zero_le _, rfl, rfl, HOx, q⟩
      case round =>
        clear HOx q
        obtain ⟨d, A, c, hd, rfl, rfl, hO, q⟩ := hrel
        by_cases hlt2 : d < 15
        · have HZd := hide (show bitAt l (k + d) = false from HZ.out _ (by omega))
          have OA := hide (hO.out.alloc (.cells #[.int .u8 0] 5))
          have R6 := hide (fun t => rd_row (cs := [.int .u8 0]) (World.alloc_heap_new wr (.cells #[.int .u8 0] t)))
          have E1 := hide (show ((bRow (k + d) (bitAt l)).length + [([.int .u8 0] : List Value)].length) * 1 ≤ 140737488355328 by rw [bRow_len]; simp; omega)
          have E2 := hide (show (bRow (k + d) (bitAt l)).length + [([.int .u8 0] : List Value)].length ≤ maxLen by rw [bRow_len]; simp [maxLen]; omega)
          have E3 := hide (show k + d = (bRow (k + d) (bitAt l)).length by rw [bRow_len])
          go_wp2_with (at_builtin; refine wpList_append_rows _ rfl _ _ 81 rfl slByteC w.heap.size _ _ _ (bRow (k + d) (bitAt l)) (by rfl) (by exact OA.out) _ _ _ [[.int .u8 0]] (by rfl) (by simpa using R6.out _) (by simp) (by simp [Value.oneCell']) (by exact E1.out) (by exact E2.out) (by have := q.size; simp; omega) (by exact E3.out) (by rfl) ?_)
          intro A6 c6 W6 o6 g6
          have q6 := below_append (q.alloc q.size (.cells #[.int .u8 0] 5)) g6 OA.out (Nat.le_refl _) (by have := q.size; simp; omega)
          have NX : Hid (Own W6 w.heap.size 5 1 A6 c6 (bRow (k + (d + 1)) (bitAt l))) := by
            rw [← Nat.add_assoc, bRow_succ, HZd.out]
            exact hide o6
          clear o6 g6 OA R6 E1 E2 E3 hO q
          go_wp2
          go_roundw
          case rel => exact ⟨d + 1, A6, c6, by omega, by go_num, rfl, NX, q6⟩
          case measure => simp [intOf]; omega
        · obtain rfl : d = 15 := by omega
          have hdd : decide ((15 : Int) < 15) = false := by decide
          have HOy := hO
          clear hO
          go_wp2_with fail
          refine (refOf_any _ _ 50585 16 (by rfl) (by rfl) (by omega) (by omega) _).mono ?_
          rintro e1 w1 ⟨rfl, rfl⟩
          have PC := hide pB_cell
          have PS : (⟨(bitsOf 50585 16).toArray⟩ : ByteArray).size = 16 := by simp [ByteArray.size, FP.bitsOf_length]
          generalize (⟨(bitsOf 50585 16).toArray⟩ : ByteArray) = ps at *
          obtain ⟨g, rfl, hg1, hg2⟩ := bOwn_form HOy.out (by omega)
          go_wp2_with fail
          go_loopw [7] (fun vi W => ∃ i : Nat, i ≤ k ∧ vi = .int .i64 i ∧ Hid (Own W w.heap.size 5 1 (some ⟨g, 0, none⟩) c (bRow (k + 15) (divB l i))) ∧ Below w.heap.size w W) (fun vi _ => k - (intOf vi).toNat)
          case atStart => exact ⟨0, Nat.zero_le _, rfl, HOy, q⟩
          case round =>
            clear HOy q
            obtain ⟨i, hi, rfl, hO, q⟩ := hrel
            by_cases hlt3 : i < k
            · have hlen : (i : Int) + 15 < ((k : Int) + 15) := by omega
              have ci := bOwn_cell hO.out (j := i) (by omega)
              rw [bV_eq] at ci
              rcases hb : divB l i i with _ | _
              · rw [hb] at ci
                have e1 : bI false = 0 := rfl
                rw [e1] at ci
                clear e1
                have NX : Hid (Own wr w.heap.size 5 1 (some ⟨g, 0, none⟩) c (bRow (k + 15) (divB l (i + 1)))) := by
                  rw [bRow_congr (k + 15) (fun j _ => FP.divB_no l i j hb)]
                  exact hO
                clear hO hb
                go_wp2_with fail
                go_roundw
                case rel => exact ⟨i + 1, by omega, by go_num, NX, q⟩
                case measure => simp [intOf]; omega
              · rw [hb] at ci
                have e1 : bI true = 1 := rfl
                rw [e1] at ci
                clear e1
                have HB := hide hb
                have KZ : Hid (Own wr w.heap.size 5 1 (some ⟨g, 0, none⟩) c (bRow (k + 15) (divK l i 0))) := by
                  rw [bRow_congr (k + 15) (fun j _ => FP.divK_zero l i j)]
                  exact hO
                clear hO hb
                obtain ⟨wo, rfl⟩ : ∃ wo : World, wo = wr := ⟨_, rfl⟩
                go_wp2_with fail
                go_loopw [8] (fun vq W => ∃ m : Nat, m ≤ 16 ∧ vq = .int .i64 m ∧ Hid (Own W w.heap.size 5 1 (some ⟨g, 0, none⟩) c (bRow (k + 15) (divK l i m))) ∧ Below w.heap.size w W) (fun vq _ => 16 - (intOf vq).toNat)
                case atStart => exact ⟨0, Nat.zero_le _, rfl, KZ, q⟩
                case round =>
                  clear KZ q ci
                  obtain ⟨m, hm, rfl, hO, q⟩ := hrel
                  by_cases hlt4 : m < 16
                  · have hb2 := HB.out
                    have cm := bOwn_cell hO.out (j := i + m) (by omega)
                    have fz := hO.out.frozenAt (i + m)
                    have NX := hide (bOwn_set hO.out (i + m) (divK l i (m + 1)) _ (FP.divK_here l i m hb2) (fun j hj => FP.divK_there l i m j hj))
                    have XB := xor_bits (divK l i m (i + m)) (FP.pB m)
                    have hms : m < ps.size := by omega
                    have PM : ((ps[m].toNat : Int) - 48) % 256 = bI (FP.pB m) := by
                      have h := PC.out m hlt4
                      rw [List.getElem?_eq_getElem (by rw [Array.length_toList]; exact hms)] at h
                      have h2 : ps[m] = if FP.pB m = true then 49 else 48 := Option.some.inj h
                      rw [h2]
                      cases FP.pB m <;> decide
                    rw [bV_eq] at cm NX
                    clear hb2 HB hO PC
                    generalize hx : bI (divK l i m (i + m)) = x at *
                    generalize hp : bI (FP.pB m) = pb at *
                    generalize bI (divK l i m (i + m) ^^ FP.pB m) = xp at *
                    clear hx hp
                    go_wp2_with fail
                    go_region
                    all_goals
                      go_wp2
                      refine ⟨⟨m + 1, by omega, by go_num, NX.out, (q.setCell hg1 _).drew⟩, by simp [intOf]; omega⟩
                  · obtain rfl : m = 16 := by omega
                    go_wp2_with fail
                    go_roundw
                    case rel => exact ⟨i + 1, by omega, by go_num, hO, q⟩
                    case measure => simp [intOf]; omega
            · obtain rfl : i = k := by omega
              have e1 : ((i : Int) + 15 - 15) = i := by omega
              have HOz := hide hO.out
              have qz := q
              have HK0 := hide (numK_zero _ HC.out)
              clear hO q
              go_wp2_with fail
              go_loopw [9, 10] (fun vn vi W => ∃ d v : Nat, d ≤ 15 ∧ vi = .int .i64 ((i + d : Nat) : Int) ∧ vn = .int .u32 v ∧ Hid (v = numK (crcOf l) d) ∧ W = wr) (fun _ vi _ => i + 15 - (intOf vi).toNat)
              case atStart => exact ⟨0, 0, Nat.zero_le _, rfl, rfl, hide HK0.out.symm, rfl⟩
              case round =>
                obtain ⟨d, v, hd, rfl, rfl, hv, rfl⟩ := hrel
                by_cases hlt5 : d < 15
                · have ci := bOwn_cell HOz.out (j := i + d) (by omega)
                  rw [HD.out d hlt5, bV_eq] at ci
                  have HV : Hid ((2 * (v : Int) + bI ((crcOf l).testBit (14 - d))) = ((numK (crcOf l) (d + 1) : Nat) : Int)) := by
                    have h := FP.num_step (crcOf l) d hlt5
                    have e : numK (crcOf l) (d + 1) = 2 * numK (crcOf l) d + ((crcOf l).testBit (14 - d)).toNat := h
                    rw [e, hv.out]
                    cases (crcOf l).testBit (14 - d) <;> simp [Hid, bI]
                  have hv2 : v < 16384 := by rw [hv.out]; exact numK_le _ _ HC.out hlt5
                  have hx : 0 ≤ bI ((crcOf l).testBit (14 - d)) ∧ bI ((crcOf l).testBit (14 - d)) ≤ 1 := by cases (crcOf l).testBit (14 - d) <;> decide
                  generalize bI ((crcOf l).testBit (14 - d)) = x at *
                  obtain ⟨hx0, hx1⟩ := hx
                  have hlen5 : ((i : Int) + d) < ((i : Int) + 15) := by omega
                  clear hv
                  go_wp2_with fail
                  go_roundw
                  case rel => exact ⟨d + 1, numK (crcOf l) (d + 1), by omega, by go_num, by rw [← HV.out], rfl, trivial⟩
                  case measure => simp [intOf]; omega
                · obtain rfl : d = 15 := by omega
                  rw [numK_full] at hv
                  go_wp2_with fail
                  go_ret
                  exact ⟨by rw [← hv.out]; rfl, qz⟩
end Go.Proofs.YtpfbobcilphncaaDoor
