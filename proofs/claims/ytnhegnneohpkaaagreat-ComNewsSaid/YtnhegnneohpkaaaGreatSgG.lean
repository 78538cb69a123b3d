/- The walk of signal.Get. -/
import Derived.Test.YtnhegnneohpkaaaGreatSgE
import Derived.Test.YtnhegnneohpkaaaGreatMgPdH
import Derived.Laws.BitsAllLaws
namespace Go.Proofs.YtnhegnneohpkaaaGreat
open Go.ChangeShapes Go.WideShapes Go.ChangeAt Go.RowKit
open SG

/-- What Get answers. -/
def getV (d : ByteArray) (s : Sg) : Int := if wellF d.size s = 0 then getF d.data.toList s else 0
theorem get_or {n k : Nat} (hn : n < 2 ^ k) (hk : k < 64) (b : Bool) : bits .or .u64 (n : Int) (IntKind.u64.wrap ((if b then 1 else 0 : Int) * 2 ^ k)) = ((n ||| (if b then 2 ^ k else 0) : Nat) : Int) := by
  have hwr : ∀ z : Int, IntKind.u64.wrap z = z % 18446744073709551616 := fun z => by simp [IntKind.wrap, IntKind.bits, IntKind.signed]
  rw [hwr]
  have hp : 2 ^ k ≤ 2 ^ 63 := Nat.pow_le_pow_right (by omega) (by omega)
  have e : (((if b then 1 else 0 : Int) * 2 ^ k) % 18446744073709551616) = ((if b then 2 ^ k else 0 : Nat) : Int) := by
    cases b with
    | false => simp
    | true =>
      simp only [if_true, Int.one_mul]
      rw [show ((2 : Int) ^ k) = ((2 ^ k : Nat) : Int) by simp]
      omega
  rw [e]
  refine u64_or_nat n _ (by omega) ?_
  split <;> omega
theorem get_sgn {n m s : Nat} (hm : m + 1 + s = 64) (hn : n < 2 ^ (m + 1)) : wrap64 (IntKind.u64.wrap ((n : Int) * 2 ^ s)) / 2 ^ s = sgnI n (m + 1) true := by
  have hwr : ∀ z : Int, IntKind.u64.wrap z = z % 18446744073709551616 := fun z => by simp [IntKind.wrap, IntKind.bits, IntKind.signed]
  have hpn : 0 < 2 ^ s := Nat.two_pow_pos s
  have e64 : 2 ^ (m + 1) * 2 ^ s = 18446744073709551616 := by rw [← Nat.pow_add, hm]
  have e63 : 2 ^ m * 2 ^ s = 9223372036854775808 := by rw [← Nat.pow_add, show m + s = 63 by omega]
  have c : (n : Int) * 2 ^ s = ((n * 2 ^ s : Nat) : Int) := by simp
  have hlt : n * 2 ^ s < 18446744073709551616 := by rw [← e64]; exact Nat.mul_lt_mul_of_pos_right hn hpn
  have cs : ((2 : Int) ^ s) = ((2 ^ s : Nat) : Int) := by simp
  rw [c, hwr, Int.emod_eq_of_lt (by omega) (by omega)]
  unfold sgnI
  simp only [Nat.add_sub_cancel]
  by_cases h : 2 ^ m ≤ n
  · have h63 : 9223372036854775808 ≤ n * 2 ^ s := by rw [← e63]; exact Nat.mul_le_mul_right _ h
    rw [if_pos ⟨trivial, h⟩]
    have : wrap64 ((n * 2 ^ s : Nat) : Int) = ((n : Int) - 2 ^ (m + 1)) * 2 ^ s := by
      rw [Int.sub_mul, c]
      have : ((2 : Int) ^ (m + 1) * 2 ^ s) = 18446744073709551616 := by rw [← Int.pow_add, hm]; rfl
      rw [this]
      unfold wrap64
      omega
    rw [this, cs, Int.mul_ediv_cancel _ (by omega)]
  · have h63 : n * 2 ^ s < 9223372036854775808 := by rw [← e63]; exact Nat.mul_lt_mul_of_pos_right (by omega) hpn
    rw [if_neg (fun h2 => h h2.2)]
    have : wrap64 ((n * 2 ^ s : Nat) : Int) = (n : Int) * 2 ^ s := by
      rw [c]
      unfold wrap64
      omega
    rw [this, cs, Int.mul_ediv_cancel _ (by omega)]
theorem get_uns {n m : Nat} (hm : m ≤ 63) (hn : n < 2 ^ m) : wrap64 (n : Int) = sgnI n m false := by
  unfold sgnI
  rw [if_neg (by simp)]
  have : 2 ^ m ≤ 2 ^ 63 := Nat.pow_le_pow_right (by omega) hm
  unfold wrap64
  omega
theorem byte_bit (x : Fin 256) (j : Fin 8) : bits .and .u8 ((x.val : Int) / 2 ^ j.val) 1 = if x.val.testBit j.val then 1 else 0 := by
  revert x j
  decide +kernel

set_option maxRecDepth 100000 in
set_option maxHeartbeats 4000000 in
theorem get_bad (d : ByteArray) (s : Sg) (w : World) (hd : d.size ≤ 1000000) (hw : wellF d.size s ≠ 0) :
    Calls Tryz.prog 76 #[.string d, .agg #[.int .i64 s.start, .int .i64 s.width, .bool s.big, .bool s.sgn]] w fun e w' => e = .returned (.tuple #[.int .i64 0, .int .i64 (wellF d.size s)]) ∧ Below w.heap.size w w' := by
  have WL := hide (fun W => sigWell_any d s W hd)
  generalize wellF d.size s = x at *
  have hx : (x == 0) = false := by rw [beq_eq_false_iff_ne]; exact hw
  have hx2 : (x != 0) = true := by simp [bne, hx]
  clear hw
  obtain ⟨st, wd, bg, sg⟩ := s
  dsimp only at *
  have q0 : Below w.heap.size w (w.alloc (.cells #[.int .i64 st, .int .i64 wd, .bool bg, .bool sg] 23)) := (Below.refl _ _).alloc (Nat.le_refl _) _
  go_enter Tryz.func76, Tryz.ntmps76
  go_wp2_with fail
  (with_reducible refine (WL.out _).mono ?_)
  rintro e1 w1 ⟨rfl, q1⟩
  have q := below_next q0 q0.size q1
  clear q0 q1 WL
  go_wp2_with fail
  refine bodyPost_ret (v := .tuple #[.int .i64 0, .int .i64 x]) (by simp [results, Tryz.results76, go_sem]) rfl ⟨rfl, q⟩

set_option maxRecDepth 100000 in
set_option maxHeartbeats 4000000 in
theorem get_ok (d : ByteArray) (s : Sg) (w : World) (hd : d.size ≤ 1000000) (hw : wellF d.size s = 0) :
    Calls Tryz.prog 76 #[.string d, .agg #[.int .i64 s.start, .int .i64 s.width, .bool s.big, .bool s.sgn]] w fun e w' => e = .returned (.tuple #[.int .i64 (getF d.data.toList s), .int .i64 0]) ∧ Below w.heap.size w w' := by
  obtain ⟨hne, hd8, hrs⟩ := well_zero hw
  have WL := hide (fun W => sigWell_any d s W hd)
  rw [hw] at WL
  have PS := hide (fun W => places_some s W hne)
  have HP := hide (fun p (hp : p ∈ plL s) => show p < 8 * d.size from by have := (rightS_iff.1 hrs).2.2.2 p hp; omega)
  obtain ⟨hll, hw1, hw2⟩ := plL_length hne
  have hm := (may_iff.1 (plL_may hne).1).2.2.2.2
  have PF := hide (show getF d.data.toList s = sgnI (getN d.data.toList (plL s) (plL s).length) (plL s).length s.sgn from rfl)
  rw [PF.out]
  clear PF hne hrs hw
  generalize plL s = l at *
  have hl64 : l.length ≤ 64 := by omega
  have HLL := hide hll
  clear hll
  have hds : d.data.toList.length = d.size := by simp
  obtain ⟨st, wd, bg, sg⟩ := s
  dsimp only at *
  replace HLL : Hid (l.length = wd.toNat) := HLL
  have q0 : Below w.heap.size w (w.alloc (.cells #[.int .i64 st, .int .i64 wd, .bool bg, .bool sg] 23)) := (Below.refl _ _).alloc (Nat.le_refl _) _
  have B0 := hide (World.alloc_heap_new w (.cells #[.int .i64 st, .int .i64 wd, .bool bg, .bool sg] 23))
  go_enter Tryz.func76, Tryz.ntmps76
  go_wp2_with fail
  (with_reducible refine (WL.out _).mono ?_)
  rintro e1 w1 ⟨rfl, q1⟩
  have Q1 := hide (below_next q0 q0.size q1)
  have B1 := hide (heap_below B0.out q1)
  clear q0 q1 B0 WL
  obtain ⟨c0, c1, c2, c3⟩ := sg_cells (s := ⟨st, wd, bg, sg⟩) B1.out
  dsimp only at c0 c1 c2 c3
  go_wp2_with fail
  (with_reducible refine (PS.out _).mono ?_)
  rintro e2 w2 ⟨g, c, rfl, hr, q2⟩
  have Q2 := hide (below_next Q1.out Q1.out.size q2)
  have B2 := hide (heap_below B1.out q2)
  have R2 := hide hr
  clear hr Q1 q2 B1 PS c0 c1 c2 c3
  go_wp2_with fail
  go_loopw [7, 20] (fun vn vi W => ∃ k : Nat, k ≤ l.length ∧ vi = .int .i64 k ∧ vn = .int .u64 (getN d.data.toList l k : Nat) ∧ w2 = W) (fun _ vi _ => l.length - (intOf vi).toNat)
  case atStart => exact ⟨0, Nat.zero_le _, rfl, rfl, rfl⟩
  case round =>
    obtain ⟨k, hk, rfl, rfl, rfl⟩ := hrel
    by_cases hlt : k < l.length
    · have hp := HP.out l[k] (List.getElem_mem hlt)
      have NX := hide (getN_or d.data.toList l k)
      have hgd : l.getD k 0 = l[k] := by rw [List.getD_eq_getElem?_getD, List.getElem?_eq_getElem hlt]; rfl
      rw [hgd] at NX
      have hn := getN_lt d.data.toList l k
      have GO := hide (fun b => get_or hn (by omega : k < 64) b)
      generalize getN d.data.toList l k = n at *
      obtain ⟨bk, ok, hAe, hbk, ck⟩ := NR.at_ R2.out hlt
      simp only [Option.some.injEq, Addr.mk.injEq, and_true] at hAe
      obtain ⟨rfl, rfl⟩ := hAe
      simp only [Nat.zero_add] at ck
      generalize l[k] = p at *
      obtain ⟨a, ha⟩ : ∃ a, a = p / 8 := ⟨_, rfl⟩
      obtain ⟨j, hj⟩ : ∃ j, j = p % 8 := ⟨_, rfl⟩
      have had : a < d.size := by omega
      have hj8 : j < 8 := by omega
      have hx : d[a].toNat < 256 := UInt8.toNat_lt _
      have BG := byte_bit ⟨d[a].toNat, hx⟩ ⟨j, hj8⟩
      dsimp only at BG
      have EB : bitL d.data.toList p = d[a].toNat.testBit j := by
        unfold bitL
        rw [← ha, ← hj]
        congr 2
        have hz : a < d.data.toList.length := by simpa using had
        rw [List.getD_eq_getElem?_getD, List.getElem?_eq_getElem hz]
        rfl
      rw [← EB] at BG
      clear EB
      generalize bitL d.data.toList p = b at *
      have hai : (p : Int) / 8 = (a : Int) := by omega
      have hji : (p : Int) % 8 = (j : Int) := by omega
      have hat : (p : Int).tdiv 8 = (a : Int) := by rw [Int.tdiv_eq_ediv_of_nonneg (by omega)]; exact hai
      have hjt : (p : Int).tmod 8 = (j : Int) := by rw [Int.tmod_eq_emod_of_nonneg (by omega)]; exact hji
      have hwa : IntKind.i64.wrap (a : Int) = (a : Int) := IntWalk.i64_in _ (by omega)
      have hda : d.data[a]? = some d[a] := Array.getElem?_eq_getElem had
      have hadi : (a : Int) < (d.size : Int) := by omega
      have hki : (k : Int) < (l.length : Int) := by omega
      have hj8i : (j : Int) ≤ 8 := by omega
      have hk64 : (k : Int) ≤ 64 := by omega
      clear hgd ha hj hn HP
      go_wp2_with fail
      go_roundw
      case rel => exact ⟨k + 1, by omega, by go_num, by rw [← NX.out, ← GO.out], trivial⟩
      case measure => simp [intOf]; omega
    · obtain rfl : k = l.length := by omega
      have B3 := hide B2.out
      obtain ⟨c0, c1, c2, c3⟩ := sg_cells (s := ⟨st, wd, bg, sg⟩) B3.out
      dsimp only at c0 c1 c2 c3
      have hn := getN_lt d.data.toList l l.length
      have HN := hide hn
      clear hn HP
      obtain ⟨n, hne⟩ : ∃ n, n = getN d.data.toList l l.length := ⟨_, rfl⟩
      rw [← hne] at HN ⊢
      have HNE := hide hne
      clear hne
      cases sg with
      | true =>
        have E := hide (show wrap64 (IntKind.u64.wrap ((n : Int) * 2 ^ (64 - wd).toNat)) / 2 ^ (64 - wd).toNat = sgnI n l.length true from by
          have h := HN.out
          have h2 := HLL.out
          obtain ⟨m, hm⟩ : ∃ m, l.length = m + 1 := ⟨l.length - 1, by omega⟩
          rw [hm] at h ⊢
          exact get_sgn (by omega) h)
        go_wp2_with fail
        refine bodyPost_ret (v := .tuple #[.int .i64 (wrap64 (IntKind.u64.wrap ((n : Int) * 2 ^ (64 - wd).toNat)) / 2 ^ (64 - wd).toNat), .int .i64 0]) (by simp [results, Tryz.results76, go_sem]) rfl ?_
        exact ⟨by rw [E.out, HNE.out], Q2.out⟩
      | false =>
        have E := hide (show wrap64 (n : Int) = sgnI n l.length false from get_uns (by have h2 := HLL.out; have : wd ≠ 64 := (fun e => hm ⟨e, rfl⟩); omega) HN.out)
        go_wp2_with fail
        refine bodyPost_ret (v := .tuple #[.int .i64 (wrap64 (n : Int)), .int .i64 0]) (by simp [results, Tryz.results76, go_sem]) rfl ?_
        exact ⟨by rw [E.out, HNE.out], Q2.out⟩
/-- Get, of any bytes and signal. -/
theorem get_any (d : ByteArray) (s : Sg) (w : World) (hd : d.size ≤ 1000000) :
    Calls Tryz.prog 76 #[.string d, .agg #[.int .i64 s.start, .int .i64 s.width, .bool s.big, .bool s.sgn]] w fun e w' => e = .returned (.tuple #[.int .i64 (getV d s), .int .i64 (wellF d.size s)]) ∧ Below w.heap.size w w' := by
  unfold getV
  by_cases h : wellF d.size s = 0
  · rw [if_pos h, h]; exact get_ok d s w hd h
  · rw [if_neg h]; exact get_bad d s w hd h
end Go.Proofs.YtnhegnneohpkaaaGreat
