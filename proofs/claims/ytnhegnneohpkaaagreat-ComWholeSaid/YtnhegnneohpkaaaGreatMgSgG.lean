/- The walk of signal.Get. -/
import Derived.Test.YtnhegnneohpkaaaGreatSgE
import Derived.Test.YtnhegnneohpkaaaGreatMgPdH
import Derived.Laws.BitsAllLaws
import Derived.Test.YtnhegnneohpkaaaGreatPdG
import Derived.Test.YtnhegnneohpkaaaGreatMgSgA
import Derived.Test.YtnhegnneohpkaaaGreatOwS
import Derived.Test.YtnhegnneohpkaaaGreatMem
import Derived.Maps.OwnOps
import Derived.Maps.OwnSet
namespace Go.Proofs.YtnhegnneohpkaaaGreat
open Go.ChangeShapes Go.WideShapes Go.ChangeAt Go.RowKit
open SG

/-- What Get answers. -/
def getV (d : ByteArray) (s : Sg) : Int := if wellF d.size s = 0 then getF d.data.toList s else 0
theorem get_or {n k : Nat} (hn : n < 2 ^ k) (hk : k < 64) (b : Bool) : bits .or .u64 (n : Int) (IntKind.u64.wrap ((if b then 1 else 0 : Int) * 2 ^ k)) = ((n ||| (if b then 2 ^ k else 0) : Nat) : Int) := by
  have hwr : ∀ z : Int, IntKind.u64.wrap z = z % 18446744073709551616 := fun z => by simp [IntKind.wrap, IntKind.bits, IntKind.signed]
  rw [hwr]
  have hp : 2 ^ k ≤ 2 ^ 63 := Nat.pow_le_pow_right (by omega) (by omega)
  have e : (((if b then 1 else 0 : Int) * 2 ^ k) % 18446744073709551616) = ((if b then 2 ^ k else 0 : Nat) : Int) := by
    cases b with
    | false => simp
    | true =>
      simp only [if_true, Int.one_mul]
      rw [show ((2 : Int) ^ k) = ((2 ^ k : Nat) : Int) by simp]
      omega
  rw [e]
  refine u64_or_nat n _ (by omega) ?_
  split <;> omega
theorem get_sgn {n m s : Nat} (hm : m + 1 + s = 64) (hn : n < 2 ^ (m + 1)) : wrap64 (IntKind.u64.wrap ((n : Int) * 2 ^ s)) / 2 ^ s = sgnI n (m + 1) true := by
  have hwr : ∀ z : Int, IntKind.u64.wrap z = z % 18446744073709551616 := fun z => by simp [IntKind.wrap, IntKind.bits, IntKind.signed]
  have hpn : 0 < 2 ^ s := Nat.two_pow_pos s
  have e64 : 2 ^ (m + 1) * 2 ^ s = 18446744073709551616 := by rw [← Nat.pow_add, hm]
  have e63 : 2 ^ m * 2 ^ s = 9223372036854775808 := by rw [← Nat.pow_add, show m + s = 63 by omega]
  have c : (n : Int) * 2 ^ s = ((n * 2 ^ s : Nat) : Int) := by simp
  have hlt : n * 2 ^ s < 18446744073709551616 := by rw [← e64]; exact Nat.mul_lt_mul_of_pos_right hn hpn
  have cs : ((2 : Int) ^ s) = ((2 ^ s : Nat) : Int) := by simp
  rw [c, hwr, Int.emod_eq_of_lt (by omega) (by omega)]
  unfold sgnI
  simp only [Nat.add_sub_cancel]
  by_cases h : 2 ^ m ≤ n
  · have h63 : 9223372036854775808 ≤ n * 2 ^ s := by rw [← e63]; exact Nat.mul_le_mul_right _ h
    rw [if_pos ⟨trivial, h⟩]
    have : wrap64 ((n * 2 ^ s : Nat) : Int) = ((n : Int) - 2 ^ (m + 1)) * 2 ^ s := by
      rw [Int.sub_mul, c]
      have : ((2 : Int) ^ (m + 1) * 2 ^ s) = 18446744073709551616 := by rw [← Int.pow_add, hm]; rfl
      rw [this]
      unfold wrap64
      omega
    rw [this, cs, Int.mul_ediv_cancel _ (by omega)]
  · have h63 : n * 2 ^ s < 9223372036854775808 := by rw [← e63]; exact Nat.mul_lt_mul_of_pos_right (by omega) hpn
    rw [if_neg (fun h2 => h h2.2)]
    have : wrap64 ((n * 2 ^ s : Nat) : Int) = (n : Int) * 2 ^ s := by
      rw [c]
      unfold wrap64
      omega
    rw [this, cs, Int.mul_ediv_cancel _ (by omega)]
theorem get_uns {n m : Nat} (hm : m ≤ 63) (hn : n < 2 ^ m) : wrap64 (n : Int) = sgnI n m false := by
  unfold sgnI
  rw [if_neg (by simp)]
  have : 2 ^ m ≤ 2 ^ 63 := Nat.pow_le_pow_right (by omega) hm
  unfold wrap64
  omega
theorem byte_bit (x : Fin 256) (j : Fin 8) : bits .and .u8 ((x.val : Int) / 2 ^ j.val) 1 = if x.val.testBit j.val then 1 else 0 := by
  revert x j
  decide +kernel

set_option maxRecDepth 100000 in
set_option maxHeartbeats 4000000 in
theorem get_bad (d : ByteArray) (s : Sg) (w : World) (hd : d.size ≤ 1000000) (hw : wellF d.size s ≠ 0) :
    Calls Tryz.prog 76 #[.string d, .agg #[.int .i64 s.start, .int .i64 s.width, .bool s.big, .bool s.sgn]] w fun e w' => e = .returned (.tuple #[.int .i64 0, .int .i64 (wellF d.size s)]) ∧ Below w.heap.size w w' := by
  have WL := hide (fun W => sigWell_any d s W hd)
  generalize wellF d.size s = x at *
  have hx : (x == 0) = false := by rw [beq_eq_false_iff_ne]; exact hw
  have hx2 : (x != 0) = true := by simp [bne, hx]
  clear hw
  obtain ⟨st, wd, bg, sg⟩ := s
  dsimp only at *
  have q0 : Below w.heap.size w (w.alloc (.cells #[.int .i64 st, .int .i64 wd, .bool bg, .bool sg] 23)) := (Below.refl _ _).alloc (Nat.le_refl _) _
  go_enter Tryz.func76, Tryz.ntmps76
  go_wp2_with fail
  (with_reducible refine (WL.out _).mono ?_)
  rintro e1 w1 ⟨rfl, q1⟩
  have q := below_next q0 q0.size q1
  clear q0 q1 WL
  go_wp2_with fail
  refine bodyPost_ret (v := .tuple #[.int .i64 0, .int .i64 x]) (by simp [results, Tryz.results76, go_sem]) rfl ⟨rfl, q⟩

set_option maxRecDepth 100000 in
set_option maxHeartbeats 4000000 in
theorem get_ok (d : ByteArray) (s : Sg) (w : World) (hd : d.size ≤ 1000000) (hw : wellF d.size s = 0) :
    Calls Tryz.prog 76 #[.string d, .agg #[.int .i64 s.start, .int .i64 s.width, .bool s.big, .bool s.sgn]] w fun e w' => e = .returned (.tuple #[.int .i64 (getF d.data.toList s), .int .i64 0]) ∧ Below w.heap.size w w' := by
  obtain ⟨hne, hd8, hrs⟩ := well_zero hw
  have WL := hide (fun W => sigWell_any d s W hd)
  rw [hw] at WL
  have PS := hide (fun W => places_some s W hne)
  have HP := hide (fun p (hp : p ∈ plL s) => show p < 8 * d.size from by have := (rightS_iff.1 hrs).2.2.2 p hp; omega)
  obtain ⟨hll, hw1, hw2⟩ := plL_length hne
  have hm := (may_iff.1 (plL_may hne).1).2.2.2.2
  have PF := hide (show getF d.data.toList s = sgnI (getN d.data.toList (plL s) (plL s).length) (plL s).length s.sgn from rfl)
  rw [PF.out]
  clear PF hne hrs hw
  generalize plL s = l at *
  have hl64 : l.length ≤ 64 := by omega
  have HLL := hide hll
  clear hll
  have hds : d.data.toList.length = d.size := by simp
  obtain ⟨st, wd, bg, sg⟩ := s
  dsimp only at *
  replace HLL : Hid (l.length = wd.toNat) := HLL
  have q0 : Below w.heap.size w (w.alloc (.cells #[.int .i64 st, .int .i64 wd, .bool bg, .bool sg] 23)) := (Below.refl _ _).alloc (Nat.le_refl _) _
  have B0 := hide (World.alloc_heap_new w (.cells #[.int .i64 st, .int .i64 wd, .bool bg, .bool sg] 23))
  go_enter Tryz.func76, Tryz.ntmps76
  go_wp2_with fail
  (with_reducible refine (WL.out _).mono ?_)
  rintro e1 w1 ⟨rfl, q1⟩
  have Q1 := hide (below_next q0 q0.size q1)
  have B1 := hide (heap_below B0.out q1)
  clear q0 q1 B0 WL
  obtain ⟨c0, c1, c2, c3⟩ := sg_cells (s := ⟨st, wd, bg, sg⟩) B1.out
  dsimp only at c0 c1 c2 c3
  go_wp2_with fail
  (with_reducible refine (PS.out _).mono ?_)
  rintro e2 w2 ⟨g, c, rfl, hr, q2⟩
  have Q2 := hide (below_next Q1.out Q1.out.size q2)
  have B2 := hide (heap_below B1.out q2)
  have R2 := hide hr
  clear hr Q1 q2 B1 PS c0 c1 c2 c3
  go_wp2_with fail
  go_loopw [7, 20] (fun vn vi W => ∃ k : Nat, k ≤ l.length ∧ vi = .int .i64 k ∧ vn = .int .u64 (getN d.data.toList l k : Nat) ∧ w2 = W) (fun _ vi _ => l.length - (intOf vi).toNat)
  case atStart => exact ⟨0, Nat.zero_le _, rfl, rfl, rfl⟩
  case round =>
    obtain ⟨k, hk, rfl, rfl, rfl⟩ := hrel
    by_cases hlt : k < l.length
    · have hp := HP.out l[k] (List.getElem_mem hlt)
      have NX := hide (getN_or d.data.toList l k)
      have hgd : l.getD k 0 = l[k] := by rw [List.getD_eq_getElem?_getD, List.getElem?_eq_getElem hlt]; rfl
      rw [hgd] at NX
      have hn := getN_lt d.data.toList l k
      have GO := hide (fun b => get_or hn (by omega : k < 64) b)
      generalize getN d.data.toList l k = n at *
      obtain ⟨bk, ok, hAe, hbk, ck⟩ := NR.at_ R2.out hlt
      simp only [Option.some.injEq, Addr.mk.injEq, and_true] at hAe
      obtain ⟨rfl, rfl⟩ := hAe
      simp only [Nat.zero_add] at ck
      generalize l[k] = p at *
      obtain ⟨a, ha⟩ : ∃ a, a = p / 8 := ⟨_, rfl⟩
      obtain ⟨j, hj⟩ : ∃ j, j = p % 8 := ⟨_, rfl⟩
      have had : a < d.size := by omega
      have hj8 : j < 8 := by omega
      have hx : d[a].toNat < 256 := UInt8.toNat_lt _
      have BG := byte_bit ⟨d[a].toNat, hx⟩ ⟨j, hj8⟩
      dsimp only at BG
      have EB : bitL d.data.toList p = d[a].toNat.testBit j := by
        unfold bitL
        rw [← ha, ← hj]
        congr 2
        have hz : a < d.data.toList.length := by simpa using had
        rw [List.getD_eq_getElem?_getD, List.getElem?_eq_getElem hz]
        rfl
      rw [← EB] at BG
      clear EB
      generalize bitL d.data.toList p = b at *
      have hai : (p : Int) / 8 = (a : Int) := by omega
      have hji : (p : Int) % 8 = (j : Int) := by omega
      have hat : (p : Int).tdiv 8 = (a : Int) := by rw [Int.tdiv_eq_ediv_of_nonneg (by omega)]; exact hai
      have hjt : (p : Int).tmod 8 = (j : Int) := by rw [Int.tmod_eq_emod_of_nonneg (by omega)]; exact hji
      have hwa : IntKind.i64.wrap (a : Int) = (a : Int) := IntWalk.i64_in _ (by omega)
      have hda : d.data[a]? = some d[a] := Array.getElem?_eq_getElem had
      have hadi : (a : Int) < (d.size : Int) := by omega
      have hki : (k : Int) < (l.length : Int) := by omega
      have hj8i : (j : Int) ≤ 8 := by omega
      have hk64 : (k : Int) ≤ 64 := by omega
      clear hgd ha hj hn HP
      go_wp2_with fail
      go_roundw
      case rel => exact ⟨k + 1, by omega, by go_num, by rw [← NX.out, ← GO.out], trivial⟩
      case measure => simp [intOf]; omega
    · obtain rfl : k = l.length := by omega
      have B3 := hide B2.out
      obtain ⟨c0, c1, c2, c3⟩ := sg_cells (s := ⟨st, wd, bg, sg⟩) B3.out
      dsimp only at c0 c1 c2 c3
      have hn := getN_lt d.data.toList l l.length
      have HN := hide hn
      clear hn HP
      obtain ⟨n, hne⟩ : ∃ n, n = getN d.data.toList l l.length := ⟨_, rfl⟩
      rw [← hne] at HN ⊢
      have HNE := hide hne
      clear hne
      cases sg with
      | true =>
        have E := hide (show wrap64 (IntKind.u64.wrap ((n : Int) * 2 ^ (64 - wd).toNat)) / 2 ^ (64 - wd).toNat = sgnI n l.length true from by
          have h := HN.out
          have h2 := HLL.out
          obtain ⟨m, hm⟩ : ∃ m, l.length = m + 1 := ⟨l.length - 1, by omega⟩
          rw [hm] at h ⊢
          exact get_sgn (by omega) h)
        go_wp2_with fail
        refine bodyPost_ret (v := .tuple #[.int .i64 (wrap64 (IntKind.u64.wrap ((n : Int) * 2 ^ (64 - wd).toNat)) / 2 ^ (64 - wd).toNat), .int .i64 0]) (by simp [results, Tryz.results76, go_sem]) rfl ?_
        exact ⟨by rw [E.out, HNE.out], Q2.out⟩
      | false =>
        have E := hide (show wrap64 (n : Int) = sgnI n l.length false from get_uns (by have h2 := HLL.out; have : wd ≠ 64 := (fun e => hm ⟨e, rfl⟩); omega) HN.out)
        go_wp2_with fail
        refine bodyPost_ret (v := .tuple #[.int .i64 (wrap64 (n : Int)), .int .i64 0]) (by simp [results, Tryz.results76, go_sem]) rfl ?_
        exact ⟨by rw [E.out, HNE.out], Q2.out⟩
/-- Get, of any bytes and signal. -/
theorem get_any (d : ByteArray) (s : Sg) (w : World) (hd : d.size ≤ 1000000) :
    Calls Tryz.prog 76 #[.string d, .agg #[.int .i64 s.start, .int .i64 s.width, .bool s.big, .bool s.sgn]] w fun e w' => e = .returned (.tuple #[.int .i64 (getV d s), .int .i64 (wellF d.size s)]) ∧ Below w.heap.size w w' := by
  unfold getV
  by_cases h : wellF d.size s = 0
  · rw [if_pos h, h]; exact get_ok d s w hd h
  · rw [if_neg h]; exact get_bad d s w hd h
end Go.Proofs.YtnhegnneohpkaaaGreat

/- Walks of pdu.well, pdu.Clear, pdu.Unpack. -/
namespace Go.Proofs.YtnhegnneohpkaaaGreat
open Go.ChangeShapes Go.WideShapes Go.ChangeAt Go.RowKit
open SG PD

set_option maxRecDepth 100000 in
theorem pduWell_any (L : Ly) (A : Option Addr) (c : Nat) (B : Option Addr) (d : Nat) (s : ByteArray) (w : World) (hA : SgR w w.heap.size A L.sgs) (hB : InR w w.heap.size B L.nws) (hs : L.sgs.length ≤ 1000) (hn : L.nws.length ≤ 1000) (hc : L.sgs.length ≤ c) (hd : L.nws.length ≤ d) (hz : s.size ≤ 1000000) :
    Calls Tryz.prog 75 #[.agg (lyV L A c B d), .string s] w fun e w' => e = .returned (.int .i64 (wellL L s.size)) ∧ Below w.heap.size w w' := by
  have q0 : Below w.heap.size w (w.alloc (.cells (lyV L A c B d) 27)) := (Below.refl _ _).alloc (Nat.le_refl _) _
  have B0 := hide (World.alloc_heap_new w (.cells (lyV L A c B d) 27))
  have RT := hide (fun (W : World) (hb : Below w.heap.size w W) => pduRight_any L A c B d W (Rd.next hA hb hb.size) (Rd.next hB hb hb.size) hs hn hc hd)
  obtain ⟨x, hx⟩ : ∃ x, x = wellL L s.size := ⟨_, rfl⟩
  rw [← hx]
  unfold wellL at hx
  have HX := hide hx
  clear hx
  generalize rightB L = R at *
  clear hA hB
  unfold lyV at *
  obtain ⟨c0, c1, c2⟩ := three_cells B0.out
  have Q0 := hide q0
  clear q0
  generalize hw0 : w.alloc (.cells #[.int .i64 L.size, .slice A L.sgs.length c, .slice B L.nws.length d] 27) = w0 at *
  go_enter Tryz.func75, Tryz.ntmps75
  go_wp2_with fail
  (with_reducible refine (RT.out _ Q0.out).mono ?_)
  rintro e5 w1 ⟨rfl, q1⟩
  have Q1 := hide (below_next Q0.out Q0.out.size q1)
  have B1 := hide (heap_below B0.out q1)
  clear q1 c0 c1 c2 hw0 RT
  obtain ⟨c0, c1, c2⟩ := three_cells B1.out
  cases R with
  | false =>
    have E := hide (show x = 1 by rw [HX.out, if_pos rfl])
    clear HX
    go_wp2_with fail
    go_ret
    exact ⟨by rw [E.out]; rfl, Q1.out⟩
  | true =>
    by_cases h : (s.size : Int) = L.size
    · have e1 : ((s.size : Int) == L.size) = true := by rw [beq_iff_eq]; exact h
      have e2 : ((s.size : Int) != L.size) = false := by simp [bne, e1]
      have E : x = 0 := by rw [HX.out, if_neg (by simp), if_neg (by simp [h])]
      replace E := hide E
      clear h HX
      go_wp2_with fail
      go_ret
      exact ⟨by rw [E.out]; rfl, Q1.out⟩
    · have e1 : ((s.size : Int) == L.size) = false := by rw [beq_eq_false_iff_ne]; exact h
      have e2 : ((s.size : Int) != L.size) = true := by simp [bne, e1]
      have E : x = 23 := by rw [HX.out, if_neg (by simp), if_pos h]
      replace E := hide E
      clear h HX
      go_wp2_with fail
      go_ret
      exact ⟨by rw [E.out]; rfl, Q1.out⟩

/-- What Clear answers. -/
def clrV (L : Ly) (s : ByteArray) : ByteArray := if wellL L s.size = 0 then ⟨(clrF L s.data.toList).toArray⟩ else ⟨#[]⟩
theorem clrN_succ (nws : List Int) (d : List UInt8) (k : Nat) : clrN nws d (k + 1) = if 0 ≤ nws.getD k 0 then setB (clrN nws d k) (nws.getD k 0).toNat false else clrN nws d k := rfl

end Go.Proofs.YtnhegnneohpkaaaGreat

/- append of one row to a row of the call's own; what else stands behind it. Nothing of the program's text. -/
namespace Go.Proofs.YtnhegnneohpkaaaGreat
open Go.ChangeShapes Go.WideShapes Go.ChangeAt Go.RowKit

theorem heapLow {B : Nat} {W W' : World} {x : Nat} {o : Obj} (h : W.heap[x]? = some o) (hb : Below B W W') (hx : x < B) : W'.heap[x]? = some o := (hb.block x hx).trans h

/-- What an append of one row makes of the world. -/
structure Ap1 (w w' : World) (base : Nat) (e : TypeId) (sz : Nat) (A : Option Addr) (c : Nat) (rows : List (List Value)) (row : List Value) (A' : Option Addr) (c' : Nat) : Prop where
  own : Own w' base e sz A' c' (rows ++ [row])
  old : Own w base e sz A c rows
  below : Below base w w'
  base : base ≤ w.heap.size
  grown : (w.alloc (.cells row.toArray e)).grownBy w' (Value.slice A rows.length c).ownBlock

theorem Ap1.q {w w' : World} {base : Nat} {e : TypeId} {sz : Nat} {A : Option Addr} {c : Nat} {rows : List (List Value)} {row : List Value} {A' : Option Addr} {c' : Nat} (h : Ap1 w w' base e sz A c rows row A' c') {B : Nat} {W : World} (hb : Below B W w) (hB : B ≤ base) : Below B W w' := hb.trans (h.below.mono hB)
/-- Another row, of another type, stands. -/
theorem Ap1.other {w w' : World} {base : Nat} {e : TypeId} {sz : Nat} {A : Option Addr} {c : Nat} {rows : List (List Value)} {row : List Value} {A' : Option Addr} {c' : Nat} (h : Ap1 w w' base e sz A c rows row A' c')
    {base2 e2 sz2 : Nat} {A2 : Option Addr} {c2 : Nat} {r2 : List (List Value)} (h2 : Own w base2 e2 sz2 A2 c2 r2) (hte : e2 ≠ e) : Own w' base2 e2 sz2 A2 c2 r2 :=
  own_apartT (h2.alloc _) (h.old.alloc _) hte h.grown
/-- A block of another kind stands. -/
theorem Ap1.heap {w w' : World} {base : Nat} {e : TypeId} {sz : Nat} {A : Option Addr} {c : Nat} {rows : List (List Value)} {row : List Value} {A' : Option Addr} {c' : Nat} (h : Ap1 w w' base e sz A c rows row A' c')
    {x : Nat} {cs : Array Value} {t : TypeId} {fz : Nat × Nat} (hx : w.heap[x]? = some (.cells cs t fz)) (hte : t ≠ e) : w'.heap[x]? = some (.cells cs t fz) :=
  heap_grown (heap_below hx ((Below.refl _ _).alloc (Nat.le_refl _) (.cells row.toArray e))) hte (h.old.alloc _) h.grown
theorem Ap1.low {w w' : World} {base : Nat} {e : TypeId} {sz : Nat} {A : Option Addr} {c : Nat} {rows : List (List Value)} {row : List Value} {A' : Option Addr} {c' : Nat} (h : Ap1 w w' base e sz A c rows row A' c')
    {x : Nat} {o : Obj} (hx : w.heap[x]? = some o) (hb : x < base) : w'.heap[x]? = some o := heapLow hx h.below hb

section
variable {P : Program} {ops : Array Oper} {rest : List Oper} {o : Oper} {a : Act} {Q : Exit → Act → World → Prop}
theorem ap1_side (w : World) {e sz : Nat} (row : List Value) (hr : row.length = sz) :
    Rd (w.alloc (.cells row.toArray e)) (w.alloc (.cells row.toArray e)).heap.size (some ⟨w.heap.size, 0, none⟩) sz [row] := by
  have := Rd.new w [row] sz e (0, 0) (by simpa using hr)
  simpa using this

theorem wpList_append_one (w : World) (cs : Array Value) (row : List Value) (hcs : cs = row.toArray) (hgd : o.guard = none) (s x : Operand) (t : TypeId)
    (ho : o.op = .call { callee := .builtin .append, args := #[s, x], argTypes := #[t, t] })
    {e : TypeId} {sz bytes : Nat} (T : SlT P t e sz bytes) (hby : bytes ≤ 4096) (hr : row.length = sz) (h1 : ∀ u ∈ row, u.oneCell' = true) (base : Nat) (A : Option Addr) (N c : Nat) (rows : List (List Value)) (hs : a.eval s = .slice A N c) (hown : Own w base e sz A c rows)
    (d : Nat) (hx : a.eval x = .slice (some ⟨w.heap.size, 0, none⟩) 1 d)
    (hl : rows.length ≤ 1000000000) (hbase : base ≤ w.heap.size) (hN : N = rows.length)
    (h : ∀ A' c' w', Ap1 w w' base e sz A c rows row A' c' → wpList P ops Q rest (a.put o.dst (.slice A' (N + 1) c')) w') : wpList P ops Q (o :: rest) a (w.alloc (.cells cs e)) := by
  subst hcs
  have hN2 := hN
  subst hN
  have q : Below w.heap.size w (w.alloc (.cells row.toArray e)) := (Below.refl _ _).alloc (Nat.le_refl _) _
  refine wpList_append_rows _ hgd s x t ho T base A rows.length c rows hs (hown.alloc _) _ 1 d [row] hx (ap1_side w row hr) (by simpa using hr) (by simpa using h1)
    (Nat.le_trans (Nat.mul_le_mul (show rows.length + [row].length ≤ 1000000001 by simp; omega) hby) (by decide)) (by simp [maxLen]; omega) (by simp; omega) rfl rfl ?_
  intro A' c' w' o1 g1
  exact h A' c' w' ⟨o1, hown, (q.mono hbase).trans (below_own g1 (hown.alloc _) (by simp; omega)), hbase, g1⟩
end
end Go.Proofs.YtnhegnneohpkaaaGreat

/- A set of ints: map[int]bool, of which the true ones count. -/
namespace Go.Proofs.YtnhegnneohpkaaaGreat
open Go.ChangeShapes Go.WideShapes Go.ChangeAt Go.RowKit Go.Maps

def MSet (W : World) (b n : Nat) (s : Int → Bool) : Prop :=
  ∃ D : DataW Unit, W.ownsMap Tryz.prog 3 (plainElem Tryz.prog 4) b n D ∧ ∀ x : Int, D.atKey (.int .i64 x) (.lit (.bool false)) = .lit (.bool (s x))

theorem MSet.made (w : World) : MSet (w.alloc (.map #[] 0)) w.heap.size 0 (fun _ => false) := ⟨_, World.ownsMap_made w _ _ _, fun _ => rfl⟩
theorem MSet.lt {W : World} {b n : Nat} {s : Int → Bool} (h : MSet W b n s) : b < W.heap.size := by obtain ⟨D, h, _⟩ := h; exact h.lt
theorem MSet.below {W W' : World} {b n : Nat} {s : Int → Bool} (h : MSet W b n s) (hb : Below W.heap.size W W') : MSet W' b n s := by
  obtain ⟨D, h, hs⟩ := h
  exact ⟨D, h.kept (row := none) ⟨hb.os, hb.tape, hb.output, hb.size, fun k hk _ => hb.block k hk⟩ (by simp), hs⟩

theorem i64_wf {x : Int} (h0 : 0 ≤ x) (h1 : x ≤ 1000000) : (Lit.int .i64 x).wf = true := by
  simp [Lit.wf, IntKind.min, IntKind.max, IntKind.bits, IntKind.signed]
  omega

end Go.Proofs.YtnhegnneohpkaaaGreat

/- The walk of PduOne. -/
namespace Go.Proofs.YtnhegnneohpkaaaGreat
open Go.ChangeShapes Go.WideShapes Go.ChangeAt Go.RowKit
open SG PD

theorem rd_mset {W W' : World} {bm n : Nat} {f : Int → Bool} (hm : MSet W bm n f) (hg : W.grownBy W' (some bm)) {B sz : Nat} {A : Option Addr} {cs : List (List Value)} (hB : B ≤ W.heap.size) (h : Rd W B A sz cs) : Rd W' B A sz cs := fun hn => by
  obtain ⟨b, off, e, hlt, hc⟩ := h hn
  refine ⟨b, off, e, hlt, fun k row j v h1 h2 => ?_⟩
  have c := hc k row j v h1 h2
  have hne : b ≠ bm := by
    rintro rfl
    obtain ⟨D, ⟨es, clock, hb, _⟩, _⟩ := hm
    simp [World.cell?, hb] at c
  rw [World.cell?_of_block (hg.block b (by omega) (by simpa using hne))]
  exact c
theorem heap_mset {W W' : World} {bm n : Nat} {f : Int → Bool} (hm : MSet W bm n f) (hg : W.grownBy W' (some bm)) {b : Nat} {cs : Array Value} {t : TypeId} {fz : Nat × Nat} (h : W.heap[b]? = some (.cells cs t fz)) : W'.heap[b]? = some (.cells cs t fz) := by
  have hne : b ≠ bm := by
    rintro rfl
    obtain ⟨D, ⟨es, clock, hb, _⟩, _⟩ := hm
    rw [h] at hb
    cases hb
  rw [hg.block b (Array.getElem?_eq_some_iff.1 h).1 (by simpa using hne)]
  exact h
/-- Is a number one of the first j places? -/
def inP (l : List Nat) (j : Nat) (y : Int) : Bool := (l.take j).any fun p => (p : Int) == y
theorem inP_succ (l : List Nat) (j : Nat) (h : j < l.length) : (fun y => if y = (l[j] : Int) then true else inP l j y) = inP l (j + 1) := by
  funext y
  unfold inP
  rw [List.take_succ_eq_append_getElem h, List.any_append]
  by_cases e : y = (l[j] : Int)
  · rw [if_pos e]; simp [e]
  · rw [if_neg e]
    have : ((l[j] : Int) == y) = false := by rw [beq_eq_false_iff_ne]; exact fun e2 => e e2.symm
    simp [this]
theorem slInt64 : SlT Tryz.prog 33 2 1 8 := SlT.mk Tryz.underlying33 (z := .int .i64 0) (by kernel_rfl) rfl (by decide)
theorem inRow_len (l : List Int) : (inRow l).length = l.length := by simp [inRow]
theorem inRow_rows (l : List Int) : ∀ r ∈ inRow l, r.length = 1 := by
  intro r hr
  obtain ⟨p, _, rfl⟩ := List.mem_map.1 hr
  rfl
theorem made_bools (w : World) (n : Nat) : BoR (w.alloc (.cells (madeCells #[.bool false] n) 4)) (w.alloc (.cells (madeCells #[.bool false] n) 4)).heap.size (some ⟨w.heap.size, 0, none⟩) (List.replicate n false) := fun hn => by
  have hm := World.rowIs_made w (.bool false) n 4
  refine ⟨w.heap.size, 0, rfl, by simp, fun k row j v hk hj => ?_⟩
  have hkn : k < n := by
    have := (List.getElem?_eq_some_iff.1 hk).1
    simpa [boRow] using this
  have hr : row = [.bool false] := by
    have h2 : (boRow (List.replicate n false))[k]? = some [.bool false] := by simp [boRow, hkn]
    rw [hk] at h2
    exact Option.some.inj h2
  subst hr
  match j, hj with
  | 0, hj =>
    simp only [List.getElem?_cons_zero, Option.some.injEq] at hj
    subst hj
    have := hm.cell hkn
    simpa using this

end Go.Proofs.YtnhegnneohpkaaaGreat
