/- Plain: another one's frame comes, and is told to have come. -/
import Derived.Test.YtpfbobcilphncaaGreatDoorMgRdR
import Derived.Test.YtpfbobcilphncaaGreatDoorCsM
import Derived.Test.YtpfbobcilphncaaGreatDoorMgRdD
import Derived.Test.YtpfbobcilphncaaGreatDoorMgRes
import Derived.Test.YtpfbobcilphncaaGreatDoorOwS
import Derived.Test.YtpfbobcilphncaaGreatDoorMgFrA
namespace Go.Proofs.YtpfbobcilphncaaGreatDoor
open Go.ChangeShapes Go.WideShapes Go.ChangeAt Go.RowKit
open FP (Fr bitsF bodyF tenF)

/-- The receiver behind i bits. -/
def rcvS (c : Cl) (f : Fr) (i : Nat) : Cl :=
  if i = 0 then c else if i ≤ (bodyF f).length + 8 then mid c false f i else if i = (bodyF f).length + 9 then mid (c.count 2) false f i else (mid (c.count 2) false f ((bodyF f).length + 9)).to 6
theorem rcv_step {c : Cl} {f : Fr} (hr : FP.rightB f = true) (h1 : c.st = 1) (hh : c.has = false) {i : Nat} (hi : i < (bitsF f).length) {b : UInt8} (hb : (bitsF f)[i]? = some b) :
    (rcvS c f i).drv = (if i = (bodyF f).length + 1 then 48 else 49) ∧ (rcvS c f i).samp (busB f i b) = ⟨rcvS c f (i + 1), if i = (bodyF f).length + 8 then 2 else 0, if i = (bodyF f).length + 8 then f else zFr, 0⟩ := by
  have hl := FP.body_len f
  have hge := FP.body_ge hr
  by_cases h0 : i = 0
  · subst h0
    have hb0 : b = 48 := by rw [bits_zero] at hb; exact (Option.some.inj hb).symm
    subst hb0
    have e0 : rcvS c f 0 = c := if_pos rfl
    have e1 : rcvS c f 1 = mid c false f 1 := by unfold rcvS; rw [if_neg (by decide), if_pos (by omega)]
    have eb : busB f 0 48 = 48 := by unfold busB; split <;> rfl
    rw [e0, eb, if_neg (by omega), if_neg (by omega), if_neg (by omega)]
    refine ⟨by unfold Cl.drv; rw [if_pos h1, if_neg (by rw [hh]; decide)], ?_⟩
    show _ = (⟨rcvS c f 1, 0, zFr, 0⟩ : Mc)
    unfold Cl.samp
    rw [if_neg (by omega), if_pos h1, if_pos rfl, if_neg (by rw [hh]; decide), e1, mid_begin0 c f]
    rfl
  · by_cases h9 : i = (bodyF f).length + 9
    · have hb1 : b = 49 := by rw [bits_tail f (by omega) hi] at hb; exact (Option.some.inj hb).symm
      have eb : busB f i b = 49 := by unfold busB; rw [if_neg (by omega)]; exact hb1
      have e0 : rcvS c f i = mid (c.count 2) false f i := by unfold rcvS; rw [if_neg h0, if_neg (by omega), if_pos h9]
      have e1 : rcvS c f (i + 1) = (mid (c.count 2) false f i).to 6 := by unfold rcvS; rw [if_neg (by omega), if_neg (by omega), if_neg (by omega), h9]
      rw [e0, eb, e1, if_neg (by omega), if_neg (by omega), if_neg (by omega)]
      refine ⟨by rw [mid_drvR, if_neg (by omega)], ?_⟩
      rw [mid_endR h9 (by decide)]; rfl
    · have e0 : rcvS c f i = mid c false f i := by unfold rcvS; rw [if_neg h0, if_pos (by omega)]
      rw [e0]
      refine ⟨mid_drvR, ?_⟩
      by_cases h8 : i = (bodyF f).length + 8
      · have hb1 : b = 49 := by rw [bits_tail f (by omega) hi] at hb; exact (Option.some.inj hb).symm
        have eb : busB f i b = 49 := by unfold busB; rw [if_neg (by omega)]; exact hb1
        have e1 : rcvS c f (i + 1) = mid (c.count 2) false f (i + 1) := by unfold rcvS; rw [if_neg (by omega), if_neg (by omega), if_pos (by omega)]
        rw [eb, e1, if_pos h8, if_pos h8]
        exact mid_came hr h8 (by decide)
      · have e1 : rcvS c f (i + 1) = mid c false f (i + 1) := by unfold rcvS; rw [if_neg (by omega), if_pos (by omega)]
        rw [e1, if_neg h8, if_neg h8]
        by_cases hlt : i < (bodyF f).length
        · have eb : busB f i b = b := by unfold busB; rw [if_neg (by omega)]
          rw [eb]
          exact mid_step hr hlt (by rw [← FP.body_get f i hlt]; exact hb)
        · have hb1 : b = 49 := by rw [bits_tail f (by omega) hi] at hb; exact (Option.some.inj hb).symm
          refine mid_next (by omega) (by omega) (fun _ => h8) ?_
          by_cases h1 : i = (bodyF f).length + 1
          · rw [if_pos h1]; intro _; unfold busB; rw [if_pos h1]
          · rw [if_neg h1]; unfold busB; rw [if_neg h1, hb1]; decide
theorem rcv_ok {c : Cl} {f : Fr} (hg : c.Ok) (hr : FP.rightB f = true) (h1 : c.st = 1) (hh : c.has = false) : ∀ i, i ≤ (bitsF f).length → (rcvS c f i).Ok
  | 0, _ => by rw [show rcvS c f 0 = c from if_pos rfl]; exact hg
  | i + 1, hi => by
    obtain ⟨b, hb, hbit⟩ := bits_some f (i := i) (by omega)
    have h := rcv_step hr h1 hh (i := i) (by omega) hb
    have := (rcv_ok hg hr h1 hh i (by omega)).samp (busB f i b) (busB_bit hbit)
    rw [h.2] at this
    exact this
theorem rcv_end (f : Fr) : rcvS idleC f (bitsF f).length = (mid (idleC.count 2) false f ((bodyF f).length + 9)).to 6 := by
  have hl := FP.body_len f
  unfold rcvS; rw [if_neg (by omega), if_neg (by omega), if_neg (by omega)]
theorem rcv_idle (f : Fr) (i : Nat) : ((mid (idleC.count 2) false f i).to 6).run [49, 49, 49] = idleC := by rfl

/-- The bits on the bus, where one is told that they came. -/
def toldF (f : Fr) : List UInt8 := (bitsF f).take ((bitsF f).length - 9) ++ 48 :: (bitsF f).drop ((bitsF f).length - 8)
theorem told_len (f : Fr) : (toldF f).length = (bitsF f).length := by
  have := FP.body_len f
  unfold toldF
  rw [List.length_append, List.length_take, List.length_cons, List.length_drop]
  omega
theorem told_at (f : Fr) {i : Nat} {b : UInt8} (hb : (bitsF f)[i]? = some b) : (toldF f)[i]? = some (busB f i b) := by
  have hl := FP.body_len f
  have hi : i < (bitsF f).length := (List.getElem?_eq_some_iff.1 hb).1
  have ht : ((bitsF f).take ((bitsF f).length - 9)).length = (bodyF f).length + 1 := by rw [List.length_take]; omega
  unfold toldF busB
  by_cases h1 : i < (bodyF f).length + 1
  · rw [List.getElem?_append_left (by omega), if_neg (by omega), List.getElem?_take_of_lt (by omega)]; exact hb
  · rw [List.getElem?_append_right (by omega), ht]
    by_cases h2 : i = (bodyF f).length + 1
    · rw [if_pos h2, h2, Nat.sub_self]; rfl
    · rw [if_neg h2, show i - ((bodyF f).length + 1) = (i - ((bodyF f).length + 2)) + 1 by omega, List.getElem?_cons_succ, List.getElem?_drop, show (bitsF f).length - 8 + (i - ((bodyF f).length + 2)) = i by omega]
      exact hb
end Go.Proofs.YtpfbobcilphncaaGreatDoor

/- prio.contest: the bits that the bus has, round by round. -/
namespace Go.Proofs.YtpfbobcilphncaaGreatDoor
open Go.ChangeShapes Go.WideShapes Go.ChangeAt Go.RowKit
open FP (bit bitsOf Fr bitB)
attribute [local go_sem] Oper.semAt_some

def byteAt (S : ByteArray) (k : Nat) : Int := if h : k < S.size then (S[k].toNat : Int) else 0
def busN (S : Nat → ByteArray) (x : Nat → Int) (k : Nat) : Nat → Int
  | 0 => 49
  | i + 1 => if x i < 0 ∧ k < (S i).size then min (busN S x k i) (byteAt (S i) k) else busN S x k i
def lostN (S : Nat → ByteArray) (n : Nat) : Nat → Nat → Int
  | 0, _ => -1
  | k + 1, j => if lostN S n k j < 0 ∧ k < (S j).size ∧ busN S (lostN S n k) k n < byteAt (S j) k then (k : Int) else lostN S n k j

theorem run_min8 {P : Program} (x y : Int) : ∃ m, m = min x y ∧ ∀ (ts : Array TypeId) (t : TypeId) (W : World), (Builtin.min_ ts t #[.int .u8 x, .int .u8 y]).run P W = .ok (.int .u8 m) W :=
  ⟨_, rfl, fun ts t W => by
    rw [run_min_int2]
    congr 2
    split <;> omega⟩

theorem byteAt_lt {S : ByteArray} {k : Nat} (h : k < S.size) : byteAt S k = (S[k].toNat : Int) := dif_pos h

def InB (S : Nat → ByteArray) (x : Nat → Int) (k n : Nat) (i b : Value) : Prop := ∃ p : Nat, p ≤ n ∧ i = .int .i64 p ∧ b = .int .u8 (busN S x k p)

end Go.Proofs.YtpfbobcilphncaaGreatDoor

/- prio.Contest. -/
namespace Go.Proofs.YtpfbobcilphncaaGreatDoor
open Go.ChangeShapes Go.WideShapes Go.ChangeAt Go.RowKit
open FP (bit bitsOf Fr bitB)
attribute [local go_sem] Oper.semAt_some

def fstr (f : Fr) : ByteArray := ⟨(fieldF f).toArray⟩
def strRows (l : List Fr) : List (List Value) := l.map fun f => [.string (fstr f)]
def oneRows (n : Nat) : List (List Value) := List.replicate n [.int .i64 (-1)]

section
variable {B : Nat} {w : World} {v1 v2 : Value} {A1 A2 A' : Option Addr} {c1 c2 c' n : Nat} {r1 r2 r' : List (List Value)} {W W' : World}
end

theorem strRows_snoc {l : List Fr} {k : Nat} (h : k < l.length) : strRows (l.take (k + 1)) = strRows (l.take k) ++ [[.string (fstr l[k])]] := by
  unfold strRows
  rw [List.take_succ_eq_append_getElem h, List.map_append]
  rfl
theorem oneRows_snoc (k : Nat) : oneRows (k + 1) = oneRows k ++ [[.int .i64 (-1)]] := by simp [oneRows, List.replicate_succ']

def readyC (B x : Nat) (v1 v2 : Value) (fo : Obj) : Nat → World → Prop
  | 0, W => W.cell? ⟨B, 0, none⟩ = some v1
  | 1, W => W.heap[x]? = some fo
  | _, W => W.cell? ⟨B + 1, 0, none⟩ = some v2

theorem keepsC9 {md : Region.Mode} {ops : Array Oper} {w w' : World} {R : Nat → World → Prop} (h0 : mayAhead md ops 0 9 = false) (h1 : mayAhead md ops 1 9 = false) (h5 : mayAhead md ops 5 9 = false) :
    keeps md ops [0, 1, 5] R 9 w w' := ⟨fun h => absurd h (by decide), fun _ i hi hm => by
  simp only [List.mem_cons, List.not_mem_nil, or_false] at hi
  rcases hi with rfl | rfl | rfl
  · rw [h0] at hm; cases hm
  · rw [h1] at hm; cases hm
  · rw [h5] at hm; cases hm⟩

theorem own_putC {W : World} {base e sz : Nat} {A : Option Addr} {c : Nat} {r : List (List Value)} (h : Own W base e sz A c r) {l : Nat} {o o' : Obj} (ho : W.heap[l]? = some o) (hc : o.isCells = false) : Own (W.putObj l o') base e sz A c r := by
  refine World.ownsRow.kept h (grownBy_putObj' W l o') ?_
  rcases h.2 with ⟨hv, _⟩ | ⟨g, cap, cur, hv, _, hgh, _⟩
  · rw [hv]; exact .inl rfl
  · rw [hv]
    refine .inr ?_
    simp only [Value.ownBlock, ne_eq, Option.some.injEq]
    rintro rfl
    rw [ho] at hgh
    injection hgh with hgh
    subst hgh
    cases hc
theorem heap_putC {W : World} {x l : Nat} {o o' : Obj} {cs : Array Value} {t : TypeId} {fz : Nat × Nat} (h : W.heap[x]? = some (.cells cs t fz)) (ho : W.heap[l]? = some o) (hc : o.isCells = false) : (W.putObj l o').heap[x]? = some (.cells cs t fz) := by
  have : x ≠ l := by
    rintro rfl
    rw [ho] at h
    injection h with h
    subst h
    cases hc
  rw [World.putObj_heap_other this]
  exact h
theorem heap_set {W : World} {x g i : Nat} {v : Value} (h : x ≠ g) : (W.setCell ⟨g, i, none⟩ v).heap[x]? = W.heap[x]? := heap_setCell_other W ⟨g, i, none⟩ x v h

section
variable {B : Nat} {w : World} {v1 v2 : Value} {A1 A2 : Option Addr} {c1 c2 : Nat} {r1 r2 r' : List (List Value)} {W : World}
end

/-! ### the row of fields, and of where they lose -/
def SF (l : List Fr) (j : Nat) : ByteArray := if h : j < l.length then fstr l[j] else ⟨#[]⟩
theorem SF_lt {l : List Fr} {j : Nat} (h : j < l.length) : SF l j = fstr l[j] := dif_pos h
def intRows (n : Nat) (x : Nat → Int) : List (List Value) := (List.range n).map fun j => [.int .i64 (x j)]
theorem intRows_len (n : Nat) (x : Nat → Int) : (intRows n x).length = n := by simp [intRows]
theorem intRows_one (n : Nat) : oneRows n = intRows n (fun _ => -1) := by
  apply List.ext_getElem
  · simp [oneRows, intRows]
  · intro i h1 h2; simp [oneRows, intRows]
theorem flat_ones {α : Type} (l : List α) (f : α → Value) : (l.map fun x => [f x]).flatten = l.map f := by
  induction l with
  | nil => rfl
  | cons x l ih => simp [ih]
theorem intRows_flat (n : Nat) (x : Nat → Int) : (intRows n x).flatten = (List.range n).map fun j => .int .i64 (x j) := flat_ones _ _
theorem intRows_set (n : Nat) (x y : Nat → Int) (i : Nat) (v : Int) (hi : y i = v) (ho : ∀ j, j ≠ i → y j = x j) : (intRows n y).flatten = (intRows n x).flatten.set i (.int .i64 v) := by
  rw [intRows_flat, intRows_flat]
  apply List.ext_getElem
  · simp
  · intro j h1 h2
    simp only [List.getElem_map, List.getElem_range, List.getElem_set]
    split
    · rename_i h; subst h; rw [hi]
    · rename_i h; rw [ho j (fun e => h e.symm)]
theorem intRows_congr {n : Nat} {x y : Nat → Int} (h : ∀ j, j < n → x j = y j) : intRows n x = intRows n y := by
  unfold intRows
  apply List.map_congr_left
  intro j hj
  rw [h j (List.mem_range.1 hj)]
theorem own_cells {W : World} {base e : Nat} {g c : Nat} {r : List (List Value)} (h : Own W base e 1 (some ⟨g, 0, none⟩) c r) {j : Nat} {v : Value} (hv : r.flatten[j]? = some v) : W.cell? ⟨g, j, none⟩ = some v := by
  have := World.ownsRow.cells h (g := g) rfl j v hv
  rw [Go.WideShapes.add_plain, Nat.zero_add] at this
  exact this
theorem strRows_flat (l : List Fr) (j : Nat) (h : j < l.length) : (strRows l).flatten[j]? = some (.string (SF l j)) := by
  unfold strRows
  rw [flat_ones, List.getElem?_map, List.getElem?_eq_getElem h, SF_lt h]
  rfl
theorem intRows_at {n : Nat} {x : Nat → Int} {j : Nat} (h : j < n) : (intRows n x).flatten[j]? = some (.int .i64 (x j)) := by
  rw [intRows_flat, List.getElem?_map, List.getElem?_range h]
  rfl

section
variable {w W : World} {l : List Fr} {g1 c1 g2 c2 x3 : Nat} {x y : Nat → Int}
end

set_option maxRecDepth 100000 in
theorem frame_loads (W : World) (x : Nat) (f : Fr) (h : W.heap[x]? = some (.cells #[.int .u32 f.id, .bool f.ext, .bool f.rem, .int .i64 f.dlc, .string f.data] 24 (0, 0))) (ev : Operand → Value) (hev : ev (.tmp 9) = .pointer (some ⟨x, 0, none⟩)) (p : String) (d : Option Nat) (ty : Nat) (af : Array Edge) :
    (execOp ev { dst := d, op := .load 24 (.tmp 9), type := ty, pos := p, after := af, guard := none }).run Tryz.prog W = .ok (.value (.agg #[.int .u32 f.id, .bool f.ext, .bool f.rem, .int .i64 f.dlc, .string f.data])) W := by
  have c0 : W.cell? ⟨x, 0, none⟩ = some (.int .u32 f.id) := by simp [World.cell?, h]
  have c1 : W.cell? ⟨x, 1, none⟩ = some (.bool f.ext) := by simp [World.cell?, h]
  have c2 : W.cell? ⟨x, 2, none⟩ = some (.bool f.rem) := by simp [World.cell?, h]
  have c3 : W.cell? ⟨x, 3, none⟩ = some (.int .i64 f.dlc) := by simp [World.cell?, h]
  have c4 : W.cell? ⟨x, 4, none⟩ = some (.string f.data) := by simp [World.cell?, h]
  clear h
  obtain ⟨id, ext, rem, dlc, data⟩ := f
  dsimp only at *
  simp only [execOp, hev]
  go_simp

theorem lostN_succ (S : Nat → ByteArray) (n k j : Nat) : lostN S n (k + 1) j = if lostN S n k j < 0 ∧ k < (S j).size ∧ busN S (lostN S n k) k n < byteAt (S j) k then (k : Int) else lostN S n k j := rfl
/-- Round k's row, when its first p have been gone through. -/
def mixN (l : List Fr) (k p j : Nat) : Int := if j < p then lostN (SF l) l.length (k + 1) j else lostN (SF l) l.length k j
theorem mixN_zero (l : List Fr) (k j : Nat) : mixN l k 0 j = lostN (SF l) l.length k j := by simp [mixN]
theorem mixN_at (l : List Fr) (k p : Nat) : mixN l k p p = lostN (SF l) l.length k p := by simp [mixN]
theorem mixN_new (l : List Fr) (k p : Nat) : mixN l k (p + 1) p = lostN (SF l) l.length (k + 1) p := by simp [mixN]
theorem mixN_old (l : List Fr) (k p j : Nat) (h : j ≠ p) : mixN l k (p + 1) j = mixN l k p j := by
  unfold mixN
  by_cases h1 : j < p
  · rw [if_pos h1, if_pos (by omega)]
  · rw [if_neg h1, if_neg (by omega)]
theorem mixN_same (l : List Fr) (k p j : Nat) (h : lostN (SF l) l.length (k + 1) p = lostN (SF l) l.length k p) : mixN l k (p + 1) j = mixN l k p j := by
  by_cases hj : j = p
  · subst hj; rw [mixN_new, mixN_at, h]
  · exact mixN_old l k p j hj
theorem mixN_full (l : List Fr) (k j : Nat) (h : j < l.length) : mixN l k l.length j = lostN (SF l) l.length (k + 1) j := by simp [mixN, h]

/-- Those among the first k that have not lost. -/
def leftIdx (x : Nat → Int) (k : Nat) : List Nat := (List.range k).filter fun j => decide (x j < 0)
def leftRows (x : Nat → Int) (k : Nat) : List (List Value) := (leftIdx x k).map fun (j : Nat) => [.int .i64 (j : Int)]
theorem leftIdx_le (x : Nat → Int) (k : Nat) : (leftIdx x k).length ≤ k := by
  have := List.length_filter_le (fun j => decide (x j < 0)) (List.range k)
  rw [List.length_range] at this
  exact this
theorem leftIdx_in {x : Nat → Int} {k : Nat} (h : x k < 0) : leftIdx x (k + 1) = leftIdx x k ++ [k] := by
  unfold leftIdx
  rw [List.range_succ, List.filter_append]
  simp [h]
theorem leftIdx_out {x : Nat → Int} {k : Nat} (h : ¬ x k < 0) : leftIdx x (k + 1) = leftIdx x k := by
  unfold leftIdx
  rw [List.range_succ, List.filter_append]
  simp [h]
theorem leftRows_one (x : Nat → Int) (k : Nat) : ∀ r ∈ leftRows x k, r.length = 1 := by intro r hr; obtain ⟨j, _, rfl⟩ := List.mem_map.1 hr; rfl

/-- Where each of l loses; below 0: nowhere. -/
def lostF (l : List Fr) : Nat → Int := lostN (SF l) l.length 32
def ContestV (l : List Fr) (w : World) (e : Ending) (w' : World) : Prop :=
  ∃ AL cL AT cT, e = .returned (.tuple #[.slice AL (leftIdx (lostF l) l.length).length cL, .slice AT l.length cT, .int .i64 0]) ∧
    Rd w' w'.heap.size AL 1 (leftRows (lostF l) l.length) ∧ Rd w' w'.heap.size AT 1 (intRows l.length (lostF l)) ∧ Below w.heap.size w w'

end Go.Proofs.YtpfbobcilphncaaGreatDoor
