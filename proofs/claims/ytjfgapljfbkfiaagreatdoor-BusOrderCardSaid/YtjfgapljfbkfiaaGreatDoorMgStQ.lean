/- Plain: what stuffing makes of a row, bit by bit, and back. -/
import Derived.Test.YtjfgapljfbkfiaaGreatDoorMgIfP
import Derived.Test.YtjfgapljfbkfiaaGreatDoorOwS
import Derived.Test.YtjfgapljfbkfiaaGreatDoorMgRng
import Derived.Test.YtjfgapljfbkfiaaGreatDoorOrd
import Derived.Test.YtjfgapljfbkfiaaGreatDoorMgFrame
import Derived.Test.YtjfgapljfbkfiaaGreatDoorMgFrB
namespace Go.Proofs.YtjfgapljfbkfiaaGreatDoor.FP

/-- Bits without an error of stuffing, and what is known behind them. -/
structure Rst (x : List UInt8) (r : RS) : Prop where
  n5 : r.n ≤ 5
  bit : r.n = 0 ∨ r.last = 48 ∨ r.last = 49
  low : r.n < 5 → (stuffS r.got).out = x ∧ (stuffS r.got).last = r.last ∧ (stuffS r.got).n = r.n
  five : r.n = 5 → (stuffS r.got).out = x ++ [oth r.last] ∧ (stuffS r.got).last = oth r.last ∧ (stuffS r.got).n = 1
theorem Rst.nil : Rst [] rs0 := ⟨by decide, .inl rfl, fun _ => ⟨rfl, rfl, rfl⟩, fun h => absurd h (by decide)⟩
theorem oth_unlike {a b : UInt8} (ha : a = 48 ∨ a = 49) (hb : b = 48 ∨ b = 49) (h : b ≠ a) : oth a = b := by
  rcases ha with rfl | rfl <;> rcases hb with rfl | rfl <;> first | exact absurd rfl h | decide
theorem Rst.step {x : List UInt8} {r : RS} (h : Rst x r) {b : UInt8} (hb : b = 48 ∨ b = 49) (he : uK r.last r.n b ≠ 3) : Rst (x ++ [b]) (rsStep r b) := by
  by_cases hn : r.n = 5
  · have hne : b ≠ r.last := by
      intro e
      unfold uK at he
      rw [if_pos hn, if_pos e] at he
      exact he rfl
    have hl : r.last = 48 ∨ r.last = 49 := by
      rcases h.bit with h | h | h
      · omega
      · exact .inl h
      · exact .inr h
    have ho := oth_unlike hl hb hne
    have e : rsStep r b = ⟨b, 1, r.got⟩ := by
      unfold rsStep uN uK
      rw [if_pos hn, if_neg hne, if_pos hn, if_neg hne]
      rfl
    rw [e]
    obtain ⟨h1, h2, h3⟩ := h.five hn
    rw [ho] at h1 h2
    exact ⟨(by decide : 1 ≤ 5), .inr hb, fun _ => ⟨h1, h2, h3⟩, fun e => absurd e (by decide : ¬ (1 : Nat) = 5)⟩
  · have hlt : r.n < 5 := by have := h.n5; omega
    obtain ⟨u1, u2⟩ := uN_less (last := r.last) hlt b
    have e : rsStep r b = ⟨b, if b = r.last then r.n + 1 else 1, r.got ++ [b]⟩ := by
      unfold rsStep
      rw [u1, u2, if_pos rfl]
    obtain ⟨h1, h2, h3⟩ := h.low hlt
    have hs : ssN (stuffS r.got) b = if b = r.last then r.n + 1 else 1 := by unfold ssN; rw [h2, h3]
    rw [e]
    by_cases h5 : (if b = r.last then r.n + 1 else 1) = 5
    · obtain ⟨s1, s2, s3, _⟩ := ssStep_five (s := stuffS r.got) (c := b) (by rw [hs]; exact h5)
      refine ⟨by show (if b = r.last then r.n + 1 else 1) ≤ 5; omega, .inr hb, fun q => absurd q (by show ¬ (if b = r.last then r.n + 1 else 1) < 5; omega), fun _ => ?_⟩
      show (stuffS (r.got ++ [b])).out = x ++ [b] ++ [oth b] ∧ (stuffS (r.got ++ [b])).last = oth b ∧ (stuffS (r.got ++ [b])).n = 1
      rw [stuffS_snoc, s3, h1]
      exact ⟨rfl, s1, s2⟩
    · obtain ⟨s1, s2, s3, _⟩ := ssStep_less (s := stuffS r.got) (c := b) (by rw [hs]; exact h5)
      refine ⟨by show (if b = r.last then r.n + 1 else 1) ≤ 5; split <;> omega, .inr hb, fun _ => ?_, fun q => absurd q h5⟩
      show (stuffS (r.got ++ [b])).out = x ++ [b] ∧ (stuffS (r.got ++ [b])).last = b ∧ (stuffS (r.got ++ [b])).n = (if b = r.last then r.n + 1 else 1)
      rw [stuffS_snoc, s3, h1]
      exact ⟨rfl, s1, by rw [s2, hs]⟩
theorem Rst.body {x : List UInt8} {r : RS} (h : Rst x r) (hn : r.n < 5) : x = stuffF r.got := (h.low hn).1.symm
theorem Rst.one : Rst [48] ⟨48, 1, [48]⟩ := Rst.step Rst.nil (.inl rfl) (by decide)

/-- What is known behind a row that was stuffed. -/
theorem rs_of_stuff_rev : ∀ q p : List UInt8, p = q.reverse → (∀ c ∈ p, c = 48 ∨ c = 49) → rsOf (stuffS p).out = ⟨(stuffS p).last, (stuffS p).n, p⟩ ∧ (stuffS p).n < 5 := by
  intro q
  induction q with
  | nil => intro p hp _; rw [hp]; exact ⟨rfl, by decide⟩
  | cons c q ih =>
    intro p' hp hb
    rw [List.reverse_cons] at hp
    subst hp
    generalize hq : q.reverse = p at *
    have ih := ih p rfl
    obtain ⟨h1, h2⟩ := ih (fun d hd => hb d (by simp [hd]))
    clear ih
    have hc : c = 48 ∨ c = 49 := hb c (by simp)
    obtain ⟨u1, u2⟩ := uN_less (last := (stuffS p).last) h2 c
    have e : rsStep ⟨(stuffS p).last, (stuffS p).n, p⟩ c = ⟨c, ssN (stuffS p) c, p ++ [c]⟩ := by
      unfold rsStep
      rw [u1, u2, if_pos rfl]
      rfl
    rw [stuffS_snoc]
    by_cases h5 : ssN (stuffS p) c = 5
    · obtain ⟨s1, s2, s3, _⟩ := ssStep_five (s := stuffS p) (c := c) h5
      rw [s1, s2, s3, rsOf_snoc, rsOf_snoc, h1, e, h5]
      obtain ⟨v1, v2⟩ := uN_five hc
      refine ⟨?_, by decide⟩
      unfold rsStep
      rw [v1, v2, if_neg (by decide)]
    · obtain ⟨s1, s2, s3, _⟩ := ssStep_less (s := stuffS p) (c := c) h5
      rw [s1, s2, s3, rsOf_snoc, h1, e]
      refine ⟨rfl, ?_⟩
      exact ite_lt5 h2 h5
theorem rs_of_stuff (p : List UInt8) (h : ∀ c ∈ p, c = 48 ∨ c = 49) : rsOf (stuffS p).out = ⟨(stuffS p).last, (stuffS p).n, p⟩ ∧ (stuffS p).n < 5 :=
  rs_of_stuff_rev p.reverse p (by simp) h
/-- A row is stuffed bit by bit. -/
theorem stuff_split (p : List UInt8) (c : UInt8) (m : List UInt8) : ∃ t, stuffF (p ++ c :: m) = (stuffS p).out ++ c :: t := by
  have h : stuffF (p ++ c :: m) = (m.foldl ssStep (ssStep (stuffS p) c)).out := by
    unfold stuffF stuffS
    rw [List.foldl_append, List.foldl_cons]
  rw [h, stuff_tl]
  by_cases h5 : ssN (stuffS p) c = 5
  · obtain ⟨s1, s2, s3, _⟩ := ssStep_five (s := stuffS p) (c := c) h5
    rw [s3]
    exact ⟨oth c :: tlF (ssStep (stuffS p) c).last (ssStep (stuffS p) c).n m, by simp⟩
  · obtain ⟨s1, s2, s3, _⟩ := ssStep_less (s := stuffS p) (c := c) h5
    rw [s3]
    exact ⟨tlF (ssStep (stuffS p) c).last (ssStep (stuffS p) c).n m, by simp⟩
/-- A row that is a frame's, with its sum. -/
theorem good_only {l : List UInt8} (hb : ∀ c ∈ l, c = 48 ∨ c = 49) (hg : goodB l = true) : l = sumF (headF (readV (headOf l))) ∧ rightB (readV (headOf l)) = true := by
  unfold goodB at hg
  rw [Bool.and_eq_true, Bool.and_eq_true, decide_eq_true_eq, decide_eq_true_eq] at hg
  obtain ⟨⟨h15, hc⟩, hr⟩ := hg
  have h1 := (crc_law h15 hb).1 hc
  rw [(read_yes hr).1]
  unfold readB at hr
  rw [Bool.and_eq_true, Bool.and_eq_true, decide_eq_true_eq] at hr
  exact ⟨by rw [hr.2.2]; exact h1.symm, hr.2.1⟩
end Go.Proofs.YtjfgapljfbkfiaaGreatDoor.FP

/- prio.Contest. -/
namespace Go.Proofs.YtjfgapljfbkfiaaGreatDoor
open Go.ChangeShapes Go.WideShapes Go.ChangeAt Go.RowKit
open FP (bit bitsOf Fr bitB)
attribute [local go_sem] Oper.semAt_some

def fstr (f : Fr) : ByteArray := ⟨(fieldF f).toArray⟩
def strRows (l : List Fr) : List (List Value) := l.map fun f => [.string (fstr f)]
def oneRows (n : Nat) : List (List Value) := List.replicate n [.int .i64 (-1)]

theorem slStr : SlT Tryz.prog 90 9 1 16 := SlT.mk Tryz.underlying90 (z := .string ⟨#[]⟩) (by kernel_rfl) rfl (by decide)
section
variable {B : Nat} {w : World} {v1 v2 : Value} {A1 A2 A' : Option Addr} {c1 c2 c' n : Nat} {r1 r2 r' : List (List Value)} {W W' : World}
end

theorem strRows_snoc {l : List Fr} {k : Nat} (h : k < l.length) : strRows (l.take (k + 1)) = strRows (l.take k) ++ [[.string (fstr l[k])]] := by
  unfold strRows
  rw [List.take_succ_eq_append_getElem h, List.map_append]
  rfl
theorem oneRows_snoc (k : Nat) : oneRows (k + 1) = oneRows k ++ [[.int .i64 (-1)]] := by simp [oneRows, List.replicate_succ']

def readyC (B x : Nat) (v1 v2 : Value) (fo : Obj) : Nat → World → Prop
  | 0, W => W.cell? ⟨B, 0, none⟩ = some v1
  | 1, W => W.heap[x]? = some fo
  | _, W => W.cell? ⟨B + 1, 0, none⟩ = some v2

theorem keepsC9 {md : Region.Mode} {ops : Array Oper} {w w' : World} {R : Nat → World → Prop} (h0 : mayAhead md ops 0 9 = false) (h1 : mayAhead md ops 1 9 = false) (h5 : mayAhead md ops 5 9 = false) :
    keeps md ops [0, 1, 5] R 9 w w' := ⟨fun h => absurd h (by decide), fun _ i hi hm => by
  simp only [List.mem_cons, List.not_mem_nil, or_false] at hi
  rcases hi with rfl | rfl | rfl
  · rw [h0] at hm; cases hm
  · rw [h1] at hm; cases hm
  · rw [h5] at hm; cases hm⟩

theorem own_putC {W : World} {base e sz : Nat} {A : Option Addr} {c : Nat} {r : List (List Value)} (h : Own W base e sz A c r) {l : Nat} {o o' : Obj} (ho : W.heap[l]? = some o) (hc : o.isCells = false) : Own (W.putObj l o') base e sz A c r := by
  refine World.ownsRow.kept h (grownBy_putObj' W l o') ?_
  rcases h.2 with ⟨hv, _⟩ | ⟨g, cap, cur, hv, _, hgh, _⟩
  · rw [hv]; exact .inl rfl
  · rw [hv]
    refine .inr ?_
    simp only [Value.ownBlock, ne_eq, Option.some.injEq]
    rintro rfl
    rw [ho] at hgh
    injection hgh with hgh
    subst hgh
    cases hc
theorem heap_putC {W : World} {x l : Nat} {o o' : Obj} {cs : Array Value} {t : TypeId} {fz : Nat × Nat} (h : W.heap[x]? = some (.cells cs t fz)) (ho : W.heap[l]? = some o) (hc : o.isCells = false) : (W.putObj l o').heap[x]? = some (.cells cs t fz) := by
  have : x ≠ l := by
    rintro rfl
    rw [ho] at h
    injection h with h
    subst h
    cases hc
  rw [World.putObj_heap_other this]
  exact h
theorem heap_set {W : World} {x g i : Nat} {v : Value} (h : x ≠ g) : (W.setCell ⟨g, i, none⟩ v).heap[x]? = W.heap[x]? := heap_setCell_other W ⟨g, i, none⟩ x v h

section
variable {B : Nat} {w : World} {v1 v2 : Value} {A1 A2 : Option Addr} {c1 c2 : Nat} {r1 r2 r' : List (List Value)} {W : World}
end

/-! ### the row of fields, and of where they lose -/
def SF (l : List Fr) (j : Nat) : ByteArray := if h : j < l.length then fstr l[j] else ⟨#[]⟩
theorem SF_lt {l : List Fr} {j : Nat} (h : j < l.length) : SF l j = fstr l[j] := dif_pos h
def intRows (n : Nat) (x : Nat → Int) : List (List Value) := (List.range n).map fun j => [.int .i64 (x j)]
theorem intRows_len (n : Nat) (x : Nat → Int) : (intRows n x).length = n := by simp [intRows]
theorem intRows_one (n : Nat) : oneRows n = intRows n (fun _ => -1) := by
  apply List.ext_getElem
  · simp [oneRows, intRows]
  · intro i h1 h2; simp [oneRows, intRows]
theorem flat_ones {α : Type} (l : List α) (f : α → Value) : (l.map fun x => [f x]).flatten = l.map f := by
  induction l with
  | nil => rfl
  | cons x l ih => simp [ih]
theorem intRows_flat (n : Nat) (x : Nat → Int) : (intRows n x).flatten = (List.range n).map fun j => .int .i64 (x j) := flat_ones _ _
theorem intRows_set (n : Nat) (x y : Nat → Int) (i : Nat) (v : Int) (hi : y i = v) (ho : ∀ j, j ≠ i → y j = x j) : (intRows n y).flatten = (intRows n x).flatten.set i (.int .i64 v) := by
  rw [intRows_flat, intRows_flat]
  apply List.ext_getElem
  · simp
  · intro j h1 h2
    simp only [List.getElem_map, List.getElem_range, List.getElem_set]
    split
    · rename_i h; subst h; rw [hi]
    · rename_i h; rw [ho j (fun e => h e.symm)]
theorem intRows_congr {n : Nat} {x y : Nat → Int} (h : ∀ j, j < n → x j = y j) : intRows n x = intRows n y := by
  unfold intRows
  apply List.map_congr_left
  intro j hj
  rw [h j (List.mem_range.1 hj)]
theorem own_cells {W : World} {base e : Nat} {g c : Nat} {r : List (List Value)} (h : Own W base e 1 (some ⟨g, 0, none⟩) c r) {j : Nat} {v : Value} (hv : r.flatten[j]? = some v) : W.cell? ⟨g, j, none⟩ = some v := by
  have := World.ownsRow.cells h (g := g) rfl j v hv
  rw [Go.WideShapes.add_plain, Nat.zero_add] at this
  exact this
theorem strRows_flat (l : List Fr) (j : Nat) (h : j < l.length) : (strRows l).flatten[j]? = some (.string (SF l j)) := by
  unfold strRows
  rw [flat_ones, List.getElem?_map, List.getElem?_eq_getElem h, SF_lt h]
  rfl
theorem intRows_at {n : Nat} {x : Nat → Int} {j : Nat} (h : j < n) : (intRows n x).flatten[j]? = some (.int .i64 (x j)) := by
  rw [intRows_flat, List.getElem?_map, List.getElem?_range h]
  rfl

section
variable {w W : World} {l : List Fr} {g1 c1 g2 c2 x3 : Nat} {x y : Nat → Int}
end

set_option maxRecDepth 100000 in
theorem frame_loads (W : World) (x : Nat) (f : Fr) (h : W.heap[x]? = some (.cells #[.int .u32 f.id, .bool f.ext, .bool f.rem, .int .i64 f.dlc, .string f.data] 31 (0, 0))) (ev : Operand → Value) (hev : ev (.tmp 9) = .pointer (some ⟨x, 0, none⟩)) (p : String) (d : Option Nat) (ty : Nat) (af : Array Edge) :
    (execOp ev { dst := d, op := .load 31 (.tmp 9), type := ty, pos := p, after := af, guard := none }).run Tryz.prog W = .ok (.value (.agg #[.int .u32 f.id, .bool f.ext, .bool f.rem, .int .i64 f.dlc, .string f.data])) W := by
  have c0 : W.cell? ⟨x, 0, none⟩ = some (.int .u32 f.id) := by simp [World.cell?, h]
  have c1 : W.cell? ⟨x, 1, none⟩ = some (.bool f.ext) := by simp [World.cell?, h]
  have c2 : W.cell? ⟨x, 2, none⟩ = some (.bool f.rem) := by simp [World.cell?, h]
  have c3 : W.cell? ⟨x, 3, none⟩ = some (.int .i64 f.dlc) := by simp [World.cell?, h]
  have c4 : W.cell? ⟨x, 4, none⟩ = some (.string f.data) := by simp [World.cell?, h]
  clear h
  obtain ⟨id, ext, rem, dlc, data⟩ := f
  dsimp only at *
  simp only [execOp, hev]
  go_simp

theorem lostN_succ (S : Nat → ByteArray) (n k j : Nat) : lostN S n (k + 1) j = if lostN S n k j < 0 ∧ k < (S j).size ∧ busN S (lostN S n k) k n < byteAtP (S j) k then (k : Int) else lostN S n k j := rfl
/-- Round k's row, when its first p have been gone through. -/
def mixN (l : List Fr) (k p j : Nat) : Int := if j < p then lostN (SF l) l.length (k + 1) j else lostN (SF l) l.length k j
theorem mixN_zero (l : List Fr) (k j : Nat) : mixN l k 0 j = lostN (SF l) l.length k j := by simp [mixN]
theorem mixN_at (l : List Fr) (k p : Nat) : mixN l k p p = lostN (SF l) l.length k p := by simp [mixN]
theorem mixN_new (l : List Fr) (k p : Nat) : mixN l k (p + 1) p = lostN (SF l) l.length (k + 1) p := by simp [mixN]
theorem mixN_old (l : List Fr) (k p j : Nat) (h : j ≠ p) : mixN l k (p + 1) j = mixN l k p j := by
  unfold mixN
  by_cases h1 : j < p
  · rw [if_pos h1, if_pos (by omega)]
  · rw [if_neg h1, if_neg (by omega)]
theorem mixN_same (l : List Fr) (k p j : Nat) (h : lostN (SF l) l.length (k + 1) p = lostN (SF l) l.length k p) : mixN l k (p + 1) j = mixN l k p j := by
  by_cases hj : j = p
  · subst hj; rw [mixN_new, mixN_at, h]
  · exact mixN_old l k p j hj
theorem mixN_full (l : List Fr) (k j : Nat) (h : j < l.length) : mixN l k l.length j = lostN (SF l) l.length (k + 1) j := by simp [mixN, h]

/-- Those among the first k that have not lost. -/
def leftIdx (x : Nat → Int) (k : Nat) : List Nat := (List.range k).filter fun j => decide (x j < 0)
def leftRows (x : Nat → Int) (k : Nat) : List (List Value) := (leftIdx x k).map fun (j : Nat) => [.int .i64 (j : Int)]
theorem leftIdx_le (x : Nat → Int) (k : Nat) : (leftIdx x k).length ≤ k := by
  have := List.length_filter_le (fun j => decide (x j < 0)) (List.range k)
  rw [List.length_range] at this
  exact this
theorem leftIdx_in {x : Nat → Int} {k : Nat} (h : x k < 0) : leftIdx x (k + 1) = leftIdx x k ++ [k] := by
  unfold leftIdx
  rw [List.range_succ, List.filter_append]
  simp [h]
theorem leftIdx_out {x : Nat → Int} {k : Nat} (h : ¬ x k < 0) : leftIdx x (k + 1) = leftIdx x k := by
  unfold leftIdx
  rw [List.range_succ, List.filter_append]
  simp [h]
theorem leftRows_one (x : Nat → Int) (k : Nat) : ∀ r ∈ leftRows x k, r.length = 1 := by intro r hr; obtain ⟨j, _, rfl⟩ := List.mem_map.1 hr; rfl

/-- Where each of l loses; below 0: nowhere. -/
def lostF (l : List Fr) : Nat → Int := lostN (SF l) l.length 32
def ContestV (l : List Fr) (w : World) (e : Ending) (w' : World) : Prop :=
  ∃ AL cL AT cT, e = .returned (.tuple #[.slice AL (leftIdx (lostF l) l.length).length cL, .slice AT l.length cT, .int .i64 0]) ∧
    Rd w' w'.heap.size AL 1 (leftRows (lostF l) l.length) ∧ Rd w' w'.heap.size AT 1 (intRows l.length (lostF l)) ∧ Below w.heap.size w w'

end Go.Proofs.YtjfgapljfbkfiaaGreatDoor

/- The plain law of fields: their order, and how a contest goes. -/
namespace Go.Proofs.YtjfgapljfbkfiaaGreatDoor
open FP (bit bitsOf Fr bitB)

namespace PP
abbrev bl := Op.bytesLess

theorem lt_asymm8 {a b : UInt8} (h : a < b) : ¬ b < a := by rw [UInt8.lt_iff_toNat_lt] at *; omega
theorem lt_irrefl8 (a : UInt8) : ¬ a < a := by rw [UInt8.lt_iff_toNat_lt]; omega
theorem lt_or8 {a b : UInt8} (h : a ≠ b) : a < b ∨ b < a := by
  rw [UInt8.lt_iff_toNat_lt, UInt8.lt_iff_toNat_lt]
  have : a.toNat ≠ b.toNat := fun e => h (UInt8.toNat_inj.1 e)
  omega

theorem bl_irrefl : ∀ x : List UInt8, bl x x = false
  | [] => rfl
  | a :: x => by simp [bl, Op.bytesLess, bl_irrefl x]

/-- The lesser one at the first place where they are unlike. -/
theorem bl_first : ∀ (k : Nat) (x y : List UInt8), x.take k = y.take k → ∀ a b, x[k]? = some a → y[k]? = some b → a ≠ b → bl x y = decide (a < b)
  | 0, [], _, _, _, _, h, _, _ => by simp at h
  | 0, _ :: _, [], _, _, _, _, h, _ => by simp at h
  | 0, a :: x, b :: y, _, a', b', h, h', hn => by
    simp only [List.getElem?_cons_zero, Option.some.injEq] at h h'
    subst h; subst h'
    simp [bl, Op.bytesLess, hn]
  | k + 1, [], _, _, _, _, h, _, _ => by simp at h
  | k + 1, _ :: _, [], _, _, _, _, h, _ => by simp at h
  | k + 1, a :: x, b :: y, ht, a', b', h, h', hn => by
    simp only [List.take_succ_cons, List.cons.injEq] at ht
    obtain ⟨rfl, ht⟩ := ht
    simp only [List.getElem?_cons_succ] at h h'
    have := bl_first k x y ht a' b' h h' hn
    simp [bl, Op.bytesLess, this]

/-- Two rows are unlike at a first place, or one begins the other. -/
theorem first_or : ∀ x y : List UInt8, x <+: y ∨ y <+: x ∨ ∃ k a b, x.take k = y.take k ∧ x[k]? = some a ∧ y[k]? = some b ∧ a ≠ b
  | [], y => .inl (List.nil_prefix)
  | _ :: _, [] => .inr (.inl List.nil_prefix)
  | a :: x, b :: y => by
    by_cases h : a = b
    · subst h
      rcases first_or x y with h | h | ⟨k, c, d, h1, h2, h3, h4⟩
      · exact .inl (List.prefix_cons_inj a |>.2 h)
      · exact .inr (.inl (List.prefix_cons_inj a |>.2 h))
      · exact .inr (.inr ⟨k + 1, c, d, by simp [h1], by simpa using h2, by simpa using h3, h4⟩)
    · exact .inr (.inr ⟨0, a, b, rfl, rfl, rfl, h⟩)

/-- Rows none of which begins another one, and bits. -/
structure Fld (F : List UInt8) : Prop where
  bits : ∀ c ∈ F, c = 48 ∨ c = 49
  kind : (F.length = 13 ∧ F[12]? = some 48) ∨ (F.length = 32 ∧ F[12]? = some 49)

theorem Fld.len {F : List UInt8} (h : Fld F) : F.length ≤ 32 := by rcases h.kind with h | h <;> omega

theorem pre_eq {F G : List UInt8} (hF : Fld F) (hG : Fld G) (h : F <+: G) : F = G := by
  obtain ⟨t, ht⟩ := h
  have hl : F.length + t.length = G.length := by rw [← ht]; simp
  have h12 : F[12]? = G[12]? := by
    rw [← ht, List.getElem?_append_left]
    rcases hF.kind with h | h <;> omega
  have : t.length = 0 := by
    rcases hF.kind with ⟨a, b⟩ | ⟨a, b⟩ <;> rcases hG.kind with ⟨c, d⟩ | ⟨c, d⟩
    · omega
    · rw [b, d] at h12; cases h12
    · rw [b, d] at h12; cases h12
    · omega
  rw [List.length_eq_zero_iff] at this
  rw [← ht, this, List.append_nil]

theorem fld_or {F G : List UInt8} (hF : Fld F) (hG : Fld G) : F = G ∨ ∃ k a b, F.take k = G.take k ∧ F[k]? = some a ∧ G[k]? = some b ∧ a ≠ b := by
  rcases first_or F G with h | h | h
  · exact .inl (pre_eq hF hG h)
  · exact .inl (pre_eq hG hF h).symm
  · exact .inr h

theorem bl_total {F G : List UInt8} (hF : Fld F) (hG : Fld G) (hn : F ≠ G) : bl F G = !bl G F := by
  rcases fld_or hF hG with h | ⟨k, a, b, h1, h2, h3, h4⟩
  · exact absurd h hn
  · rw [bl_first k F G h1 a b h2 h3 h4, bl_first k G F h1.symm b a h3 h2 (Ne.symm h4)]
    rcases lt_or8 h4 with h | h
    · simp [h, lt_asymm8 h]
    · simp [h, lt_asymm8 h]

theorem bl_trans : ∀ x y z : List UInt8, bl x y = true → bl y z = true → bl x z = true
  | _, [], _, h, _ => by simp [bl, Op.bytesLess] at h
  | _, _ :: _, [], _, h => by simp [bl, Op.bytesLess] at h
  | [], _ :: _, _ :: _, _, _ => rfl
  | a :: x, b :: y, c :: z, h1, h2 => by
    simp only [bl, Op.bytesLess, Bool.or_eq_true, decide_eq_true_eq, Bool.and_eq_true, beq_iff_eq] at *
    rcases h1 with h1 | ⟨rfl, h1⟩ <;> rcases h2 with h2 | ⟨rfl, h2⟩
    · left; rw [UInt8.lt_iff_toNat_lt] at *; omega
    · exact .inl h1
    · exact .inl h2
    · exact .inr ⟨rfl, bl_trans x y z h1 h2⟩

/-! ### the contest -/
section
variable {F : Nat → List UInt8} {n : Nat} {B : List UInt8}
def strs (F : Nat → List UInt8) (j : Nat) : ByteArray := ⟨(F j).toArray⟩
theorem strs_size (F : Nat → List UInt8) (j : Nat) : (strs F j).size = (F j).length := by simp [strs, ByteArray.size]
theorem strs_at {F : Nat → List UInt8} {j k : Nat} {c : UInt8} (h : (F j)[k]? = some c) : byteAtP (strs F j) k = (c.toNat : Int) := by
  have hk : k < (F j).length := (List.getElem?_eq_some_iff.1 h).1
  have hk' : k < (strs F j).size := by rw [strs_size]; exact hk
  rw [byteAt_lt hk']
  have : (strs F j)[k] = c := by
    have h2 := (List.getElem?_eq_some_iff.1 h).2
    simp only [strs]
    rw [ByteArray.getElem_eq_getElem_data]
    simpa using h2
  rw [this]

theorem bus_le (x : Nat → Int) (k : Nat) (S : Nat → ByteArray) (c : Int) : ∀ p i, i < p → x i < 0 → k < (S i).size → byteAtP (S i) k = c → busN S x k p ≤ c
  | 0, i, h, _, _, _ => absurd h (by omega)
  | p + 1, i, h, h1, h2, h3 => by
    unfold busN
    by_cases hi : i = p
    · subst hi
      rw [if_pos ⟨h1, h2⟩, h3]
      omega
    · have := bus_le x k S c p i (by omega) h1 h2 h3
      split <;> omega
theorem bus_ge (x : Nat → Int) (k : Nat) (S : Nat → ByteArray) (c : Int) (hc : c ≤ 49) : ∀ p, (∀ i, i < p → x i < 0 → k < (S i).size → c ≤ byteAtP (S i) k) → c ≤ busN S x k p
  | 0, _ => hc
  | p + 1, h => by
    unfold busN
    have ih := bus_ge x k S c hc p (fun i hi => h i (by omega))
    split
    · rename_i hp
      have := h p (by omega) hp.1 hp.2
      omega
    · exact ih

/-- Where j loses, when k bits have gone by. -/
def Lost (F : Nat → List UInt8) (B : List UInt8) (k : Nat) (x : Int) (j : Nat) : Prop :=
  (x < 0 ∧ (F j).take k = B.take k) ∨ (∃ i a b, x = ((i : Nat) : Int) ∧ i < k ∧ (F j).take i = B.take i ∧ (F j)[i]? = some a ∧ B[i]? = some b ∧ a ≠ b)

theorem lost_law (hF : ∀ j, j < n → Fld (F j)) {b : Nat} (hb : b < n) (hB : F b = B) (hm : ∀ j, j < n → bl (F j) B = false) :
    ∀ k j, j < n → Lost F B k (lostN (strs F) n k j) j
  | 0, j, _ => .inl ⟨by simp [lostN], rfl⟩
  | k + 1, j, hj => by
    have ih := fun j hj => lost_law hF hb hB hm k j hj
    have hBf : Fld B := hB ▸ hF b hb
    rw [lostN_succ]
    rcases ih j hj with ⟨h1, h2⟩ | ⟨i, a, c, h1, h2, h3⟩
    · -- j is still there
      rcases hc : B[k]? with _ | c
      · -- the best one has ended: so has j
        have hlb : B.length ≤ k := by rw [List.getElem?_eq_none_iff] at hc; exact hc
        have hBp : B <+: F j := by
          rw [List.take_of_length_le hlb] at h2
          rw [← h2]
          exact List.take_prefix _ _
        have he := pre_eq hBf (hF j hj) hBp
        rw [if_neg (by rw [strs_size, ← he]; omega)]
        exact .inl ⟨h1, by rw [he]⟩
      · have hc49 : (c.toNat : Int) ≤ 49 := by
          rcases hBf.bits c (List.mem_of_getElem? hc) with rfl | rfl <;> decide
        have hbk : k < (strs F b).size := by rw [strs_size, hB]; exact (List.getElem?_eq_some_iff.1 hc).1
        have hbl : lostN (strs F) n k b < 0 := by
          rcases ih b hb with ⟨h, _⟩ | ⟨i, a, c, _, _, _, h4, h5, h6⟩
          · exact h
          · rw [hB] at h4; rw [h4] at h5; exact absurd (Option.some.inj h5) h6
        have hall : ∀ i, i < n → lostN (strs F) n k i < 0 → k < (strs F i).size → (c.toNat : Int) ≤ byteAtP (strs F i) k := by
          intro i hi hx hs
          rw [strs_size] at hs
          obtain ⟨d, hd⟩ : ∃ d, (F i)[k]? = some d := ⟨_, List.getElem?_eq_getElem hs⟩
          rw [strs_at hd]
          rcases ih i hi with ⟨_, ht⟩ | ⟨i', a', c', h1', _⟩
          · by_cases hdc : d = c
            · rw [hdc]; omega
            · have := bl_first k (F i) B ht d c hd hc hdc
              rw [hm i hi] at this
              have : ¬ d < c := by simpa using this.symm
              rw [UInt8.lt_iff_toNat_lt] at this
              omega
          · omega
        have hbus : busN (strs F) (lostN (strs F) n k) k n = (c.toNat : Int) := by
          have := bus_le (lostN (strs F) n k) k (strs F) (c.toNat : Int) n b hb hbl hbk (strs_at (by rw [hB]; exact hc))
          have := bus_ge (lostN (strs F) n k) k (strs F) (c.toNat : Int) hc49 n hall
          omega
        rw [hbus]
        rcases hd : (F j)[k]? with _ | d
        · -- j has ended ahead of the best one
          have hlj : (F j).length ≤ k := by rw [List.getElem?_eq_none_iff] at hd; exact hd
          have hp : F j <+: B := by
            rw [List.take_of_length_le hlj] at h2
            rw [h2]
            exact List.take_prefix _ _
          have he := pre_eq (hF j hj) hBf hp
          rw [he, hc] at hd
          cases hd
        · rw [strs_at hd]
          have hks : k < (strs F j).size := by rw [strs_size]; exact (List.getElem?_eq_some_iff.1 hd).1
          have hle := hall j hj h1 hks
          rw [strs_at hd] at hle
          by_cases hdc : d = c
          · rw [if_neg (by rw [hdc]; omega)]
            refine .inl ⟨h1, ?_⟩
            rw [List.take_add_one, List.take_add_one, h2, hd, hc, hdc]
          · have hne : d.toNat ≠ c.toNat := fun e => hdc (UInt8.toNat_inj.1 e)
            rw [if_pos ⟨h1, hks, by omega⟩]
            exact .inr ⟨k, d, c, rfl, by omega, h2, hd, hc, hdc⟩
    · rw [if_neg (by omega)]
      exact .inr ⟨i, a, c, h1, by omega, h3⟩

theorem lost_end (hF : ∀ j, j < n → Fld (F j)) {b : Nat} (hb : b < n) (hB : F b = B) (hm : ∀ j, j < n → bl (F j) B = false) (j : Nat) (hj : j < n) : lostN (strs F) n 32 j < 0 ↔ F j = B := by
  have hBf : Fld B := hB ▸ hF b hb
  rcases lost_law hF hb hB hm 32 j hj with ⟨h1, h2⟩ | ⟨i, a, c, h1, h2, h3, h4, h5, h6⟩
  · rw [List.take_of_length_le (hF j hj).len, List.take_of_length_le hBf.len] at h2
    exact ⟨fun _ => h2, fun _ => h1⟩
  · constructor
    · intro h; omega
    · intro h; rw [h, h5] at h4; exact absurd (Option.some.inj h4).symm h6
end
end PP
end Go.Proofs.YtjfgapljfbkfiaaGreatDoor

/- Fields of frames: their order by numbers; which are left. -/
namespace Go.Proofs.YtjfgapljfbkfiaaGreatDoor
open FP (bit bitsOf Fr bitB numOf)

namespace PP
theorem numOf_inj : ∀ x y : List UInt8, x.length = y.length → (∀ c ∈ x, c = 48 ∨ c = 49) → (∀ c ∈ y, c = 48 ∨ c = 49) → numOf x = numOf y → x = y
  | [], [], _, _, _, _ => rfl
  | [], _ :: _, h, _, _, _ => by simp at h
  | _ :: _, [], h, _, _, _ => by simp at h
  | a :: x, b :: y, h, hx, hy, hn => by
    have hl : x.length = y.length := by simpa using h
    rw [FP.numOf_cons, FP.numOf_cons, hl] at hn
    have h1 := FP.numOf_lt x
    have h2 := FP.numOf_lt y
    rw [hl] at h1
    rcases hx a (by simp) with rfl | rfl <;> rcases hy b (by simp) with rfl | rfl
    · simp at hn
      rw [numOf_inj x y hl (fun c hc => hx c (by simp [hc])) (fun c hc => hy c (by simp [hc])) hn]
    · simp at hn; omega
    · simp at hn; omega
    · simp at hn
      rw [numOf_inj x y hl (fun c hc => hx c (by simp [hc])) (fun c hc => hy c (by simp [hc])) hn]

/-- Rows of bits, of one length, are ordered as their numbers; what stands behind them decides where they are alike. -/
theorem bl_num : ∀ x y u v : List UInt8, x.length = y.length → (∀ c ∈ x, c = 48 ∨ c = 49) → (∀ c ∈ y, c = 48 ∨ c = 49) → bl (x ++ u) (y ++ v) = if numOf x = numOf y then bl u v else decide (numOf x < numOf y)
  | [], [], u, v, _, _, _ => by simp
  | [], _ :: _, _, _, h, _, _ => by simp at h
  | _ :: _, [], _, _, h, _, _ => by simp at h
  | a :: x, b :: y, u, v, h, hx, hy => by
    have hl : x.length = y.length := by simpa using h
    have h1 := FP.numOf_lt x
    have h2 := FP.numOf_lt y
    rw [hl] at h1
    have ih := bl_num x y u v hl (fun c hc => hx c (by simp [hc])) (fun c hc => hy c (by simp [hc]))
    rw [FP.numOf_cons, FP.numOf_cons, hl]
    simp only [List.cons_append, bl, Op.bytesLess]
    simp only [bl] at ih
    rw [ih]
    rcases hx a (by simp) with rfl | rfl <;> rcases hy b (by simp) with rfl | rfl
    · simp
    · simp
      rw [if_neg (by omega)]
      omega
    · simp
      rw [if_neg (by omega)]
      omega
    · simp

theorem bl_bits (a b w : Nat) (ha : a < 2 ^ w) (hb : b < 2 ^ w) (u v : List UInt8) : bl (bitsOf a w ++ u) (bitsOf b w ++ v) = if a = b then bl u v else decide (a < b) := by
  rw [bl_num _ _ u v (by rw [FP.bitsOf_length, FP.bitsOf_length]) (fun c hc => FP.bitsOf_mem hc) (fun c hc => FP.bitsOf_mem hc), FP.numOf_bitsOf, FP.numOf_bitsOf, Nat.mod_eq_of_lt ha, Nat.mod_eq_of_lt hb]

theorem bitB_or (b : Bool) : bitB b = 48 ∨ bitB b = 49 := by cases b <;> simp [bitB]

theorem fld_of (f : Fr) : Fld (fieldF f) := by
  unfold fieldF
  split
  · refine ⟨fun c hc => ?_, .inr ⟨by simp [FP.bitsOf_length], ?_⟩⟩
    · simp only [List.mem_append, List.mem_cons, List.not_mem_nil, or_false] at hc
      rcases hc with ((hc | rfl | rfl) | hc) | rfl
      · exact FP.bitsOf_mem (List.mem_of_mem_take hc)
      · simp
      · simp
      · exact FP.bitsOf_mem (List.mem_of_mem_drop hc)
      · exact bitB_or _
    · rw [List.append_assoc, List.append_assoc, List.getElem?_append_right (by simp [FP.bitsOf_length])]
      simp [FP.bitsOf_length]
  · refine ⟨fun c hc => ?_, .inl ⟨by simp [FP.bitsOf_length], ?_⟩⟩
    · simp only [List.mem_append, List.mem_cons, List.not_mem_nil, or_false] at hc
      rcases hc with (hc | rfl) | rfl
      · exact FP.bitsOf_mem hc
      · exact bitB_or _
      · simp
    · rw [List.append_assoc, List.getElem?_append_right (by simp [FP.bitsOf_length])]
      simp [FP.bitsOf_length]

theorem lessB_bl {f g : Fr} (hf : FP.rightB f = true) (hg : FP.rightB g = true) : lessB f g = bl (fieldF f) (fieldF g) := by simp [lessB, hf, hg]

theorem best_of (F : Nat → List UInt8) (hF : ∀ j, Fld (F j)) : ∀ n, 0 < n → ∃ b, b < n ∧ ∀ j, j < n → bl (F j) (F b) = false
  | 0, h => absurd h (by omega)
  | 1, _ => ⟨0, by omega, fun j hj => by have : j = 0 := by omega
                                         rw [this]; exact bl_irrefl _⟩
  | n + 2, _ => by
    obtain ⟨b, hb, h⟩ := best_of F hF (n + 1) (by omega)
    by_cases hl : bl (F (n + 1)) (F b) = true
    · refine ⟨n + 1, by omega, fun j hj => ?_⟩
      by_cases hj' : j = n + 1
      · rw [hj']; exact bl_irrefl _
      · by_cases hjl : bl (F j) (F (n + 1)) = true
        · have := bl_trans _ _ _ hjl hl
          rw [h j (by omega)] at this
          cases this
        · simpa using hjl
    · refine ⟨b, by omega, fun j hj => ?_⟩
      by_cases hj' : j = n + 1
      · rw [hj']; simpa using hl
      · exact h j (by omega)

def FL (l : List Fr) (j : Nat) : List UInt8 := if h : j < l.length then fieldF l[j] else fieldF ⟨0, false, false, 0, ⟨#[]⟩⟩
theorem FL_lt {l : List Fr} {j : Nat} (h : j < l.length) : FL l j = fieldF l[j] := dif_pos h
theorem FL_fld (l : List Fr) (j : Nat) : Fld (FL l j) := by unfold FL; split <;> exact fld_of _
theorem busN_congr {S S' : Nat → ByteArray} {x y : Nat → Int} (k : Nat) : ∀ p, (∀ i, i < p → S i = S' i ∧ x i = y i) → busN S x k p = busN S' y k p
  | 0, _ => rfl
  | p + 1, h => by
    unfold busN
    rw [busN_congr k p (fun i hi => h i (by omega)), (h p (by omega)).1, (h p (by omega)).2]
theorem lostN_congr {S S' : Nat → ByteArray} {n : Nat} (h : ∀ i, i < n → S i = S' i) : ∀ k j, j < n → lostN S n k j = lostN S' n k j
  | 0, _, _ => rfl
  | k + 1, j, hj => by
    rw [lostN_succ, lostN_succ, lostN_congr h k j hj, h j hj, busN_congr k n (fun i hi => ⟨h i hi, lostN_congr h k i hi⟩)]
theorem lostF_eq (l : List Fr) (j : Nat) (hj : j < l.length) : lostF l j = lostN (strs (FL l)) l.length 32 j :=
  lostN_congr (fun i hi => by rw [SF_lt hi]; simp only [strs, FL_lt hi]; rfl) 32 j hj

/-- b is among the best ones. -/
def Best (l : List Fr) (b : Nat) : Prop := b < l.length ∧ ∀ j, j < l.length → bl (FL l j) (FL l b) = false
theorem best_is (l : List Fr) (h : 0 < l.length) : ∃ b, Best l b := best_of (FL l) (FL_fld l) l.length h
theorem left_iff {l : List Fr} {b : Nat} (hb : Best l b) {j : Nat} (hj : j < l.length) : lostF l j < 0 ↔ FL l j = FL l b := by
  rw [lostF_eq l j hj]
  exact lost_end (fun j _ => FL_fld l j) hb.1 rfl hb.2 j hj
end PP
end Go.Proofs.YtjfgapljfbkfiaaGreatDoor

/- PrioKinds. -/
namespace Go.Proofs.YtjfgapljfbkfiaaGreatDoor
open Go.ChangeShapes Go.WideShapes Go.ChangeAt Go.RowKit
open FP (bit bitsOf Fr bitB)

def al05 : List Fr := [⟨5, false, false, 0, ⟨#[]⟩⟩, ⟨3, false, false, 0, ⟨#[]⟩⟩, ⟨4, false, false, 0, ⟨#[]⟩⟩]
theorem al05_best : PP.Best al05 1 := ⟨by decide, by decide +kernel⟩
theorem al05_left : leftIdx (lostF al05) al05.length = [1] := by
  have h0 : ¬ lostF al05 0 < 0 := fun h => absurd ((PP.left_iff al05_best (j := 0) (by decide)).1 h) (by decide +kernel)
  have h1 : lostF al05 1 < 0 := (PP.left_iff al05_best (j := 1) (by decide)).2 rfl
  have h2 : ¬ lostF al05 2 < 0 := fun h => absurd ((PP.left_iff al05_best (j := 2) (by decide)).1 h) (by decide +kernel)
  show leftIdx (lostF al05) 3 = [1]
  rw [leftIdx_out h2, leftIdx_in h1, leftIdx_out h0]
  rfl

theorem rd_cell {w : World} {B : Nat} {A : Option Addr} {v : Value} (h : Rd w B A 1 [[v]]) : ∃ b off, A = some ⟨b, off, none⟩ ∧ w.cell? ⟨b, off, none⟩ = some v := by
  obtain ⟨b, off, e, _, hc⟩ := h (by simp)
  exact ⟨b, off, e, by simpa using hc 0 [v] 0 v rfl rfl⟩

def sh (a : Nat) (r : Bool) : Fr := ⟨a, false, r, 0, ⟨#[]⟩⟩
def lo (N : Nat) : Fr := ⟨N, true, false, 0, ⟨#[]⟩⟩
theorem sh_right {a : Nat} (ha : a < 2048) (r : Bool) : FP.rightB (sh a r) = true := by cases r <;> simp [FP.rightB, sh, ha] <;> rfl
theorem lo_right {a c : Nat} (ha : a < 2048) (hc : c < 262144) : FP.rightB (lo (a * 262144 + c)) = true := by
  have h : a * 262144 + c < 536870912 := by omega
  simp [FP.rightB, lo, h]; rfl
theorem sh_field (a : Nat) (r : Bool) : fieldF (sh a r) = bitsOf a 11 ++ [bitB r, 48] := by simp [fieldF, sh]
theorem lo_field {a c : Nat} (hc : c < 262144) : ∃ t, fieldF (lo (a * 262144 + c)) = bitsOf a 11 ++ ([49, 49] ++ t) := by
  have h := FP.bitsOf_append (a * 262144 + c) 11 18
  have hd : (a * 262144 + c) / 2 ^ 18 = a := by omega
  rw [hd] at h
  refine ⟨(bitsOf (a * 262144 + c) 29).drop 11 ++ [48], ?_⟩
  have ht : (bitsOf (a * 262144 + c) 29).take 11 = bitsOf a 11 := by
    rw [h, List.take_left' (FP.bitsOf_length _ _)]
  simp [fieldF, lo, ht, bitB]
theorem ls_ss {a b : Nat} (ha : a < 2048) (hb : b < 2048) (r s : Bool) : lessB (sh a r) (sh b s) = if a = b then (!r && s) else decide (a < b) := by
  rw [PP.lessB_bl (sh_right ha r) (sh_right hb s), sh_field, sh_field, PP.bl_bits a b 11 (by omega) (by omega)]
  cases r <;> cases s <;> simp [PP.bl, Op.bytesLess, bitB]
theorem ls_sl {a b c : Nat} (ha : a < 2048) (hb : b < 2048) (hc : c < 262144) (r : Bool) : lessB (sh a r) (lo (b * 262144 + c)) = decide (a ≤ b) := by
  obtain ⟨t, ht⟩ := lo_field (a := b) hc
  rw [PP.lessB_bl (sh_right ha r) (lo_right hb hc), sh_field, ht, PP.bl_bits a b 11 (by omega) (by omega)]
  by_cases h : a = b
  · subst h; cases r <;> simp [PP.bl, Op.bytesLess, bitB]
  · rw [if_neg h, decide_eq_decide]; omega
theorem ls_ls {a b c : Nat} (ha : a < 2048) (hb : b < 2048) (hc : c < 262144) (r : Bool) : lessB (lo (a * 262144 + c)) (sh b r) = decide (a < b) := by
  obtain ⟨t, ht⟩ := lo_field (a := a) hc
  rw [PP.lessB_bl (lo_right ha hc) (sh_right hb r), sh_field, ht, PP.bl_bits a b 11 (by omega) (by omega)]
  by_cases h : a = b
  · subst h; cases r <;> simp [PP.bl, Op.bytesLess, bitB]
  · rw [if_neg h]

/-- A frame lies in the block b. -/
def FrB (W : World) (b : Nat) (f : Fr) : Prop := b < W.heap.size ∧ W.cell? ⟨b, 0, none⟩ = some (.int .u32 f.id) ∧ W.cell? ⟨b, 1, none⟩ = some (.bool f.ext) ∧ W.cell? ⟨b, 2, none⟩ = some (.bool f.rem) ∧ W.cell? ⟨b, 3, none⟩ = some (.int .i64 f.dlc) ∧ W.cell? ⟨b, 4, none⟩ = some (.string f.data)
theorem FrB.below {W W' : World} {b : Nat} {f : Fr} (h : FrB W b f) (hb : Below W.heap.size W W') : FrB W' b f :=
  ⟨Nat.lt_of_lt_of_le h.1 hb.size, cellBelow hb h.1 h.2.1, cellBelow hb h.1 h.2.2.1, cellBelow hb h.1 h.2.2.2.1, cellBelow hb h.1 h.2.2.2.2.1, cellBelow hb h.1 h.2.2.2.2.2⟩

theorem orK_low (a c : Nat) (ha : a < 2048) (hc : c < 262144) : bits BinOp.or IntKind.u32 ((a : Int) * 262144) (c : Int) = ((a * 262144 + c : Nat) : Int) := by
  have h : bits BinOp.or IntKind.u32 ((a * 262144 : Nat) : Int) (c : Int) = ((a * 262144 ||| c : Nat) : Int) := Go.u32_or_nat _ _ (by omega) (by omega)
  have e := Nat.two_pow_add_eq_or_of_lt (i := 18) (b := c) (by omega) a
  rw [show ((a : Int) * 262144) = ((a * 262144 : Nat) : Int) by simp, h, show a * 262144 = 2 ^ 18 * a by omega, ← e]

end Go.Proofs.YtjfgapljfbkfiaaGreatDoor

/- The reference's Head, Field, First, Less. -/
namespace Go.Proofs.YtjfgapljfbkfiaaGreatDoor
open Go.ChangeShapes Go.WideShapes Go.ChangeAt Go.RowKit
open FP (bit bitsOf Fr bitB idPart dataPart headF)

/-- The head, as far as k bytes. -/
def headK (f : Fr) (k : Nat) : List UInt8 := 48 :: (idPart f ++ (bitB f.rem :: (48 :: 48 :: (bitsOf f.dlc.toNat 4 ++ dataPart (f.data.data.toList.take k)))))
theorem headK_zero (f : Fr) : headK f 0 = 48 :: (idPart f ++ (bitB f.rem :: (48 :: 48 :: bitsOf f.dlc.toNat 4))) := by simp [headK, dataPart]
theorem headK_succ (f : Fr) (k : Nat) (h : k < f.data.size) : headK f (k + 1) = headK f k ++ bitsOf f.data[k].toNat 8 := by
  have hl : f.data.data.toList.length = f.data.size := Array.length_toList
  unfold headK
  rw [List.take_succ_eq_append_getElem (by omega), dataPart_snoc]
  simp
  rfl
theorem headK_len (f : Fr) (k : Nat) : (headK f k).length ≤ 39 + 8 * k := by
  unfold headK idPart
  have : (dataPart (f.data.data.toList.take k)).length ≤ 8 * k := by rw [FP.dataPart_length, List.length_take]; omega
  split <;> simp [FP.bitsOf_length] <;> omega
theorem headK_full (f : Fr) : headK f f.data.size = headF f := by
  have hl : f.data.data.toList.length = f.data.size := Array.length_toList
  unfold headK headF
  rw [List.take_of_length_le (by omega)]

set_option maxRecDepth 100000 in
set_option maxHeartbeats 2000000 in
theorem refHeadA_any (f : Fr) (w : World) (hr : FP.rightB f = true) :
    Calls Tryz.prog 22 #[.agg #[.int .u32 f.id, .bool f.ext, .bool f.rem, .int .i64 f.dlc, .string f.data]] w fun e w' => e = .returned (.string ⟨(headF f).toArray⟩) ∧ Below w.heap.size w w' := by
  have HK0 := hide (headK_zero f)
  have HKS := hide (headK_succ f)
  have HKL := hide (headK_len f)
  have HKF := hide (headK_full f)
  have hb : f.id < 536870912 ∧ 0 ≤ f.dlc ∧ f.dlc ≤ 8 ∧ f.data.size ≤ 8 := by
    simp [FP.rightB] at hr
    obtain ⟨⟨⟨h1, h2⟩, h3⟩, h4⟩ := hr
    refine ⟨by split at h1 <;> omega, h2, h3, by split at h4 <;> omega⟩
  obtain ⟨h1, h2, h3, h4⟩ := hb
  obtain ⟨d, hd⟩ : ∃ d : Nat, f.dlc = d := ⟨f.dlc.toNat, by omega⟩
  have R11 := hide (fun W => refOf_any f.id 11 f.id 11 rfl rfl (by omega) (by omega) W)
  have R29 := hide (fun W => refOf_any f.id 29 f.id 29 rfl rfl (by omega) (by omega) W)
  have R4 := hide (fun W => refOf_any d 4 d 4 rfl rfl (by omega) (by omega) W)
  have R8 := hide (fun (c : UInt8) W => refOf_any c.toNat 8 c.toNat 8 rfl rfl (by have := c.toNat_lt; omega) (by omega) W)
  obtain ⟨id, ext, rem, dlc, data⟩ := f
  dsimp only at *
  subst hd
  have hd9 : d ≤ 8 := by omega
  have q0 : Below w.heap.size w (w.alloc (.cells #[.int .u32 id, .bool ext, .bool rem, .int .i64 d, .string data] 31)) := (Below.refl _ _).alloc (Nat.le_refl _) _
  clear hr h2 h3
  have hs11 : (bitsOf id 11).length ≤ 11 := by rw [FP.bitsOf_length]; omega
  have hs29 : (bitsOf id 29).length ≤ 29 := by rw [FP.bitsOf_length]; omega
  have hs29' : 29 ≤ (bitsOf id 29).length := by rw [FP.bitsOf_length]; omega
  have hs4 : (bitsOf d 4).length ≤ 4 := by rw [FP.bitsOf_length]; omega
  have hs8 : ∀ c : UInt8, (bitsOf c.toNat 8).length ≤ 8 := fun c => by rw [FP.bitsOf_length]; omega
  have HS8 := hide hs8
  clear hs8
  have hx : Hid ((⟨(bitsOf id 29).toArray⟩ : ByteArray).extract 0 11 = ⟨(bitsOf (id / 262144) 11).toArray⟩ ∧ (⟨(bitsOf id 29).toArray⟩ : ByteArray).extract 11 (⟨(bitsOf id 29).toArray⟩ : ByteArray).size = ⟨(bitsOf (id % 262144) 18).toArray⟩) := by
    have e := FP.bitsOf_append id 11 18
    have e2 := FP.bitsOf_mod id 18
    have l1 := FP.bitsOf_length (id / 2 ^ 18) 11
    have l2 := FP.bitsOf_length id 18
    constructor
    · rw [ByteArray.ext_iff]
      simp only [ByteArray.data_extract, e]
      simp [l1]
    · rw [ByteArray.ext_iff]
      simp only [ByteArray.data_extract, e, ByteArray.size]
      simp [l1, l2]
      exact e2.symm
  cases ext
  · cases rem
    all_goals
      go_enter Tryz.func22, Tryz.ntmps22
      go_wp2_with fail
      refine (R11.out _).mono ?_
      rintro e1 w1 ⟨rfl, rfl⟩
      go_wp2_with fail
      refine (R4.out _).mono ?_
      rintro e1 w1 ⟨rfl, rfl⟩
      go_wp2
      go_loop [4, 6] (fun s i => ∃ (k : Nat) (l : List UInt8), k ≤ data.size ∧ i = .int .i64 k ∧ s = .string ⟨l.toArray⟩ ∧ l.length ≤ 39 + 8 * k ∧ Hid (l = headK _ k)) (fun _ i => data.size - (intOf i).toNat)
      case atStart => exact ⟨0, _, by omega, rfl, by rw [HK0.out]; simp [idPart, bitB, ByteArray.ext_iff], HKL.out 0, rfl⟩
      case round =>
        obtain ⟨k, l, hk, rfl, rfl, hl, HL⟩ := hrel
        by_cases hlt : k < data.size
        · have h8 := HS8.out data[k]
          have hw8 : IntKind.u64.wrap (data[k].toNat : Int) = (data[k].toNat : Int) := IntWalk.u64_in _ (by have := data[k].toNat_lt; omega)
          have E := hide (HKS.out k hlt)
          have L := hide (HKL.out (k + 1))
          go_wp2_with fail
          (with_reducible refine (R8.out data[k] _).mono ?_)
          rintro e1 w1 ⟨rfl, rfl⟩
          go_wp2
          go_round
          case rel => exact ⟨k + 1, _, by omega, by go_num, by rw [E.out, ← HL.out]; simp [ByteArray.ext_iff], L.out, rfl⟩
          case measure => simp [intOf]; omega
        · obtain rfl : k = data.size := by omega
          have E := hide (HL.out.trans HKF.out)
          go_wp2
          go_ret
          exact ⟨by rw [← E.out]; rfl, q0⟩
  · have hsz : (⟨(bitsOf id 29).toArray⟩ : ByteArray).size = 29 := by simp [ByteArray.size, FP.bitsOf_length]
    have HX := hide hx.out
    rw [hsz] at HX
    generalize (⟨(bitsOf id 29).toArray⟩ : ByteArray) = S at *
    have h11 : (11 : Int) ≤ (S.size : Int) := by omega
    have h11' : 11 ≤ S.size := by omega
    have h29 : S.size ≤ 29 := by omega
    have hx1 : S.extract 11 S.size = S.extract 11 29 := by rw [hsz]
    have y1 : (S.extract 0 11).size ≤ 29 := by rw [ByteArray.size_extract]; omega
    have y2 : (S.extract 11 29).size ≤ 29 := by rw [ByteArray.size_extract]; omega
    generalize S.extract 11 29 = T2 at *
    obtain ⟨T1, hT1⟩ : ∃ T, S.extract 0 11 = T := ⟨_, rfl⟩
    rw [hT1] at y1 HX
    clear hsz hx
    cases rem
    all_goals
      go_enter Tryz.func22, Tryz.ntmps22
      go_wp2_with fail
      refine (R11.out _).mono ?_
      rintro e1 w1 ⟨rfl, rfl⟩
      go_wp2_with fail
      refine (R29.out _).mono ?_
      rintro e1 w1 ⟨rfl, rfl⟩
      go_wp2_with fail
      go_quiet (fail)
      go_wp2_with fail
      refine (R4.out _).mono ?_
      rintro e1 w1 ⟨rfl, rfl⟩
      go_wp2
      go_loop [4, 6] (fun s i => ∃ (k : Nat) (l : List UInt8), k ≤ data.size ∧ i = .int .i64 k ∧ s = .string ⟨l.toArray⟩ ∧ l.length ≤ 39 + 8 * k ∧ Hid (l = headK _ k)) (fun _ i => data.size - (intOf i).toNat)
      case atStart => exact ⟨0, _, by omega, rfl, by rw [HK0.out, HX.out.1, HX.out.2]; simp [idPart, bitB, ByteArray.ext_iff], HKL.out 0, rfl⟩
      case round =>
        obtain ⟨k, l, hk, rfl, rfl, hl, HL⟩ := hrel
        by_cases hlt : k < data.size
        · have h8 := HS8.out data[k]
          have hw8 : IntKind.u64.wrap (data[k].toNat : Int) = (data[k].toNat : Int) := IntWalk.u64_in _ (by have := data[k].toNat_lt; omega)
          have E := hide (HKS.out k hlt)
          have L := hide (HKL.out (k + 1))
          go_wp2_with fail
          (with_reducible refine (R8.out data[k] _).mono ?_)
          rintro e1 w1 ⟨rfl, rfl⟩
          go_wp2
          go_round
          case rel => exact ⟨k + 1, _, by omega, by go_num, by rw [E.out, ← HL.out]; simp [ByteArray.ext_iff], L.out, rfl⟩
          case measure => simp [intOf]; omega
        · obtain rfl : k = data.size := by omega
          have E := hide (HL.out.trans HKF.out)
          go_wp2
          go_ret
          exact ⟨by rw [← E.out]; rfl, below_drewN q0 _⟩
end Go.Proofs.YtjfgapljfbkfiaaGreatDoor
