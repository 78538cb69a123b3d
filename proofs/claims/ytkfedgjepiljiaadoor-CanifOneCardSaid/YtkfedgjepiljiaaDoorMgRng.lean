/- A range over a function whose rounds are known ahead: round k is handed 'enc k', and what holds between two rounds is known to the iterator, too (it may read what the body writes). Nothing of the program's text. -/
import Derived.Test.YtkfedgjepiljiaaDoorMgMem
import Derived.RangeFuncNested
import Derived.RangeFuncBound
import Derived.RangeFuncCalls
import Derived.RangeFuncLeaves
import Derived.RangeFuncWrites
import Derived.OwnWalkIn
import Derived.TacticsInMore
import Derived.LoopNIn
import Derived.LoopIn
import Derived.Test.YtkfedgjepiljiaaDoorMgFrPlain
import Derived.Test.YtkfedgjepiljiaaDoorOwS
namespace Go.Proofs.YtkfedgjepiljiaaDoor
open Go.ChangeShapes Go.WideShapes Go.ChangeAt Go.RowKit

/-- How a round's body is left: it goes on. -/
def roundOn (B : Nat) (I : World → Prop) (W : World) : Exit → Act → World → Prop
  | .normal, _, W' => KeepsFrom B W W' ∧ I W'
  | _, _, _ => False

theorem range_exact {P : Program} {n : Nat} {g : Operand} {ps : Array Tmp} {assign body : Code} {Q : Exit → Act → World → Prop} {a : Act} {w : World} {gf : Nat} {lb : Array Value}
    (hg : a.eval g = .func (.func gf) #[] lb) (eg : ∀ args w, (callFunc gf args).run P w = .ok (.enter gf args) w) (enc : Nat → Array Value) (hps : ∀ k, (enc k).size = ps.size) (N : Nat) (I : Nat → World → Prop)
    (hIa : ∀ k W o, I k W → I k (W.alloc o)) (hIp : ∀ k W l o o', I k W → w.heap.size ≤ l → W.heap[l]? = some o → o.isCells = false → I k (W.putObj l o'))
    (hiter : ∀ (l : Nat) (J : Nat → World → Prop) (W : World), (∀ k W, J k W → I k W) →
      (∀ k W, k < N → J k W → YieldAt Fence.wide (n - 1 - 1) P l (enc k) W fun e W' => e = .returned (.bool true) ∧ J (k + 1) W') → J 0 W →
      CallsIn Fence.wide (n - 1) P gf (#[.func (.yield l) #[] #[]] ++ lb) W fun e W' => (∃ v, e = .returned v) ∧ J N W')
    (h0 : I 0 w) (a₁ : Nat → Act)
    (hassign : ∀ (l k : Nat) (W : World) (K : Act → World → Prop), K (a₁ k) W →
      assign.wpIn (Fence.wide.inRound l) (n - 1 - 1) P (Exit.then K (fun _ _ _ => False)) { tmps := (ps.zip (enc k)).foldl (fun t (p, v) => t.setIfInBounds p v) a.tmps, defers := [] } W)
    (hbody : ∀ (l k : Nat) (W : World), I k W → k < N → body.wpIn (Fence.wide.inRound l) (n - 1 - 1) P (roundOn w.heap.size (I (k + 1)) W) (a₁ k) W)
    (hdone : ∀ (D : Nat) (W : World), I N W → w.heap.size ≤ D → W.heap[D]? = some (.deferred (some [])) → Q .normal { a with defers := { target := .collected D, args := #[] } :: a.defers } W) :
    (Code.rangeFunc g ps assign body).wp P Q a w := by
  refine (wpIn_wide (n := n)).1 (wpIn_rangeFunc ?_)
  intro fn hfn
  rw [Fence.wide_round]
  obtain ⟨rec, hrec⟩ : ∃ rec : LoopState → Option Code → Loop, rec = fun st pe => { state := st, pending := pe, fn, tmps := a.tmps, params := ps, assign, body, defers := w.heap.size } := ⟨_, rfl⟩
  obtain ⟨W1, hW1⟩ : ∃ W1, (w.alloc (.deferred (some []))).alloc (.loop (rec .ready none)) = W1 := ⟨_, rfl⟩
  have hL1 : W1.heap[w.heap.size + 1]? = some (.loop (rec .ready none)) := by
    rw [← hW1]; have := World.alloc_heap_new (w.alloc (.deferred (some []))) (.loop (rec .ready none)); rwa [World.size_alloc] at this
  have hK1 : W1.heap[w.heap.size]? = some (.deferred (some [])) := by
    rw [← hW1]; exact (Below.heap_alloc _ _ _ (by simp)).trans (World.alloc_heap_new w _)
  have hI1 : I 0 W1 := by rw [← hW1]; exact hIa _ _ _ (hIa _ _ _ h0)
  refine ⟨w.heap.size + 1, [{ target := .collected w.heap.size, args := #[] }], W1, { target := .fn (.func gf) lb, args := #[.func (.yield (w.heap.size + 1)) #[] #[]] }, W1, gf,
    #[.func (.yield (w.heap.size + 1)) #[] #[]] ++ lb, W1, ?_, ?_, ?_, ?_, fun h => by simp [Fence.wide] at h, ?_⟩
  · rw [← hW1, hrec]; exact run_enterLoop_outer _ _ _ _ _
  · simp only [resolve, hg]
    simp [go_sem]
  · intro f' _; trivial
  · simp [invoke, go_sem, eg]
  · refine (hiter (w.heap.size + 1)
      (fun k W => I k W ∧ W.heap[w.heap.size + 1]? = some (.loop (rec .ready none)) ∧ W.heap[w.heap.size]? = some (.deferred (some [])))
      W1 (fun _ _ h => h.1) ?_ ⟨hI1, hL1, hK1⟩).mono ?_
    · rintro k W hk ⟨hi, hl, hd⟩
      have hlt : w.heap.size + 1 < W.heap.size := (Array.getElem?_eq_some_iff.1 hl).1
      have hy := run_yield (P := P) (args := enc k) hl (by rw [hrec]; exact hps k)
      rw [hrec] at hy
      refine ⟨fn, _, assign, body, hy, roundIn_of_wpIn hfn (hassign _ k W _ ⟨_, run_beginRound hl (by rw [hrec]), ?_⟩)⟩
      have hl2 : (W.putObj (w.heap.size + 1) (.loop { rec .ready none with state := .busy })).heap[w.heap.size + 1]? = some (.loop { rec .ready none with state := .busy }) := World.putObj_heap_same hlt
      have hk2 : (W.putObj (w.heap.size + 1) (.loop { rec .ready none with state := .busy })).heap[w.heap.size]? = some (.deferred (some [])) := (World.putObj_heap_other (by omega)).trans hd
      refine wpIn_mono (hbody _ k _ (hIp _ _ _ _ _ hi (by omega) hl rfl) hk) ?_
      rintro e a3 W3 hp
      cases e with
      | normal =>
        obtain ⟨hk3, hi3⟩ := hp
        have hl3 := hk3.same _ _ (by omega) hl2 rfl
        have hd3 := hk3.same _ _ (by omega) hk2 rfl
        have hr := run_endRound (P := P) none hl3
        refine ⟨_, _, hr, rfl, hIp _ _ _ _ _ hi3 (by omega) hl3 rfl, ?_, (World.putObj_heap_other (by omega)).trans hd3⟩
        have := World.putObj_heap_same (o := .loop (rec .ready none)) (Array.getElem?_eq_some_iff.1 hl3).1
        rw [hrec] at this ⊢
        exact this
      | ret => exact hp.elim
      | exit id => exact hp.elim
      | goto t => exact hp.elim
      | panic ch => exact hp.elim
      | outgrown => exact hp.elim
    · rintro e W2 ⟨⟨v, rfl⟩, hi, hl, hk⟩
      exact ⟨none, _, by have := run_endLoop (P := P) hl (by rw [hrec]; simp); rw [hrec] at this; exact this, hdone _ _ (hIp _ _ _ _ _ hi (by omega) hl rfl) (Nat.le_refl _) ((World.putObj_heap_other (by omega)).trans hk)⟩
end Go.Proofs.YtkfedgjepiljiaaDoor

/- prio.contest: the bits that the bus has, round by round. -/
namespace Go.Proofs.YtkfedgjepiljiaaDoor
open Go.ChangeShapes Go.WideShapes Go.ChangeAt Go.RowKit
open FP (bit bitsOf Fr bitB)
attribute [local go_sem] Oper.semAt_some

def byteAtP (S : ByteArray) (k : Nat) : Int := if h : k < S.size then (S[k].toNat : Int) else 0
def busN (S : Nat → ByteArray) (x : Nat → Int) (k : Nat) : Nat → Int
  | 0 => 49
  | i + 1 => if x i < 0 ∧ k < (S i).size then min (busN S x k i) (byteAtP (S i) k) else busN S x k i
def lostN (S : Nat → ByteArray) (n : Nat) : Nat → Nat → Int
  | 0, _ => -1
  | k + 1, j => if lostN S n k j < 0 ∧ k < (S j).size ∧ busN S (lostN S n k) k n < byteAtP (S j) k then (k : Int) else lostN S n k j

theorem run_min8 {P : Program} (x y : Int) : ∃ m, m = min x y ∧ ∀ (ts : Array TypeId) (t : TypeId) (W : World), (Builtin.min_ ts t #[.int .u8 x, .int .u8 y]).run P W = .ok (.int .u8 m) W :=
  ⟨_, rfl, fun ts t W => by
    rw [run_min_int2]
    congr 2
    split <;> omega⟩

theorem byteAt_lt {S : ByteArray} {k : Nat} (h : k < S.size) : byteAtP S k = (S[k].toNat : Int) := dif_pos h

def InB (S : Nat → ByteArray) (x : Nat → Int) (k n : Nat) (i b : Value) : Prop := ∃ p : Nat, p ≤ n ∧ i = .int .i64 p ∧ b = .int .u8 (busN S x k p)

end Go.Proofs.YtkfedgjepiljiaaDoor

/- prio.Contest. -/
namespace Go.Proofs.YtkfedgjepiljiaaDoor
open Go.ChangeShapes Go.WideShapes Go.ChangeAt Go.RowKit
open FP (bit bitsOf Fr bitB)
attribute [local go_sem] Oper.semAt_some

def fstr (f : Fr) : ByteArray := ⟨(fieldF f).toArray⟩
def strRows (l : List Fr) : List (List Value) := l.map fun f => [.string (fstr f)]
def oneRows (n : Nat) : List (List Value) := List.replicate n [.int .i64 (-1)]

section
variable {B : Nat} {w : World} {v1 v2 : Value} {A1 A2 A' : Option Addr} {c1 c2 c' n : Nat} {r1 r2 r' : List (List Value)} {W W' : World}
end

theorem strRows_snoc {l : List Fr} {k : Nat} (h : k < l.length) : strRows (l.take (k + 1)) = strRows (l.take k) ++ [[.string (fstr l[k])]] := by
  unfold strRows
  rw [List.take_succ_eq_append_getElem h, List.map_append]
  rfl
theorem oneRows_snoc (k : Nat) : oneRows (k + 1) = oneRows k ++ [[.int .i64 (-1)]] := by simp [oneRows, List.replicate_succ']

def readyC (B x : Nat) (v1 v2 : Value) (fo : Obj) : Nat → World → Prop
  | 0, W => W.cell? ⟨B, 0, none⟩ = some v1
  | 1, W => W.heap[x]? = some fo
  | _, W => W.cell? ⟨B + 1, 0, none⟩ = some v2

theorem keepsC9 {md : Region.Mode} {ops : Array Oper} {w w' : World} {R : Nat → World → Prop} (h0 : mayAhead md ops 0 9 = false) (h1 : mayAhead md ops 1 9 = false) (h5 : mayAhead md ops 5 9 = false) :
    keeps md ops [0, 1, 5] R 9 w w' := ⟨fun h => absurd h (by decide), fun _ i hi hm => by
  simp only [List.mem_cons, List.not_mem_nil, or_false] at hi
  rcases hi with rfl | rfl | rfl
  · rw [h0] at hm; cases hm
  · rw [h1] at hm; cases hm
  · rw [h5] at hm; cases hm⟩

theorem own_putC {W : World} {base e sz : Nat} {A : Option Addr} {c : Nat} {r : List (List Value)} (h : Own W base e sz A c r) {l : Nat} {o o' : Obj} (ho : W.heap[l]? = some o) (hc : o.isCells = false) : Own (W.putObj l o') base e sz A c r := by
  refine World.ownsRow.kept h (grownBy_putObj' W l o') ?_
  rcases h.2 with ⟨hv, _⟩ | ⟨g, cap, cur, hv, _, hgh, _⟩
  · rw [hv]; exact .inl rfl
  · rw [hv]
    refine .inr ?_
    simp only [Value.ownBlock, ne_eq, Option.some.injEq]
    rintro rfl
    rw [ho] at hgh
    injection hgh with hgh
    subst hgh
    cases hc
theorem heap_putC {W : World} {x l : Nat} {o o' : Obj} {cs : Array Value} {t : TypeId} {fz : Nat × Nat} (h : W.heap[x]? = some (.cells cs t fz)) (ho : W.heap[l]? = some o) (hc : o.isCells = false) : (W.putObj l o').heap[x]? = some (.cells cs t fz) := by
  have : x ≠ l := by
    rintro rfl
    rw [ho] at h
    injection h with h
    subst h
    cases hc
  rw [World.putObj_heap_other this]
  exact h
theorem heap_set {W : World} {x g i : Nat} {v : Value} (h : x ≠ g) : (W.setCell ⟨g, i, none⟩ v).heap[x]? = W.heap[x]? := heap_setCell_other W ⟨g, i, none⟩ x v h

section
variable {B : Nat} {w : World} {v1 v2 : Value} {A1 A2 : Option Addr} {c1 c2 : Nat} {r1 r2 r' : List (List Value)} {W : World}
end

/-! ### the row of fields, and of where they lose -/
def SF (l : List Fr) (j : Nat) : ByteArray := if h : j < l.length then fstr l[j] else ⟨#[]⟩
theorem SF_lt {l : List Fr} {j : Nat} (h : j < l.length) : SF l j = fstr l[j] := dif_pos h
def intRows (n : Nat) (x : Nat → Int) : List (List Value) := (List.range n).map fun j => [.int .i64 (x j)]
theorem intRows_len (n : Nat) (x : Nat → Int) : (intRows n x).length = n := by simp [intRows]
theorem intRows_one (n : Nat) : oneRows n = intRows n (fun _ => -1) := by
  apply List.ext_getElem
  · simp [oneRows, intRows]
  · intro i h1 h2; simp [oneRows, intRows]
theorem flat_ones {α : Type} (l : List α) (f : α → Value) : (l.map fun x => [f x]).flatten = l.map f := by
  induction l with
  | nil => rfl
  | cons x l ih => simp [ih]
theorem intRows_flat (n : Nat) (x : Nat → Int) : (intRows n x).flatten = (List.range n).map fun j => .int .i64 (x j) := flat_ones _ _
theorem intRows_set (n : Nat) (x y : Nat → Int) (i : Nat) (v : Int) (hi : y i = v) (ho : ∀ j, j ≠ i → y j = x j) : (intRows n y).flatten = (intRows n x).flatten.set i (.int .i64 v) := by
  rw [intRows_flat, intRows_flat]
  apply List.ext_getElem
  · simp
  · intro j h1 h2
    simp only [List.getElem_map, List.getElem_range, List.getElem_set]
    split
    · rename_i h; subst h; rw [hi]
    · rename_i h; rw [ho j (fun e => h e.symm)]
theorem intRows_congr {n : Nat} {x y : Nat → Int} (h : ∀ j, j < n → x j = y j) : intRows n x = intRows n y := by
  unfold intRows
  apply List.map_congr_left
  intro j hj
  rw [h j (List.mem_range.1 hj)]
theorem own_cells {W : World} {base e : Nat} {g c : Nat} {r : List (List Value)} (h : Own W base e 1 (some ⟨g, 0, none⟩) c r) {j : Nat} {v : Value} (hv : r.flatten[j]? = some v) : W.cell? ⟨g, j, none⟩ = some v := by
  have := World.ownsRow.cells h (g := g) rfl j v hv
  rw [Go.WideShapes.add_plain, Nat.zero_add] at this
  exact this
theorem strRows_flat (l : List Fr) (j : Nat) (h : j < l.length) : (strRows l).flatten[j]? = some (.string (SF l j)) := by
  unfold strRows
  rw [flat_ones, List.getElem?_map, List.getElem?_eq_getElem h, SF_lt h]
  rfl
theorem intRows_at {n : Nat} {x : Nat → Int} {j : Nat} (h : j < n) : (intRows n x).flatten[j]? = some (.int .i64 (x j)) := by
  rw [intRows_flat, List.getElem?_map, List.getElem?_range h]
  rfl

section
variable {w W : World} {l : List Fr} {g1 c1 g2 c2 x3 : Nat} {x y : Nat → Int}
end

set_option maxRecDepth 100000 in
theorem frame_loads (W : World) (x : Nat) (f : Fr) (h : W.heap[x]? = some (.cells #[.int .u32 f.id, .bool f.ext, .bool f.rem, .int .i64 f.dlc, .string f.data] 24 (0, 0))) (ev : Operand → Value) (hev : ev (.tmp 9) = .pointer (some ⟨x, 0, none⟩)) (p : String) (d : Option Nat) (ty : Nat) (af : Array Edge) :
    (execOp ev { dst := d, op := .load 24 (.tmp 9), type := ty, pos := p, after := af, guard := none }).run Tryd.prog W = .ok (.value (.agg #[.int .u32 f.id, .bool f.ext, .bool f.rem, .int .i64 f.dlc, .string f.data])) W := by
  have c0 : W.cell? ⟨x, 0, none⟩ = some (.int .u32 f.id) := by simp [World.cell?, h]
  have c1 : W.cell? ⟨x, 1, none⟩ = some (.bool f.ext) := by simp [World.cell?, h]
  have c2 : W.cell? ⟨x, 2, none⟩ = some (.bool f.rem) := by simp [World.cell?, h]
  have c3 : W.cell? ⟨x, 3, none⟩ = some (.int .i64 f.dlc) := by simp [World.cell?, h]
  have c4 : W.cell? ⟨x, 4, none⟩ = some (.string f.data) := by simp [World.cell?, h]
  clear h
  obtain ⟨id, ext, rem, dlc, data⟩ := f
  dsimp only at *
  simp only [execOp, hev]
  go_simp

theorem lostN_succ (S : Nat → ByteArray) (n k j : Nat) : lostN S n (k + 1) j = if lostN S n k j < 0 ∧ k < (S j).size ∧ busN S (lostN S n k) k n < byteAtP (S j) k then (k : Int) else lostN S n k j := rfl
/-- Round k's row, when its first p have been gone through. -/
def mixN (l : List Fr) (k p j : Nat) : Int := if j < p then lostN (SF l) l.length (k + 1) j else lostN (SF l) l.length k j
theorem mixN_zero (l : List Fr) (k j : Nat) : mixN l k 0 j = lostN (SF l) l.length k j := by simp [mixN]
theorem mixN_at (l : List Fr) (k p : Nat) : mixN l k p p = lostN (SF l) l.length k p := by simp [mixN]
theorem mixN_new (l : List Fr) (k p : Nat) : mixN l k (p + 1) p = lostN (SF l) l.length (k + 1) p := by simp [mixN]
theorem mixN_old (l : List Fr) (k p j : Nat) (h : j ≠ p) : mixN l k (p + 1) j = mixN l k p j := by
  unfold mixN
  by_cases h1 : j < p
  · rw [if_pos h1, if_pos (by omega)]
  · rw [if_neg h1, if_neg (by omega)]
theorem mixN_same (l : List Fr) (k p j : Nat) (h : lostN (SF l) l.length (k + 1) p = lostN (SF l) l.length k p) : mixN l k (p + 1) j = mixN l k p j := by
  by_cases hj : j = p
  · subst hj; rw [mixN_new, mixN_at, h]
  · exact mixN_old l k p j hj
theorem mixN_full (l : List Fr) (k j : Nat) (h : j < l.length) : mixN l k l.length j = lostN (SF l) l.length (k + 1) j := by simp [mixN, h]

/-- Those among the first k that have not lost. -/
def leftIdx (x : Nat → Int) (k : Nat) : List Nat := (List.range k).filter fun j => decide (x j < 0)
def leftRows (x : Nat → Int) (k : Nat) : List (List Value) := (leftIdx x k).map fun (j : Nat) => [.int .i64 (j : Int)]
theorem leftIdx_le (x : Nat → Int) (k : Nat) : (leftIdx x k).length ≤ k := by
  have := List.length_filter_le (fun j => decide (x j < 0)) (List.range k)
  rw [List.length_range] at this
  exact this
theorem leftIdx_in {x : Nat → Int} {k : Nat} (h : x k < 0) : leftIdx x (k + 1) = leftIdx x k ++ [k] := by
  unfold leftIdx
  rw [List.range_succ, List.filter_append]
  simp [h]
theorem leftIdx_out {x : Nat → Int} {k : Nat} (h : ¬ x k < 0) : leftIdx x (k + 1) = leftIdx x k := by
  unfold leftIdx
  rw [List.range_succ, List.filter_append]
  simp [h]
theorem leftRows_one (x : Nat → Int) (k : Nat) : ∀ r ∈ leftRows x k, r.length = 1 := by intro r hr; obtain ⟨j, _, rfl⟩ := List.mem_map.1 hr; rfl

/-- Where each of l loses; below 0: nowhere. -/
def lostF (l : List Fr) : Nat → Int := lostN (SF l) l.length 32
def ContestV (l : List Fr) (w : World) (e : Ending) (w' : World) : Prop :=
  ∃ AL cL AT cT, e = .returned (.tuple #[.slice AL (leftIdx (lostF l) l.length).length cL, .slice AT l.length cT, .int .i64 0]) ∧
    Rd w' w'.heap.size AL 1 (leftRows (lostF l) l.length) ∧ Rd w' w'.heap.size AT 1 (intRows l.length (lostF l)) ∧ Below w.heap.size w w'

end Go.Proofs.YtkfedgjepiljiaaDoor
