/- Plain: controllers on one bus, bit by bit. -/
import Derived.Test.YthkilodnghiocaaGreatDoorMgCsL
import Derived.Test.YthkilodnghiocaaGreatDoorCsOP
import Derived.Test.YthkilodnghiocaaGreatDoorMgIfP
import Derived.Test.YthkilodnghiocaaGreatDoorMgRdD
import Derived.Test.YthkilodnghiocaaGreatDoorMgOff
import Derived.Test.YthkilodnghiocaaGreatDoorOwS
import Derived.Test.YthkilodnghiocaaGreatDoorMgMem
namespace Go.Proofs.YthkilodnghiocaaGreatDoor
open Go.ChangeShapes Go.WideShapes Go.ChangeAt Go.RowKit
open FP (Fr bitsF bodyF tenF)

/-- What a bus has. -/
def lvlB (l : List Cl) : UInt8 := if l.any (fun c => c.drv == 48) = true then 48 else 49
def evB (l : List Cl) : List Mc := l.map fun c => c.samp (lvlB l)
def stpB (l : List Cl) : List Cl := (evB l).map Mc.c
/-- What was seen: when, at which, and what. -/
structure Sn where
  at_ : Int
  who : Int
  kind : Int
  ef : Fr
  bad : Int
def seens (now : Int) : Nat → List Mc → List Sn
  | _, [] => []
  | k, m :: l => if m.kind = 0 then seens now (k + 1) l else ⟨now, k, m.kind, m.ef, m.bad⟩ :: seens now (k + 1) l
/-- Behind k bits. -/
def itB (l : List Cl) : Nat → List Cl
  | 0 => l
  | k + 1 => stpB (itB l k)
def snB (l : List Cl) (now : Int) : Nat → List Sn
  | 0 => []
  | k + 1 => snB l now k ++ seens (now + k) 0 (evB (itB l k))
theorem lvl_bit (l : List Cl) : lvlB l = 48 ∨ lvlB l = 49 := by unfold lvlB; split; exact .inl rfl; exact .inr rfl
theorem stp_len (l : List Cl) : (stpB l).length = l.length := by simp [stpB, evB]
theorem it_len (l : List Cl) : ∀ k, (itB l k).length = l.length
  | 0 => rfl
  | k + 1 => by rw [itB, stp_len, it_len l k]
theorem it_add (l : List Cl) (a : Nat) : ∀ z, itB l (a + z) = itB (itB l a) z
  | 0 => rfl
  | z + 1 => by rw [← Nat.add_assoc, itB, itB, it_add l a z]
theorem sn_add (l : List Cl) (now : Int) (a : Nat) : ∀ z, snB l now (a + z) = snB l now a ++ snB (itB l a) (now + a) z
  | 0 => by simp [snB]
  | z + 1 => by
    rw [← Nat.add_assoc, snB, snB, sn_add l now a z, it_add l a z, List.append_assoc]
    congr 3
    omega
def AllOk (l : List Cl) : Prop := ∀ c ∈ l, c.Ok
theorem AllOk.stp {l : List Cl} (h : AllOk l) : AllOk (stpB l) := by
  intro c hc
  unfold stpB evB at hc
  rw [List.map_map, List.mem_map] at hc
  obtain ⟨d, hd, rfl⟩ := hc
  exact (h d hd).samp _ (lvl_bit l)
theorem AllOk.it {l : List Cl} (h : AllOk l) : ∀ k, AllOk (itB l k)
  | 0 => h
  | k + 1 => (AllOk.it h k).stp
theorem seens_snoc (now : Int) (m : Mc) : ∀ (l : List Mc) (k : Nat), seens now k (l ++ [m]) = seens now k l ++ (if m.kind = 0 then [] else [⟨now, (k + l.length : Nat), m.kind, m.ef, m.bad⟩])
  | [], k => by
    simp only [List.nil_append, seens, List.length_nil, Nat.add_zero]
  | a :: l, k => by
    have h := seens_snoc now m l (k + 1)
    simp only [List.cons_append, seens, h, List.length_cons]
    rw [show k + 1 + l.length = k + (l.length + 1) by omega]
    split <;> simp
theorem seens_le (now : Int) : ∀ (l : List Mc) (k : Nat), (seens now k l).length ≤ l.length
  | [], _ => by simp [seens]
  | a :: l, k => by
    have := seens_le now l (k + 1)
    simp only [seens]
    split <;> simp only [List.length_cons] <;> omega
theorem sn_le (l : List Cl) (now : Int) : ∀ k, (snB l now k).length ≤ k * l.length
  | 0 => by simp [snB]
  | k + 1 => by
    have h1 := sn_le l now k
    have h2 := seens_le (now + k) (evB (itB l k)) 0
    have h3 : (evB (itB l k)).length = l.length := by simp [evB, it_len]
    rw [snB, List.length_append, Nat.add_mul]
    omega
end Go.Proofs.YthkilodnghiocaaGreatDoor

/- Plain: what stuffing makes of a row, bit by bit, and back. -/
namespace Go.Proofs.YthkilodnghiocaaGreatDoor.FP

/-- Bits without an error of stuffing, and what is known behind them. -/
structure Rst (x : List UInt8) (r : RS) : Prop where
  n5 : r.n ≤ 5
  bit : r.n = 0 ∨ r.last = 48 ∨ r.last = 49
  low : r.n < 5 → (stuffS r.got).out = x ∧ (stuffS r.got).last = r.last ∧ (stuffS r.got).n = r.n
  five : r.n = 5 → (stuffS r.got).out = x ++ [oth r.last] ∧ (stuffS r.got).last = oth r.last ∧ (stuffS r.got).n = 1
theorem Rst.nil : Rst [] rs0 := ⟨by decide, .inl rfl, fun _ => ⟨rfl, rfl, rfl⟩, fun h => absurd h (by decide)⟩
theorem oth_unlike {a b : UInt8} (ha : a = 48 ∨ a = 49) (hb : b = 48 ∨ b = 49) (h : b ≠ a) : oth a = b := by
  rcases ha with rfl | rfl <;> rcases hb with rfl | rfl <;> first | exact absurd rfl h | decide
theorem Rst.step {x : List UInt8} {r : RS} (h : Rst x r) {b : UInt8} (hb : b = 48 ∨ b = 49) (he : uK r.last r.n b ≠ 3) : Rst (x ++ [b]) (rsStep r b) := by
  by_cases hn : r.n = 5
  · have hne : b ≠ r.last := by
      intro e
      unfold uK at he
      rw [if_pos hn, if_pos e] at he
      exact he rfl
    have hl : r.last = 48 ∨ r.last = 49 := by
      rcases h.bit with h | h | h
      · omega
      · exact .inl h
      · exact .inr h
    have ho := oth_unlike hl hb hne
    have e : rsStep r b = ⟨b, 1, r.got⟩ := by
      unfold rsStep uN uK
      rw [if_pos hn, if_neg hne, if_pos hn, if_neg hne]
      rfl
    rw [e]
    obtain ⟨h1, h2, h3⟩ := h.five hn
    rw [ho] at h1 h2
    exact ⟨(by decide : 1 ≤ 5), .inr hb, fun _ => ⟨h1, h2, h3⟩, fun e => absurd e (by decide : ¬ (1 : Nat) = 5)⟩
  · have hlt : r.n < 5 := by have := h.n5; omega
    obtain ⟨u1, u2⟩ := uN_less (last := r.last) hlt b
    have e : rsStep r b = ⟨b, if b = r.last then r.n + 1 else 1, r.got ++ [b]⟩ := by
      unfold rsStep
      rw [u1, u2, if_pos rfl]
    obtain ⟨h1, h2, h3⟩ := h.low hlt
    have hs : ssN (stuffS r.got) b = if b = r.last then r.n + 1 else 1 := by unfold ssN; rw [h2, h3]
    rw [e]
    by_cases h5 : (if b = r.last then r.n + 1 else 1) = 5
    · obtain ⟨s1, s2, s3, _⟩ := ssStep_five (s := stuffS r.got) (c := b) (by rw [hs]; exact h5)
      refine ⟨by show (if b = r.last then r.n + 1 else 1) ≤ 5; omega, .inr hb, fun q => absurd q (by show ¬ (if b = r.last then r.n + 1 else 1) < 5; omega), fun _ => ?_⟩
      show (stuffS (r.got ++ [b])).out = x ++ [b] ++ [oth b] ∧ (stuffS (r.got ++ [b])).last = oth b ∧ (stuffS (r.got ++ [b])).n = 1
      rw [stuffS_snoc, s3, h1]
      exact ⟨rfl, s1, s2⟩
    · obtain ⟨s1, s2, s3, _⟩ := ssStep_less (s := stuffS r.got) (c := b) (by rw [hs]; exact h5)
      refine ⟨by show (if b = r.last then r.n + 1 else 1) ≤ 5; split <;> omega, .inr hb, fun _ => ?_, fun q => absurd q h5⟩
      show (stuffS (r.got ++ [b])).out = x ++ [b] ∧ (stuffS (r.got ++ [b])).last = b ∧ (stuffS (r.got ++ [b])).n = (if b = r.last then r.n + 1 else 1)
      rw [stuffS_snoc, s3, h1]
      exact ⟨rfl, s1, by rw [s2, hs]⟩
theorem Rst.body {x : List UInt8} {r : RS} (h : Rst x r) (hn : r.n < 5) : x = stuffF r.got := (h.low hn).1.symm
theorem Rst.one : Rst [48] ⟨48, 1, [48]⟩ := Rst.step Rst.nil (.inl rfl) (by decide)

/-- What is known behind a row that was stuffed. -/
theorem rs_of_stuff_rev : ∀ q p : List UInt8, p = q.reverse → (∀ c ∈ p, c = 48 ∨ c = 49) → rsOf (stuffS p).out = ⟨(stuffS p).last, (stuffS p).n, p⟩ ∧ (stuffS p).n < 5 := by
  intro q
  induction q with
  | nil => intro p hp _; rw [hp]; exact ⟨rfl, by decide⟩
  | cons c q ih =>
    intro p' hp hb
    rw [List.reverse_cons] at hp
    subst hp
    generalize hq : q.reverse = p at *
    have ih := ih p rfl
    obtain ⟨h1, h2⟩ := ih (fun d hd => hb d (by simp [hd]))
    clear ih
    have hc : c = 48 ∨ c = 49 := hb c (by simp)
    obtain ⟨u1, u2⟩ := uN_less (last := (stuffS p).last) h2 c
    have e : rsStep ⟨(stuffS p).last, (stuffS p).n, p⟩ c = ⟨c, ssN (stuffS p) c, p ++ [c]⟩ := by
      unfold rsStep
      rw [u1, u2, if_pos rfl]
      rfl
    rw [stuffS_snoc]
    by_cases h5 : ssN (stuffS p) c = 5
    · obtain ⟨s1, s2, s3, _⟩ := ssStep_five (s := stuffS p) (c := c) h5
      rw [s1, s2, s3, rsOf_snoc, rsOf_snoc, h1, e, h5]
      obtain ⟨v1, v2⟩ := uN_five hc
      refine ⟨?_, by decide⟩
      unfold rsStep
      rw [v1, v2, if_neg (by decide)]
    · obtain ⟨s1, s2, s3, _⟩ := ssStep_less (s := stuffS p) (c := c) h5
      rw [s1, s2, s3, rsOf_snoc, h1, e]
      refine ⟨rfl, ?_⟩
      exact ite_lt5 h2 h5
theorem rs_of_stuff (p : List UInt8) (h : ∀ c ∈ p, c = 48 ∨ c = 49) : rsOf (stuffS p).out = ⟨(stuffS p).last, (stuffS p).n, p⟩ ∧ (stuffS p).n < 5 :=
  rs_of_stuff_rev p.reverse p (by simp) h
/-- A row is stuffed bit by bit. -/
theorem stuff_split (p : List UInt8) (c : UInt8) (m : List UInt8) : ∃ t, stuffF (p ++ c :: m) = (stuffS p).out ++ c :: t := by
  have h : stuffF (p ++ c :: m) = (m.foldl ssStep (ssStep (stuffS p) c)).out := by
    unfold stuffF stuffS
    rw [List.foldl_append, List.foldl_cons]
  rw [h, stuff_tl]
  by_cases h5 : ssN (stuffS p) c = 5
  · obtain ⟨s1, s2, s3, _⟩ := ssStep_five (s := stuffS p) (c := c) h5
    rw [s3]
    exact ⟨oth c :: tlF (ssStep (stuffS p) c).last (ssStep (stuffS p) c).n m, by simp⟩
  · obtain ⟨s1, s2, s3, _⟩ := ssStep_less (s := stuffS p) (c := c) h5
    rw [s3]
    exact ⟨tlF (ssStep (stuffS p) c).last (ssStep (stuffS p) c).n m, by simp⟩
/-- A row that is a frame's, with its sum. -/
theorem good_only {l : List UInt8} (hb : ∀ c ∈ l, c = 48 ∨ c = 49) (hg : goodB l = true) : l = sumF (headF (readV (headOf l))) ∧ rightB (readV (headOf l)) = true := by
  unfold goodB at hg
  rw [Bool.and_eq_true, Bool.and_eq_true, decide_eq_true_eq, decide_eq_true_eq] at hg
  obtain ⟨⟨h15, hc⟩, hr⟩ := hg
  have h1 := (crc_law h15 hb).1 hc
  rw [(read_yes hr).1]
  unfold readB at hr
  rw [Bool.and_eq_true, Bool.and_eq_true, decide_eq_true_eq] at hr
  exact ⟨by rw [hr.2.2]; exact h1.symm, hr.2.1⟩
end Go.Proofs.YthkilodnghiocaaGreatDoor.FP

/- prio.contest: the bits that the bus has, round by round. -/
namespace Go.Proofs.YthkilodnghiocaaGreatDoor
open Go.ChangeShapes Go.WideShapes Go.ChangeAt Go.RowKit
open FP (bit bitsOf Fr bitB)
attribute [local go_sem] Oper.semAt_some

def byteAtP (S : ByteArray) (k : Nat) : Int := if h : k < S.size then (S[k].toNat : Int) else 0
def busN (S : Nat → ByteArray) (x : Nat → Int) (k : Nat) : Nat → Int
  | 0 => 49
  | i + 1 => if x i < 0 ∧ k < (S i).size then min (busN S x k i) (byteAtP (S i) k) else busN S x k i
def lostN (S : Nat → ByteArray) (n : Nat) : Nat → Nat → Int
  | 0, _ => -1
  | k + 1, j => if lostN S n k j < 0 ∧ k < (S j).size ∧ busN S (lostN S n k) k n < byteAtP (S j) k then (k : Int) else lostN S n k j

theorem run_min8 {P : Program} (x y : Int) : ∃ m, m = min x y ∧ ∀ (ts : Array TypeId) (t : TypeId) (W : World), (Builtin.min_ ts t #[.int .u8 x, .int .u8 y]).run P W = .ok (.int .u8 m) W :=
  ⟨_, rfl, fun ts t W => by
    rw [run_min_int2]
    congr 2
    split <;> omega⟩

theorem byteAt_lt {S : ByteArray} {k : Nat} (h : k < S.size) : byteAtP S k = (S[k].toNat : Int) := dif_pos h

def InB (S : Nat → ByteArray) (x : Nat → Int) (k n : Nat) (i b : Value) : Prop := ∃ p : Nat, p ≤ n ∧ i = .int .i64 p ∧ b = .int .u8 (busN S x k p)

end Go.Proofs.YthkilodnghiocaaGreatDoor

/- prio.Contest. -/
namespace Go.Proofs.YthkilodnghiocaaGreatDoor
open Go.ChangeShapes Go.WideShapes Go.ChangeAt Go.RowKit
open FP (bit bitsOf Fr bitB)
attribute [local go_sem] Oper.semAt_some

def fstr (f : Fr) : ByteArray := ⟨(fieldF f).toArray⟩
def strRows (l : List Fr) : List (List Value) := l.map fun f => [.string (fstr f)]
def oneRows (n : Nat) : List (List Value) := List.replicate n [.int .i64 (-1)]

theorem slStr : SlT Tryz.prog 22 9 1 16 := SlT.mk Tryz.underlying22 (z := .string ⟨#[]⟩) (by kernel_rfl) rfl (by decide)
section
variable {B : Nat} {w : World} {v1 v2 : Value} {A1 A2 A' : Option Addr} {c1 c2 c' n : Nat} {r1 r2 r' : List (List Value)} {W W' : World}
end

theorem strRows_snoc {l : List Fr} {k : Nat} (h : k < l.length) : strRows (l.take (k + 1)) = strRows (l.take k) ++ [[.string (fstr l[k])]] := by
  unfold strRows
  rw [List.take_succ_eq_append_getElem h, List.map_append]
  rfl
theorem oneRows_snoc (k : Nat) : oneRows (k + 1) = oneRows k ++ [[.int .i64 (-1)]] := by simp [oneRows, List.replicate_succ']

def readyC (B x : Nat) (v1 v2 : Value) (fo : Obj) : Nat → World → Prop
  | 0, W => W.cell? ⟨B, 0, none⟩ = some v1
  | 1, W => W.heap[x]? = some fo
  | _, W => W.cell? ⟨B + 1, 0, none⟩ = some v2

theorem keepsC9 {md : Region.Mode} {ops : Array Oper} {w w' : World} {R : Nat → World → Prop} (h0 : mayAhead md ops 0 9 = false) (h1 : mayAhead md ops 1 9 = false) (h5 : mayAhead md ops 5 9 = false) :
    keeps md ops [0, 1, 5] R 9 w w' := ⟨fun h => absurd h (by decide), fun _ i hi hm => by
  simp only [List.mem_cons, List.not_mem_nil, or_false] at hi
  rcases hi with rfl | rfl | rfl
  · rw [h0] at hm; cases hm
  · rw [h1] at hm; cases hm
  · rw [h5] at hm; cases hm⟩

theorem own_putC {W : World} {base e sz : Nat} {A : Option Addr} {c : Nat} {r : List (List Value)} (h : Own W base e sz A c r) {l : Nat} {o o' : Obj} (ho : W.heap[l]? = some o) (hc : o.isCells = false) : Own (W.putObj l o') base e sz A c r := by
  refine World.ownsRow.kept h (grownBy_putObj' W l o') ?_
  rcases h.2 with ⟨hv, _⟩ | ⟨g, cap, cur, hv, _, hgh, _⟩
  · rw [hv]; exact .inl rfl
  · rw [hv]
    refine .inr ?_
    simp only [Value.ownBlock, ne_eq, Option.some.injEq]
    rintro rfl
    rw [ho] at hgh
    injection hgh with hgh
    subst hgh
    cases hc
theorem heap_putC {W : World} {x l : Nat} {o o' : Obj} {cs : Array Value} {t : TypeId} {fz : Nat × Nat} (h : W.heap[x]? = some (.cells cs t fz)) (ho : W.heap[l]? = some o) (hc : o.isCells = false) : (W.putObj l o').heap[x]? = some (.cells cs t fz) := by
  have : x ≠ l := by
    rintro rfl
    rw [ho] at h
    injection h with h
    subst h
    cases hc
  rw [World.putObj_heap_other this]
  exact h
theorem heap_set {W : World} {x g i : Nat} {v : Value} (h : x ≠ g) : (W.setCell ⟨g, i, none⟩ v).heap[x]? = W.heap[x]? := heap_setCell_other W ⟨g, i, none⟩ x v h

section
variable {B : Nat} {w : World} {v1 v2 : Value} {A1 A2 : Option Addr} {c1 c2 : Nat} {r1 r2 r' : List (List Value)} {W : World}
end

/-! ### the row of fields, and of where they lose -/
def SF (l : List Fr) (j : Nat) : ByteArray := if h : j < l.length then fstr l[j] else ⟨#[]⟩
theorem SF_lt {l : List Fr} {j : Nat} (h : j < l.length) : SF l j = fstr l[j] := dif_pos h
def intRows (n : Nat) (x : Nat → Int) : List (List Value) := (List.range n).map fun j => [.int .i64 (x j)]
theorem intRows_len (n : Nat) (x : Nat → Int) : (intRows n x).length = n := by simp [intRows]
theorem intRows_one (n : Nat) : oneRows n = intRows n (fun _ => -1) := by
  apply List.ext_getElem
  · simp [oneRows, intRows]
  · intro i h1 h2; simp [oneRows, intRows]
theorem flat_ones {α : Type} (l : List α) (f : α → Value) : (l.map fun x => [f x]).flatten = l.map f := by
  induction l with
  | nil => rfl
  | cons x l ih => simp [ih]
theorem intRows_flat (n : Nat) (x : Nat → Int) : (intRows n x).flatten = (List.range n).map fun j => .int .i64 (x j) := flat_ones _ _
theorem intRows_set (n : Nat) (x y : Nat → Int) (i : Nat) (v : Int) (hi : y i = v) (ho : ∀ j, j ≠ i → y j = x j) : (intRows n y).flatten = (intRows n x).flatten.set i (.int .i64 v) := by
  rw [intRows_flat, intRows_flat]
  apply List.ext_getElem
  · simp
  · intro j h1 h2
    simp only [List.getElem_map, List.getElem_range, List.getElem_set]
    split
    · rename_i h; subst h; rw [hi]
    · rename_i h; rw [ho j (fun e => h e.symm)]
theorem intRows_congr {n : Nat} {x y : Nat → Int} (h : ∀ j, j < n → x j = y j) : intRows n x = intRows n y := by
  unfold intRows
  apply List.map_congr_left
  intro j hj
  rw [h j (List.mem_range.1 hj)]
theorem own_cells {W : World} {base e : Nat} {g c : Nat} {r : List (List Value)} (h : Own W base e 1 (some ⟨g, 0, none⟩) c r) {j : Nat} {v : Value} (hv : r.flatten[j]? = some v) : W.cell? ⟨g, j, none⟩ = some v := by
  have := World.ownsRow.cells h (g := g) rfl j v hv
  rw [Go.WideShapes.add_plain, Nat.zero_add] at this
  exact this
theorem strRows_flat (l : List Fr) (j : Nat) (h : j < l.length) : (strRows l).flatten[j]? = some (.string (SF l j)) := by
  unfold strRows
  rw [flat_ones, List.getElem?_map, List.getElem?_eq_getElem h, SF_lt h]
  rfl
theorem intRows_at {n : Nat} {x : Nat → Int} {j : Nat} (h : j < n) : (intRows n x).flatten[j]? = some (.int .i64 (x j)) := by
  rw [intRows_flat, List.getElem?_map, List.getElem?_range h]
  rfl

section
variable {w W : World} {l : List Fr} {g1 c1 g2 c2 x3 : Nat} {x y : Nat → Int}
end

set_option maxRecDepth 100000 in
theorem frame_loads (W : World) (x : Nat) (f : Fr) (h : W.heap[x]? = some (.cells #[.int .u32 f.id, .bool f.ext, .bool f.rem, .int .i64 f.dlc, .string f.data] 45 (0, 0))) (ev : Operand → Value) (hev : ev (.tmp 9) = .pointer (some ⟨x, 0, none⟩)) (p : String) (d : Option Nat) (ty : Nat) (af : Array Edge) :
    (execOp ev { dst := d, op := .load 45 (.tmp 9), type := ty, pos := p, after := af, guard := none }).run Tryz.prog W = .ok (.value (.agg #[.int .u32 f.id, .bool f.ext, .bool f.rem, .int .i64 f.dlc, .string f.data])) W := by
  have c0 : W.cell? ⟨x, 0, none⟩ = some (.int .u32 f.id) := by simp [World.cell?, h]
  have c1 : W.cell? ⟨x, 1, none⟩ = some (.bool f.ext) := by simp [World.cell?, h]
  have c2 : W.cell? ⟨x, 2, none⟩ = some (.bool f.rem) := by simp [World.cell?, h]
  have c3 : W.cell? ⟨x, 3, none⟩ = some (.int .i64 f.dlc) := by simp [World.cell?, h]
  have c4 : W.cell? ⟨x, 4, none⟩ = some (.string f.data) := by simp [World.cell?, h]
  clear h
  obtain ⟨id, ext, rem, dlc, data⟩ := f
  dsimp only at *
  simp only [execOp, hev]
  go_simp

theorem lostN_succ (S : Nat → ByteArray) (n k j : Nat) : lostN S n (k + 1) j = if lostN S n k j < 0 ∧ k < (S j).size ∧ busN S (lostN S n k) k n < byteAtP (S j) k then (k : Int) else lostN S n k j := rfl
/-- Round k's row, when its first p have been gone through. -/
def mixN (l : List Fr) (k p j : Nat) : Int := if j < p then lostN (SF l) l.length (k + 1) j else lostN (SF l) l.length k j
theorem mixN_zero (l : List Fr) (k j : Nat) : mixN l k 0 j = lostN (SF l) l.length k j := by simp [mixN]
theorem mixN_at (l : List Fr) (k p : Nat) : mixN l k p p = lostN (SF l) l.length k p := by simp [mixN]
theorem mixN_new (l : List Fr) (k p : Nat) : mixN l k (p + 1) p = lostN (SF l) l.length (k + 1) p := by simp [mixN]
theorem mixN_old (l : List Fr) (k p j : Nat) (h : j ≠ p) : mixN l k (p + 1) j = mixN l k p j := by
  unfold mixN
  by_cases h1 : j < p
  · rw [if_pos h1, if_pos (by omega)]
  · rw [if_neg h1, if_neg (by omega)]
theorem mixN_same (l : List Fr) (k p j : Nat) (h : lostN (SF l) l.length (k + 1) p = lostN (SF l) l.length k p) : mixN l k (p + 1) j = mixN l k p j := by
  by_cases hj : j = p
  · subst hj; rw [mixN_new, mixN_at, h]
  · exact mixN_old l k p j hj
theorem mixN_full (l : List Fr) (k j : Nat) (h : j < l.length) : mixN l k l.length j = lostN (SF l) l.length (k + 1) j := by simp [mixN, h]

/-- Those among the first k that have not lost. -/
def leftIdx (x : Nat → Int) (k : Nat) : List Nat := (List.range k).filter fun j => decide (x j < 0)
def leftRows (x : Nat → Int) (k : Nat) : List (List Value) := (leftIdx x k).map fun (j : Nat) => [.int .i64 (j : Int)]
theorem leftIdx_le (x : Nat → Int) (k : Nat) : (leftIdx x k).length ≤ k := by
  have := List.length_filter_le (fun j => decide (x j < 0)) (List.range k)
  rw [List.length_range] at this
  exact this
theorem leftIdx_in {x : Nat → Int} {k : Nat} (h : x k < 0) : leftIdx x (k + 1) = leftIdx x k ++ [k] := by
  unfold leftIdx
  rw [List.range_succ, List.filter_append]
  simp [h]
theorem leftIdx_out {x : Nat → Int} {k : Nat} (h : ¬ x k < 0) : leftIdx x (k + 1) = leftIdx x k := by
  unfold leftIdx
  rw [List.range_succ, List.filter_append]
  simp [h]
theorem leftRows_one (x : Nat → Int) (k : Nat) : ∀ r ∈ leftRows x k, r.length = 1 := by intro r hr; obtain ⟨j, _, rfl⟩ := List.mem_map.1 hr; rfl

/-- Where each of l loses; below 0: nowhere. -/
def lostF (l : List Fr) : Nat → Int := lostN (SF l) l.length 32
def ContestV (l : List Fr) (w : World) (e : Ending) (w' : World) : Prop :=
  ∃ AL cL AT cT, e = .returned (.tuple #[.slice AL (leftIdx (lostF l) l.length).length cL, .slice AT l.length cT, .int .i64 0]) ∧
    Rd w' w'.heap.size AL 1 (leftRows (lostF l) l.length) ∧ Rd w' w'.heap.size AT 1 (intRows l.length (lostF l)) ∧ Below w.heap.size w w'

end Go.Proofs.YthkilodnghiocaaGreatDoor

/- The plain law of fields: their order, and how a contest goes. -/
namespace Go.Proofs.YthkilodnghiocaaGreatDoor
open FP (bit bitsOf Fr bitB)

namespace PP
abbrev bl := Op.bytesLess

theorem lt_asymm8 {a b : UInt8} (h : a < b) : ¬ b < a := by rw [UInt8.lt_iff_toNat_lt] at *; omega
theorem lt_irrefl8 (a : UInt8) : ¬ a < a := by rw [UInt8.lt_iff_toNat_lt]; omega
theorem lt_or8 {a b : UInt8} (h : a ≠ b) : a < b ∨ b < a := by
  rw [UInt8.lt_iff_toNat_lt, UInt8.lt_iff_toNat_lt]
  have : a.toNat ≠ b.toNat := fun e => h (UInt8.toNat_inj.1 e)
  omega

theorem bl_irrefl : ∀ x : List UInt8, bl x x = false
  | [] => rfl
  | a :: x => by simp [bl, Op.bytesLess, bl_irrefl x]

/-- The lesser one at the first place where they are unlike. -/
theorem bl_first : ∀ (k : Nat) (x y : List UInt8), x.take k = y.take k → ∀ a b, x[k]? = some a → y[k]? = some b → a ≠ b → bl x y = decide (a < b)
  | 0, [], _, _, _, _, h, _, _ => by simp at h
  | 0, _ :: _, [], _, _, _, _, h, _ => by simp at h
  | 0, a :: x, b :: y, _, a', b', h, h', hn => by
    simp only [List.getElem?_cons_zero, Option.some.injEq] at h h'
    subst h; subst h'
    simp [bl, Op.bytesLess, hn]
  | k + 1, [], _, _, _, _, h, _, _ => by simp at h
  | k + 1, _ :: _, [], _, _, _, _, h, _ => by simp at h
  | k + 1, a :: x, b :: y, ht, a', b', h, h', hn => by
    simp only [List.take_succ_cons, List.cons.injEq] at ht
    obtain ⟨rfl, ht⟩ := ht
    simp only [List.getElem?_cons_succ] at h h'
    have := bl_first k x y ht a' b' h h' hn
    simp [bl, Op.bytesLess, this]

/-- Two rows are unlike at a first place, or one begins the other. -/
theorem first_or : ∀ x y : List UInt8, x <+: y ∨ y <+: x ∨ ∃ k a b, x.take k = y.take k ∧ x[k]? = some a ∧ y[k]? = some b ∧ a ≠ b
  | [], y => .inl (List.nil_prefix)
  | _ :: _, [] => .inr (.inl List.nil_prefix)
  | a :: x, b :: y => by
    by_cases h : a = b
    · subst h
      rcases first_or x y with h | h | ⟨k, c, d, h1, h2, h3, h4⟩
      · exact .inl (List.prefix_cons_inj a |>.2 h)
      · exact .inr (.inl (List.prefix_cons_inj a |>.2 h))
      · exact .inr (.inr ⟨k + 1, c, d, by simp [h1], by simpa using h2, by simpa using h3, h4⟩)
    · exact .inr (.inr ⟨0, a, b, rfl, rfl, rfl, h⟩)

/-- Rows none of which begins another one, and bits. -/
structure Fld (F : List UInt8) : Prop where
  bits : ∀ c ∈ F, c = 48 ∨ c = 49
  kind : (F.length = 13 ∧ F[12]? = some 48) ∨ (F.length = 32 ∧ F[12]? = some 49)

theorem Fld.len {F : List UInt8} (h : Fld F) : F.length ≤ 32 := by rcases h.kind with h | h <;> omega

theorem pre_eq {F G : List UInt8} (hF : Fld F) (hG : Fld G) (h : F <+: G) : F = G := by
  obtain ⟨t, ht⟩ := h
  have hl : F.length + t.length = G.length := by rw [← ht]; simp
  have h12 : F[12]? = G[12]? := by
    rw [← ht, List.getElem?_append_left]
    rcases hF.kind with h | h <;> omega
  have : t.length = 0 := by
    rcases hF.kind with ⟨a, b⟩ | ⟨a, b⟩ <;> rcases hG.kind with ⟨c, d⟩ | ⟨c, d⟩
    · omega
    · rw [b, d] at h12; cases h12
    · rw [b, d] at h12; cases h12
    · omega
  rw [List.length_eq_zero_iff] at this
  rw [← ht, this, List.append_nil]

theorem fld_or {F G : List UInt8} (hF : Fld F) (hG : Fld G) : F = G ∨ ∃ k a b, F.take k = G.take k ∧ F[k]? = some a ∧ G[k]? = some b ∧ a ≠ b := by
  rcases first_or F G with h | h | h
  · exact .inl (pre_eq hF hG h)
  · exact .inl (pre_eq hG hF h).symm
  · exact .inr h

theorem bl_total {F G : List UInt8} (hF : Fld F) (hG : Fld G) (hn : F ≠ G) : bl F G = !bl G F := by
  rcases fld_or hF hG with h | ⟨k, a, b, h1, h2, h3, h4⟩
  · exact absurd h hn
  · rw [bl_first k F G h1 a b h2 h3 h4, bl_first k G F h1.symm b a h3 h2 (Ne.symm h4)]
    rcases lt_or8 h4 with h | h
    · simp [h, lt_asymm8 h]
    · simp [h, lt_asymm8 h]

theorem bl_trans : ∀ x y z : List UInt8, bl x y = true → bl y z = true → bl x z = true
  | _, [], _, h, _ => by simp [bl, Op.bytesLess] at h
  | _, _ :: _, [], _, h => by simp [bl, Op.bytesLess] at h
  | [], _ :: _, _ :: _, _, _ => rfl
  | a :: x, b :: y, c :: z, h1, h2 => by
    simp only [bl, Op.bytesLess, Bool.or_eq_true, decide_eq_true_eq, Bool.and_eq_true, beq_iff_eq] at *
    rcases h1 with h1 | ⟨rfl, h1⟩ <;> rcases h2 with h2 | ⟨rfl, h2⟩
    · left; rw [UInt8.lt_iff_toNat_lt] at *; omega
    · exact .inl h1
    · exact .inl h2
    · exact .inr ⟨rfl, bl_trans x y z h1 h2⟩

/-! ### the contest -/
section
variable {F : Nat → List UInt8} {n : Nat} {B : List UInt8}
def strs (F : Nat → List UInt8) (j : Nat) : ByteArray := ⟨(F j).toArray⟩
theorem strs_size (F : Nat → List UInt8) (j : Nat) : (strs F j).size = (F j).length := by simp [strs, ByteArray.size]
theorem strs_at {F : Nat → List UInt8} {j k : Nat} {c : UInt8} (h : (F j)[k]? = some c) : byteAtP (strs F j) k = (c.toNat : Int) := by
  have hk : k < (F j).length := (List.getElem?_eq_some_iff.1 h).1
  have hk' : k < (strs F j).size := by rw [strs_size]; exact hk
  rw [byteAt_lt hk']
  have : (strs F j)[k] = c := by
    have h2 := (List.getElem?_eq_some_iff.1 h).2
    simp only [strs]
    rw [ByteArray.getElem_eq_getElem_data]
    simpa using h2
  rw [this]

theorem bus_le (x : Nat → Int) (k : Nat) (S : Nat → ByteArray) (c : Int) : ∀ p i, i < p → x i < 0 → k < (S i).size → byteAtP (S i) k = c → busN S x k p ≤ c
  | 0, i, h, _, _, _ => absurd h (by omega)
  | p + 1, i, h, h1, h2, h3 => by
    unfold busN
    by_cases hi : i = p
    · subst hi
      rw [if_pos ⟨h1, h2⟩, h3]
      omega
    · have := bus_le x k S c p i (by omega) h1 h2 h3
      split <;> omega
theorem bus_ge (x : Nat → Int) (k : Nat) (S : Nat → ByteArray) (c : Int) (hc : c ≤ 49) : ∀ p, (∀ i, i < p → x i < 0 → k < (S i).size → c ≤ byteAtP (S i) k) → c ≤ busN S x k p
  | 0, _ => hc
  | p + 1, h => by
    unfold busN
    have ih := bus_ge x k S c hc p (fun i hi => h i (by omega))
    split
    · rename_i hp
      have := h p (by omega) hp.1 hp.2
      omega
    · exact ih

/-- Where j loses, when k bits have gone by. -/
def Lost (F : Nat → List UInt8) (B : List UInt8) (k : Nat) (x : Int) (j : Nat) : Prop :=
  (x < 0 ∧ (F j).take k = B.take k) ∨ (∃ i a b, x = ((i : Nat) : Int) ∧ i < k ∧ (F j).take i = B.take i ∧ (F j)[i]? = some a ∧ B[i]? = some b ∧ a ≠ b)

theorem lost_law (hF : ∀ j, j < n → Fld (F j)) {b : Nat} (hb : b < n) (hB : F b = B) (hm : ∀ j, j < n → bl (F j) B = false) :
    ∀ k j, j < n → Lost F B k (lostN (strs F) n k j) j
  | 0, j, _ => .inl ⟨by simp [lostN], rfl⟩
  | k + 1, j, hj => by
    have ih := fun j hj => lost_law hF hb hB hm k j hj
    have hBf : Fld B := hB ▸ hF b hb
    rw [lostN_succ]
    rcases ih j hj with ⟨h1, h2⟩ | ⟨i, a, c, h1, h2, h3⟩
    · -- j is still there
      rcases hc : B[k]? with _ | c
      · -- the best one has ended: so has j
        have hlb : B.length ≤ k := by rw [List.getElem?_eq_none_iff] at hc; exact hc
        have hBp : B <+: F j := by
          rw [List.take_of_length_le hlb] at h2
          rw [← h2]
          exact List.take_prefix _ _
        have he := pre_eq hBf (hF j hj) hBp
        rw [if_neg (by rw [strs_size, ← he]; omega)]
        exact .inl ⟨h1, by rw [he]⟩
      · have hc49 : (c.toNat : Int) ≤ 49 := by
          rcases hBf.bits c (List.mem_of_getElem? hc) with rfl | rfl <;> decide
        have hbk : k < (strs F b).size := by rw [strs_size, hB]; exact (List.getElem?_eq_some_iff.1 hc).1
        have hbl : lostN (strs F) n k b < 0 := by
          rcases ih b hb with ⟨h, _⟩ | ⟨i, a, c, _, _, _, h4, h5, h6⟩
          · exact h
          · rw [hB] at h4; rw [h4] at h5; exact absurd (Option.some.inj h5) h6
        have hall : ∀ i, i < n → lostN (strs F) n k i < 0 → k < (strs F i).size → (c.toNat : Int) ≤ byteAtP (strs F i) k := by
          intro i hi hx hs
          rw [strs_size] at hs
          obtain ⟨d, hd⟩ : ∃ d, (F i)[k]? = some d := ⟨_, List.getElem?_eq_getElem hs⟩
          rw [strs_at hd]
          rcases ih i hi with ⟨_, ht⟩ | ⟨i', a', c', h1', _⟩
          · by_cases hdc : d = c
            · rw [hdc]; omega
            · have := bl_first k (F i) B ht d c hd hc hdc
              rw [hm i hi] at this
              have : ¬ d < c := by simpa using this.symm
              rw [UInt8.lt_iff_toNat_lt] at this
              omega
          · omega
        have hbus : busN (strs F) (lostN (strs F) n k) k n = (c.toNat : Int) := by
          have := bus_le (lostN (strs F) n k) k (strs F) (c.toNat : Int) n b hb hbl hbk (strs_at (by rw [hB]; exact hc))
          have := bus_ge (lostN (strs F) n k) k (strs F) (c.toNat : Int) hc49 n hall
          omega
        rw [hbus]
        rcases hd : (F j)[k]? with _ | d
        · -- j has ended ahead of the best one
          have hlj : (F j).length ≤ k := by rw [List.getElem?_eq_none_iff] at hd; exact hd
          have hp : F j <+: B := by
            rw [List.take_of_length_le hlj] at h2
            rw [h2]
            exact List.take_prefix _ _
          have he := pre_eq (hF j hj) hBf hp
          rw [he, hc] at hd
          cases hd
        · rw [strs_at hd]
          have hks : k < (strs F j).size := by rw [strs_size]; exact (List.getElem?_eq_some_iff.1 hd).1
          have hle := hall j hj h1 hks
          rw [strs_at hd] at hle
          by_cases hdc : d = c
          · rw [if_neg (by rw [hdc]; omega)]
            refine .inl ⟨h1, ?_⟩
            rw [List.take_add_one, List.take_add_one, h2, hd, hc, hdc]
          · have hne : d.toNat ≠ c.toNat := fun e => hdc (UInt8.toNat_inj.1 e)
            rw [if_pos ⟨h1, hks, by omega⟩]
            exact .inr ⟨k, d, c, rfl, by omega, h2, hd, hc, hdc⟩
    · rw [if_neg (by omega)]
      exact .inr ⟨i, a, c, h1, by omega, h3⟩

theorem lost_end (hF : ∀ j, j < n → Fld (F j)) {b : Nat} (hb : b < n) (hB : F b = B) (hm : ∀ j, j < n → bl (F j) B = false) (j : Nat) (hj : j < n) : lostN (strs F) n 32 j < 0 ↔ F j = B := by
  have hBf : Fld B := hB ▸ hF b hb
  rcases lost_law hF hb hB hm 32 j hj with ⟨h1, h2⟩ | ⟨i, a, c, h1, h2, h3, h4, h5, h6⟩
  · rw [List.take_of_length_le (hF j hj).len, List.take_of_length_le hBf.len] at h2
    exact ⟨fun _ => h2, fun _ => h1⟩
  · constructor
    · intro h; omega
    · intro h; rw [h, h5] at h4; exact absurd (Option.some.inj h4).symm h6
end
end PP
end Go.Proofs.YthkilodnghiocaaGreatDoor
