/- Walks of pdu.well, pdu.Clear, pdu.Unpack. -/
import Derived.Test.YtnhegnneohpkaaaGreatSgG
import Derived.Test.YtnhegnneohpkaaaGreatPdG
import Derived.Test.YtnhegnneohpkaaaGreatRng3
import Derived.Test.YtnhegnneohpkaaaGreatOwS
import Derived.Test.YtnhegnneohpkaaaGreatMem
import Derived.Maps.OwnOps
import Derived.Maps.OwnSet
import Derived.Test.YtnhegnneohpkaaaGreatMgPdH
namespace Go.Proofs.YtnhegnneohpkaaaGreat
open Go.ChangeShapes Go.WideShapes Go.ChangeAt Go.RowKit
open SG PD

set_option maxRecDepth 100000 in
theorem pduWell_any (L : Ly) (A : Option Addr) (c : Nat) (B : Option Addr) (d : Nat) (s : ByteArray) (w : World) (hA : SgR w w.heap.size A L.sgs) (hB : InR w w.heap.size B L.nws) (hs : L.sgs.length ≤ 1000) (hn : L.nws.length ≤ 1000) (hc : L.sgs.length ≤ c) (hd : L.nws.length ≤ d) (hz : s.size ≤ 1000000) :
    Calls Tryz.prog 75 #[.agg (lyV L A c B d), .string s] w fun e w' => e = .returned (.int .i64 (wellL L s.size)) ∧ Below w.heap.size w w' := by
  have q0 : Below w.heap.size w (w.alloc (.cells (lyV L A c B d) 27)) := (Below.refl _ _).alloc (Nat.le_refl _) _
  have B0 := hide (World.alloc_heap_new w (.cells (lyV L A c B d) 27))
  have RT := hide (fun (W : World) (hb : Below w.heap.size w W) => pduRight_any L A c B d W (Rd.next hA hb hb.size) (Rd.next hB hb hb.size) hs hn hc hd)
  obtain ⟨x, hx⟩ : ∃ x, x = wellL L s.size := ⟨_, rfl⟩
  rw [← hx]
  unfold wellL at hx
  have HX := hide hx
  clear hx
  generalize rightB L = R at *
  clear hA hB
  unfold lyV at *
  obtain ⟨c0, c1, c2⟩ := three_cells B0.out
  have Q0 := hide q0
  clear q0
  generalize hw0 : w.alloc (.cells #[.int .i64 L.size, .slice A L.sgs.length c, .slice B L.nws.length d] 27) = w0 at *
  go_enter Tryz.func75, Tryz.ntmps75
  go_wp2_with fail
  (with_reducible refine (RT.out _ Q0.out).mono ?_)
  rintro e5 w1 ⟨rfl, q1⟩
  have Q1 := hide (below_next Q0.out Q0.out.size q1)
  have B1 := hide (heap_below B0.out q1)
  clear q1 c0 c1 c2 hw0 RT
  obtain ⟨c0, c1, c2⟩ := three_cells B1.out
  cases R with
  | false =>
    have E := hide (show x = 1 by rw [HX.out, if_pos rfl])
    clear HX
    go_wp2_with fail
    go_ret
    exact ⟨by rw [E.out]; rfl, Q1.out⟩
  | true =>
    by_cases h : (s.size : Int) = L.size
    · have e1 : ((s.size : Int) == L.size) = true := by rw [beq_iff_eq]; exact h
      have e2 : ((s.size : Int) != L.size) = false := by simp [bne, e1]
      have E : x = 0 := by rw [HX.out, if_neg (by simp), if_neg (by simp [h])]
      replace E := hide E
      clear h HX
      go_wp2_with fail
      go_ret
      exact ⟨by rw [E.out]; rfl, Q1.out⟩
    · have e1 : ((s.size : Int) == L.size) = false := by rw [beq_eq_false_iff_ne]; exact h
      have e2 : ((s.size : Int) != L.size) = true := by simp [bne, e1]
      have E : x = 23 := by rw [HX.out, if_neg (by simp), if_pos h]
      replace E := hide E
      clear h HX
      go_wp2_with fail
      go_ret
      exact ⟨by rw [E.out]; rfl, Q1.out⟩

/-- What Clear answers. -/
def clrV (L : Ly) (s : ByteArray) : ByteArray := if wellL L s.size = 0 then ⟨(clrF L s.data.toList).toArray⟩ else ⟨#[]⟩
theorem clrN_succ (nws : List Int) (d : List UInt8) (k : Nat) : clrN nws d (k + 1) = if 0 ≤ nws.getD k 0 then setB (clrN nws d k) (nws.getD k 0).toNat false else clrN nws d k := rfl

end Go.Proofs.YtnhegnneohpkaaaGreat

/- append of one row to a row of the call's own; what else stands behind it. Nothing of the program's text. -/
namespace Go.Proofs.YtnhegnneohpkaaaGreat
open Go.ChangeShapes Go.WideShapes Go.ChangeAt Go.RowKit

theorem heapLow {B : Nat} {W W' : World} {x : Nat} {o : Obj} (h : W.heap[x]? = some o) (hb : Below B W W') (hx : x < B) : W'.heap[x]? = some o := (hb.block x hx).trans h

/-- What an append of one row makes of the world. -/
structure Ap1 (w w' : World) (base : Nat) (e : TypeId) (sz : Nat) (A : Option Addr) (c : Nat) (rows : List (List Value)) (row : List Value) (A' : Option Addr) (c' : Nat) : Prop where
  own : Own w' base e sz A' c' (rows ++ [row])
  old : Own w base e sz A c rows
  below : Below base w w'
  base : base ≤ w.heap.size
  grown : (w.alloc (.cells row.toArray e)).grownBy w' (Value.slice A rows.length c).ownBlock

theorem Ap1.q {w w' : World} {base : Nat} {e : TypeId} {sz : Nat} {A : Option Addr} {c : Nat} {rows : List (List Value)} {row : List Value} {A' : Option Addr} {c' : Nat} (h : Ap1 w w' base e sz A c rows row A' c') {B : Nat} {W : World} (hb : Below B W w) (hB : B ≤ base) : Below B W w' := hb.trans (h.below.mono hB)
/-- Another row, of another type, stands. -/
theorem Ap1.other {w w' : World} {base : Nat} {e : TypeId} {sz : Nat} {A : Option Addr} {c : Nat} {rows : List (List Value)} {row : List Value} {A' : Option Addr} {c' : Nat} (h : Ap1 w w' base e sz A c rows row A' c')
    {base2 e2 sz2 : Nat} {A2 : Option Addr} {c2 : Nat} {r2 : List (List Value)} (h2 : Own w base2 e2 sz2 A2 c2 r2) (hte : e2 ≠ e) : Own w' base2 e2 sz2 A2 c2 r2 :=
  own_apartT (h2.alloc _) (h.old.alloc _) hte h.grown
/-- A block of another kind stands. -/
theorem Ap1.heap {w w' : World} {base : Nat} {e : TypeId} {sz : Nat} {A : Option Addr} {c : Nat} {rows : List (List Value)} {row : List Value} {A' : Option Addr} {c' : Nat} (h : Ap1 w w' base e sz A c rows row A' c')
    {x : Nat} {cs : Array Value} {t : TypeId} {fz : Nat × Nat} (hx : w.heap[x]? = some (.cells cs t fz)) (hte : t ≠ e) : w'.heap[x]? = some (.cells cs t fz) :=
  heap_grown (heap_below hx ((Below.refl _ _).alloc (Nat.le_refl _) (.cells row.toArray e))) hte (h.old.alloc _) h.grown
theorem Ap1.low {w w' : World} {base : Nat} {e : TypeId} {sz : Nat} {A : Option Addr} {c : Nat} {rows : List (List Value)} {row : List Value} {A' : Option Addr} {c' : Nat} (h : Ap1 w w' base e sz A c rows row A' c')
    {x : Nat} {o : Obj} (hx : w.heap[x]? = some o) (hb : x < base) : w'.heap[x]? = some o := heapLow hx h.below hb

section
variable {P : Program} {ops : Array Oper} {rest : List Oper} {o : Oper} {a : Act} {Q : Exit → Act → World → Prop}
theorem ap1_side (w : World) {e sz : Nat} (row : List Value) (hr : row.length = sz) :
    Rd (w.alloc (.cells row.toArray e)) (w.alloc (.cells row.toArray e)).heap.size (some ⟨w.heap.size, 0, none⟩) sz [row] := by
  have := Rd.new w [row] sz e (0, 0) (by simpa using hr)
  simpa using this

theorem wpList_append_one (w : World) (cs : Array Value) (row : List Value) (hcs : cs = row.toArray) (hgd : o.guard = none) (s x : Operand) (t : TypeId)
    (ho : o.op = .call { callee := .builtin .append, args := #[s, x], argTypes := #[t, t] })
    {e : TypeId} {sz bytes : Nat} (T : SlT P t e sz bytes) (hby : bytes ≤ 4096) (hr : row.length = sz) (h1 : ∀ u ∈ row, u.oneCell' = true) (base : Nat) (A : Option Addr) (N c : Nat) (rows : List (List Value)) (hs : a.eval s = .slice A N c) (hown : Own w base e sz A c rows)
    (d : Nat) (hx : a.eval x = .slice (some ⟨w.heap.size, 0, none⟩) 1 d)
    (hl : rows.length ≤ 1000000000) (hbase : base ≤ w.heap.size) (hN : N = rows.length)
    (h : ∀ A' c' w', Ap1 w w' base e sz A c rows row A' c' → wpList P ops Q rest (a.put o.dst (.slice A' (N + 1) c')) w') : wpList P ops Q (o :: rest) a (w.alloc (.cells cs e)) := by
  subst hcs
  have hN2 := hN
  subst hN
  have q : Below w.heap.size w (w.alloc (.cells row.toArray e)) := (Below.refl _ _).alloc (Nat.le_refl _) _
  refine wpList_append_rows _ hgd s x t ho T base A rows.length c rows hs (hown.alloc _) _ 1 d [row] hx (ap1_side w row hr) (by simpa using hr) (by simpa using h1)
    (Nat.le_trans (Nat.mul_le_mul (show rows.length + [row].length ≤ 1000000001 by simp; omega) hby) (by decide)) (by simp [maxLen]; omega) (by simp; omega) rfl rfl ?_
  intro A' c' w' o1 g1
  exact h A' c' w' ⟨o1, hown, (q.mono hbase).trans (below_own g1 (hown.alloc _) (by simp; omega)), hbase, g1⟩
end
end Go.Proofs.YtnhegnneohpkaaaGreat

/- A set of ints: map[int]bool, of which the true ones count. -/
namespace Go.Proofs.YtnhegnneohpkaaaGreat
open Go.ChangeShapes Go.WideShapes Go.ChangeAt Go.RowKit Go.Maps

def MSet (W : World) (b n : Nat) (s : Int → Bool) : Prop :=
  ∃ D : DataW Unit, W.ownsMap Tryz.prog 3 (plainElem Tryz.prog 4) b n D ∧ ∀ x : Int, D.atKey (.int .i64 x) (.lit (.bool false)) = .lit (.bool (s x))

theorem MSet.made (w : World) : MSet (w.alloc (.map #[] 0)) w.heap.size 0 (fun _ => false) := ⟨_, World.ownsMap_made w _ _ _, fun _ => rfl⟩
theorem MSet.lt {W : World} {b n : Nat} {s : Int → Bool} (h : MSet W b n s) : b < W.heap.size := by obtain ⟨D, h, _⟩ := h; exact h.lt
theorem MSet.below {W W' : World} {b n : Nat} {s : Int → Bool} (h : MSet W b n s) (hb : Below W.heap.size W W') : MSet W' b n s := by
  obtain ⟨D, h, hs⟩ := h
  exact ⟨D, h.kept (row := none) ⟨hb.os, hb.tape, hb.output, hb.size, fun k hk _ => hb.block k hk⟩ (by simp), hs⟩

theorem i64_wf {x : Int} (h0 : 0 ≤ x) (h1 : x ≤ 1000000) : (Lit.int .i64 x).wf = true := by
  simp [Lit.wf, IntKind.min, IntKind.max, IntKind.bits, IntKind.signed]
  omega

end Go.Proofs.YtnhegnneohpkaaaGreat

/- The walk of PduOne. -/
namespace Go.Proofs.YtnhegnneohpkaaaGreat
open Go.ChangeShapes Go.WideShapes Go.ChangeAt Go.RowKit
open SG PD

theorem rd_mset {W W' : World} {bm n : Nat} {f : Int → Bool} (hm : MSet W bm n f) (hg : W.grownBy W' (some bm)) {B sz : Nat} {A : Option Addr} {cs : List (List Value)} (hB : B ≤ W.heap.size) (h : Rd W B A sz cs) : Rd W' B A sz cs := fun hn => by
  obtain ⟨b, off, e, hlt, hc⟩ := h hn
  refine ⟨b, off, e, hlt, fun k row j v h1 h2 => ?_⟩
  have c := hc k row j v h1 h2
  have hne : b ≠ bm := by
    rintro rfl
    obtain ⟨D, ⟨es, clock, hb, _⟩, _⟩ := hm
    simp [World.cell?, hb] at c
  rw [World.cell?_of_block (hg.block b (by omega) (by simpa using hne))]
  exact c
theorem heap_mset {W W' : World} {bm n : Nat} {f : Int → Bool} (hm : MSet W bm n f) (hg : W.grownBy W' (some bm)) {b : Nat} {cs : Array Value} {t : TypeId} {fz : Nat × Nat} (h : W.heap[b]? = some (.cells cs t fz)) : W'.heap[b]? = some (.cells cs t fz) := by
  have hne : b ≠ bm := by
    rintro rfl
    obtain ⟨D, ⟨es, clock, hb, _⟩, _⟩ := hm
    rw [h] at hb
    cases hb
  rw [hg.block b (Array.getElem?_eq_some_iff.1 h).1 (by simpa using hne)]
  exact h
/-- Is a number one of the first j places? -/
def inP (l : List Nat) (j : Nat) (y : Int) : Bool := (l.take j).any fun p => (p : Int) == y
theorem inP_succ (l : List Nat) (j : Nat) (h : j < l.length) : (fun y => if y = (l[j] : Int) then true else inP l j y) = inP l (j + 1) := by
  funext y
  unfold inP
  rw [List.take_succ_eq_append_getElem h, List.any_append]
  by_cases e : y = (l[j] : Int)
  · rw [if_pos e]; simp [e]
  · rw [if_neg e]
    have : ((l[j] : Int) == y) = false := by rw [beq_eq_false_iff_ne]; exact fun e2 => e e2.symm
    simp [this]
theorem slInt64 : SlT Tryz.prog 33 2 1 8 := SlT.mk Tryz.underlying33 (z := .int .i64 0) (by kernel_rfl) rfl (by decide)
theorem inRow_len (l : List Int) : (inRow l).length = l.length := by simp [inRow]
theorem inRow_rows (l : List Int) : ∀ r ∈ inRow l, r.length = 1 := by
  intro r hr
  obtain ⟨p, _, rfl⟩ := List.mem_map.1 hr
  rfl
theorem made_bools (w : World) (n : Nat) : BoR (w.alloc (.cells (madeCells #[.bool false] n) 4)) (w.alloc (.cells (madeCells #[.bool false] n) 4)).heap.size (some ⟨w.heap.size, 0, none⟩) (List.replicate n false) := fun hn => by
  have hm := World.rowIs_made w (.bool false) n 4
  refine ⟨w.heap.size, 0, rfl, by simp, fun k row j v hk hj => ?_⟩
  have hkn : k < n := by
    have := (List.getElem?_eq_some_iff.1 hk).1
    simpa [boRow] using this
  have hr : row = [.bool false] := by
    have h2 : (boRow (List.replicate n false))[k]? = some [.bool false] := by simp [boRow, hkn]
    rw [hk] at h2
    exact Option.some.inj h2
  subst hr
  match j, hj with
  | 0, hj =>
    simp only [List.getElem?_cons_zero, Option.some.injEq] at hj
    subst hj
    have := hm.cell hkn
    simpa using this

end Go.Proofs.YtnhegnneohpkaaaGreat
