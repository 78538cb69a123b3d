import Derived.Test.YtkmddjbialpppaaGreatDoorProg
import Derived.WalkKit
import Derived.ProofKit
import Derived.WalkLawsBesides
import Derived.BigQuiet
import Derived.Deep.QuietTactic
import Derived.Deep.AppendLies
import Derived.Deep.OwnRows
import Derived.Laws.BytesString
import Derived.Deep.RegionLaw
import Derived.Deep.DeepCutAuto
import Derived.Deep.RegionHeld3
namespace Go.Proofs.YtkmddjbialpppaaGreatDoor
open Go.ChangeShapes Go.WideShapes Go.ChangeAt Go.RowKit
theorem aA {p : Prop} (h : p) : Hid p := h
theorem below_drewN {B : Nat} {a w : World} (h : Below B a w) (n : Nat) : Below B a (w.drewN n) := ⟨h.os, h.tape, h.output, h.size, h.block⟩
theorem aC {B : Nat} {w w1 w2 : World} (h : Below B w w1) (hB : B ≤ w1.heap.size) (h2 : Below w1.heap.size w1 w2) : Below B w w2 := h.trans (h2.mono hB)
theorem aT {w w' : World} {B b o : Nat} {v : Value} (h : Below B w w') (hb : b < B) (hc : w.cell? ⟨b, o, none⟩ = some v) : w'.cell? ⟨b, o, none⟩ = some v := (h.cell (p := ⟨b, o, none⟩) hb).trans hc
def Rd (w : World) (B : Nat) (A : Option Addr) (sz : Nat) (cs : List (List Value)) : Prop :=
  0 < cs.length → ∃ b off, A = some ⟨b, off, none⟩ ∧ b < B ∧ ∀ k row j v, cs[k]? = some row → row[j]? = some v → w.cell? ⟨b, off + k * sz + j, none⟩ = some v
theorem Rd.nil {w : World} {B : Nat} {A : Option Addr} {sz : Nat} : Rd w B A sz [] := fun h => absurd h (by simp)
theorem Rd.below {w w' : World} {B : Nat} {A : Option Addr} {sz : Nat} {cs : List (List Value)} (h : Rd w B A sz cs) (hb : Below B w w') : Rd w' B A sz cs := fun hn => by
  obtain ⟨b, off, e, hlt, hc⟩ := h hn
  exact ⟨b, off, e, hlt, fun k row j v a c => aT hb hlt (hc k row j v a c)⟩
theorem Rd.more {w : World} {B B' : Nat} {A : Option Addr} {sz : Nat} {cs : List (List Value)} (h : Rd w B A sz cs) (hb : B ≤ B') : Rd w B' A sz cs := fun hn => by
  obtain ⟨b, off, e, hlt, hc⟩ := h hn
  exact ⟨b, off, e, by omega, hc⟩
theorem Rd.next {w w' : World} {B : Nat} {A : Option Addr} {sz : Nat} {cs : List (List Value)} (h : Rd w B A sz cs) (hb : Below B w w') (hB : B ≤ w'.heap.size) : Rd w' w'.heap.size A sz cs := (h.below hb).more hB
theorem Rd.take {w : World} {B : Nat} {A : Option Addr} {sz : Nat} {cs : List (List Value)} (h : Rd w B A sz cs) (n : Nat) : Rd w B A sz (cs.take n) := fun hn => by
  obtain ⟨b, off, e, hlt, hc⟩ := h (by rw [List.length_take] at hn; omega)
  refine ⟨b, off, e, hlt, fun k row j v a c => hc k row j v ?_ c⟩
  rw [List.getElem?_take] at a
  split at a
  · exact a
  · cases a
theorem fN {α : Type} : ∀ (cs : List (List α)) (sz : Nat), (∀ r ∈ cs, r.length = sz) → ∀ (k : Nat) (row : List α) (j : Nat) (v : α), cs[k]? = some row → row[j]? = some v → cs.flatten[k * sz + j]? = some v
  | [], _, _, k, row, j, v, h, _ => by simp at h
  | c :: cs, sz, hs, 0, row, j, v, h, hj => by
    simp only [List.getElem?_cons_zero, Option.some.injEq] at h
    subst h
    have hl : j < c.length := (List.getElem?_eq_some_iff.1 hj).1
    rw [List.flatten_cons, Nat.zero_mul, Nat.zero_add, List.getElem?_append_left hl]
    exact hj
  | c :: cs, sz, hs, k + 1, row, j, v, h, hj => by
    have hc : c.length = sz := hs c (by simp)
    rw [List.getElem?_cons_succ] at h
    have ih := fN cs sz (fun r hr => hs r (by simp [hr])) k row j v h hj
    rw [List.flatten_cons, List.getElem?_append_right (by rw [hc, Nat.add_mul]; omega), hc, ← ih]
    congr 1
    rw [Nat.add_mul]; omega
theorem Rd.new (w : World) (cs : List (List Value)) (sz : Nat) (t : TypeId) (fz : Nat × Nat) (hs : ∀ r ∈ cs, r.length = sz) :
    Rd (w.alloc (.cells cs.flatten.toArray t fz)) (w.heap.size + 1) (some ⟨w.heap.size, 0, none⟩) sz cs := fun _ =>
  ⟨w.heap.size, 0, rfl, by omega, fun k row j v a c => by
    have := fN cs sz hs k row j v a c
    rw [Nat.zero_add]
    rw [World.cell?_alloc_mark]
    simpa using this⟩
theorem run_from {P : Program} (t e : TypeId) (hu : P.underlying t = some (.slice e)) (sz : Nat) (hsz : ∀ W, (sizeOf e).run P W = .ok sz W) (A : Option Addr) (n c : Nat) (i : Int) (k : Nat) (hik : i = k) (hk : k ≤ n) :
    ∃ A', A' = (if c = k then A else A.map (·.add (k * sz))) ∧ ∀ W, (Instr.slice t (.slice A n c) (some (.int .i64 i)) none none).run P W = .ok (.slice A' (n - k) (c - k)) W := by
  refine ⟨_, rfl, fun W => ?_⟩
  subst hik
  have h1 : (k : Int) ≤ n := by omega
  simp [Instr.slice, run_underlying hu, Instr.sliceBounds, run_sliceBound, h1, hsz]
theorem run_to {P : Program} (t e : TypeId) (hu : P.underlying t = some (.slice e)) (sz : Nat) (hsz : ∀ W, (sizeOf e).run P W = .ok sz W) (A : Option Addr) (n c : Nat) (i : Int) (k : Nat) (hik : i = k) (hk : k ≤ c) :
    ∀ W, (Instr.slice t (.slice A n c) none (some (.int .i64 i)) none).run P W = .ok (.slice A k c) W := by
  intro W
  subst hik
  have h1 : (k : Int) ≤ c := by omega
  simp [Instr.slice, run_underlying hu, Instr.sliceBounds, run_sliceBound, h1, hsz]
  intro _
  cases A <;> simp [Addr.add]
theorem run_max {P : Program} (x y : Int) : ∃ m, m = max x y ∧ ∀ (ts : Array TypeId) (t : TypeId) (W : World), (Builtin.max_ ts t #[.int .i64 x, .int .i64 y]).run P W = .ok (.int .i64 m) W :=
  ⟨_, rfl, fun ts t W => by
    rw [run_max_int2]
    congr 2
    split <;> omega⟩
theorem jL {P : Program} (x y : Int) : ∃ m, m = min x y ∧ ∀ (ts : Array TypeId) (t : TypeId) (W : World), (Builtin.min_ ts t #[.int .i64 x, .int .i64 y]).run P W = .ok (.int .i64 m) W :=
  ⟨_, rfl, fun ts t W => by
    rw [run_min_int2]
    congr 2
    split <;> omega⟩
def SlT (P : Program) (t e : TypeId) (sz bytes : Nat) : Prop :=
  ∃ i z, P.underlying t = some (.slice e) ∧ P.info? e = some i ∧ i.zero = some z ∧ i.size = sz ∧ i.bytes = bytes ∧ z.cells.size = sz ∧ 0 < sz
theorem SlT.mk {P : Program} {t e : TypeId} {z : Value} {sz bytes : Nat} (ht : P.underlying t = some (.slice e)) (hi : (P.info? e).map (fun i => (i.zero, i.size, i.bytes)) = some (some z, sz, bytes)) (hz : z.cells.size = sz) (h0 : 0 < sz) : SlT P t e sz bytes := by
  obtain ⟨i, h1, h2, h3, h4⟩ := info_parts hi
  exact ⟨i, z, ht, h1, h2, h3, h4, hz, h0⟩
def Own (w : World) (base : Nat) (e : TypeId) (sz : Nat) (A : Option Addr) (c : Nat) (cs : List (List Value)) : Prop := w.ownsRow base e sz (.slice A cs.length c) cs.length cs.flatten
theorem Own.nil {w : World} {base : Nat} {e : TypeId} {sz : Nat} : Own w base e sz none 0 [] := World.ownsRow_nil w base e sz
theorem Own.lit (w : World) (base : Nat) (e : TypeId) (sz : Nat) (cs : List (List Value)) (hb : base ≤ w.heap.size) (hm : cs.length ≤ maxLen) (hs : ∀ r ∈ cs, r.length = sz) : Own (w.alloc (.cells cs.flatten.toArray e)) base e sz (some ⟨w.heap.size, 0, none⟩) cs.length cs := by
  have hl : cs.flatten.length = cs.length * sz := by
    clear hm
    induction cs with
    | nil => simp
    | cons c cs ih => rw [List.flatten_cons, List.length_append, List.length_cons, ih (fun r hr => hs r (by simp [hr])), hs c (by simp), Nat.add_mul]; omega
  have := World.ownsRow_lit (e := e) w cs.flatten.toArray cs.length hb hm (by simpa using hl)
  simpa [Own] using this
theorem Own.le {w : World} {base : Nat} {e : TypeId} {sz : Nat} {A : Option Addr} {c : Nat} {cs : List (List Value)} (h : Own w base e sz A c cs) : cs.length ≤ c := by
  rcases h.2 with ⟨h, h0⟩ | ⟨g, cap, cur, hv, _, _, hnc, _⟩
  · omega
  · simp only [Value.slice.injEq] at hv; omega
theorem Own.rd {w : World} {base : Nat} {e : TypeId} {sz : Nat} {A : Option Addr} {c : Nat} {cs : List (List Value)} (h : Own w base e sz A c cs) (hs : ∀ r ∈ cs, r.length = sz) : Rd w w.heap.size A sz cs := fun hn => by
  obtain ⟨g, cap, hv, _, hlt⟩ := World.ownsRow.form h hn
  have hA : A = some ⟨g, 0, none⟩ := by injection hv
  subst hA
  refine ⟨g, 0, rfl, hlt, fun k row j v a b => ?_⟩
  have := World.ownsRow.cells h (g := g) rfl _ _ (fN cs sz hs k row j v a b)
  rw [Go.WideShapes.add_plain, ← Nat.add_assoc] at this
  exact this
theorem eV (w : World) (row : Option Nat) : w.grownBy w row := ⟨rfl, rfl, rfl, Nat.le_refl _, fun _ _ _ => rfl⟩
theorem iS {P : Program} (w : World) {t ty e : TypeId} {sz bytes : Nat} (T : SlT P t e sz bytes) (base : Nat) (A : Option Addr) (c : Nat) (cs : List (List Value)) (hown : Own w base e sz A c cs)
    (B : Option Addr) (d : Nat) (ds : List (List Value)) (hrd : Rd w w.heap.size B sz ds) (hds : ∀ r ∈ ds, r.length = sz) (h1 : ∀ r ∈ ds, ∀ u ∈ r, u.oneCell' = true)
    (hbytes : (cs.length + ds.length) * bytes ≤ 140737488355328) (h63 : cs.length + ds.length ≤ maxLen) (hbase : base ≤ w.heap.size) (N M : Nat) (hN : N = cs.length) (hM : M = ds.length) :
    ∃ A' c' w', (Builtin.append_ #[t, t] ty #[.slice A N c, .slice B M d]).run P w = .ok (.slice A' (N + M) c') w' ∧ Own w' base e sz A' c' (cs ++ ds) ∧ w.grownBy w' (Value.slice A N c).ownBlock := by
  subst hN
  subst hM
  obtain ⟨i, z, ht, hi, hz, hsz, hby, hzs, h0⟩ := T
  have hl : ∀ ds : List (List Value), (∀ r ∈ ds, r.length = sz) → ds.flatten.length = ds.length * sz := fun ds hds => by
    clear hbytes h63 hrd h1
    induction ds with
    | nil => simp
    | cons c cs ih => rw [List.flatten_cons, List.length_append, List.length_cons, ih (fun r hr => hds r (by simp [hr])), hds c (by simp), Nat.add_mul]; omega
  by_cases hn : ds = []
  · subst hn
    have hrun : (Builtin.append_ #[t, t] ty #[.slice A cs.length c, .slice B 0 d]).run P w = .ok (.slice A cs.length c) w := by
      rcases hown.2 with ⟨hv, h0⟩ | ⟨g, cap, cur, hv, _, _, hnc, _⟩
      · simp only [Value.slice.injEq] at hv
        obtain ⟨rfl, h2, rfl⟩ := hv
        rw [h2]
        cases B <;> simp [Builtin.append_, run_underlying ht, sizeOf, typeInfo, hi, Builtin.lenOf, Builtin.firstCells, loadCells, loadCellsFrom]
      · simp only [Value.slice.injEq] at hv
        obtain ⟨rfl, _, rfl⟩ := hv
        cases B <;> simp [Builtin.append_, run_underlying ht, sizeOf, typeInfo, hi, Builtin.lenOf, Builtin.firstCells, hnc, storeCells, loadCells, loadCellsFrom]
    exact ⟨A, c, w, hrun, by simpa using hown, eV _ _⟩
  · have hpos : 0 < ds.length := List.length_pos_iff.2 hn
    obtain ⟨b, off, rfl, hblt, hc⟩ := hrd hpos
    have hnews : ∀ j u, ds.flatten[j]? = some u → w.cell? ((⟨b, off, none⟩ : Addr).add j) = some u := fun j u hu => by
      have hj : j < ds.flatten.length := (List.getElem?_eq_some_iff.1 hu).1
      rw [hl ds hds] at hj
      have hdm : j / sz * sz + j % sz = j := by rw [Nat.mul_comm]; exact Nat.div_add_mod j sz
      have hk : j / sz < ds.length := Nat.div_lt_of_lt_mul (by rw [Nat.mul_comm]; exact hj)
      have hr : ds[j / sz]? = some ds[j / sz] := List.getElem?_eq_getElem hk
      have hm : j % sz < ds[j / sz].length := by rw [hds _ (List.getElem_mem hk)]; exact Nat.mod_lt _ h0
      have hv := List.getElem?_eq_getElem hm
      have h2 := fN ds sz hds _ _ _ _ hr hv
      rw [hdm] at h2
      have h3 := hc _ _ _ _ hr hv
      rw [Nat.add_assoc, hdm] at h3
      rw [Go.WideShapes.add_plain, h3, ← hu, h2]
    obtain ⟨g, cap, w', hr, h2, h3, _, _⟩ := run_append_lies (P := P) w t ty base e i z sz bytes ht hi hz hsz hby hzs h0 (.slice A cs.length c) cs.length cs.flatten hown ⟨b, off, none⟩ ds.length d ds.flatten (hl ds hds) hnews
      (fun u hu => by obtain ⟨r, hr, hur⟩ := List.mem_flatten.1 hu; exact h1 r hr u hur) hpos h63 hbytes hbase w.heap.size rfl
    refine ⟨_, _, w', hr, ?_, h3⟩
    unfold Own
    rw [List.length_append, List.flatten_append]
    exact h2
section
variable {P : Program} {ops : Array Oper} {rest : List Oper} {o : Oper} {a : Act} {Q : Exit → Act → World → Prop}
theorem wp_append_rows {K : Act → World → Prop} (w : World) (s x : Operand) (t : TypeId)
    (ho : o.op = .call { callee := .builtin .append, args := #[s, x], argTypes := #[t, t] })
    {e : TypeId} {sz bytes : Nat} (T : SlT P t e sz bytes) (base : Nat) (A : Option Addr) (N c : Nat) (cs : List (List Value)) (hs : a.eval s = .slice A N c) (hown : Own w base e sz A c cs)
    (B : Option Addr) (M d : Nat) (ds : List (List Value)) (hx : a.eval x = .slice B M d) (hrd : Rd w w.heap.size B sz ds) (hds : ∀ r ∈ ds, r.length = sz) (h1 : ∀ r ∈ ds, ∀ u ∈ r, u.oneCell' = true)
    (hbytes : (cs.length + ds.length) * bytes ≤ 140737488355328) (h63 : cs.length + ds.length ≤ maxLen) (hbase : base ≤ w.heap.size) (hN : N = cs.length) (hM : M = ds.length)
    (h : ∀ A' c' w', Own w' base e sz A' c' (cs ++ ds) → w.grownBy w' (Value.slice A N c).ownBlock → K (a.put o.dst (.slice A' (N + M) c')) w') : Oper.wp P o a w K Q := by
  obtain ⟨A', c', w', hrun, h2, h3⟩ := iS (P := P) (ty := o.type) w T base A c cs hown B d ds hrd hds h1 hbytes h63 hbase N M hN hM
  unfold Oper.wp execOp
  simp only [ho, resolve, invoke, builtin, Sem.run_bind, Sem.run_pure, Result.andThen_ok, List.map_toArray, List.map_cons, List.map_nil, hs, hx, hrun]
  exact h A' c' w' h2 h3
theorem cU (w : World) (hgd : o.guard = none) (s x : Operand) (t : TypeId)
    (ho : o.op = .call { callee := .builtin .append, args := #[s, x], argTypes := #[t, t] })
    {e : TypeId} {sz bytes : Nat} (T : SlT P t e sz bytes) (base : Nat) (A : Option Addr) (N c : Nat) (cs : List (List Value)) (hs : a.eval s = .slice A N c) (hown : Own w base e sz A c cs)
    (B : Option Addr) (M d : Nat) (ds : List (List Value)) (hx : a.eval x = .slice B M d) (hrd : Rd w w.heap.size B sz ds) (hds : ∀ r ∈ ds, r.length = sz) (h1 : ∀ r ∈ ds, ∀ u ∈ r, u.oneCell' = true)
    (hbytes : (cs.length + ds.length) * bytes ≤ 140737488355328) (h63 : cs.length + ds.length ≤ maxLen) (hbase : base ≤ w.heap.size) (hN : N = cs.length) (hM : M = ds.length)
    (h : ∀ A' c' w', Own w' base e sz A' c' (cs ++ ds) → w.grownBy w' (Value.slice A N c).ownBlock → wpList P ops Q rest (a.put o.dst (.slice A' (N + M) c')) w') : wpList P ops Q (o :: rest) a w :=
  wpList_plain hgd fun _ hK => wp_append_rows w s x t ho T base A N c cs hs hown B M d ds hx hrd hds h1 hbytes h63 hbase hN hM fun A' c' w' h2 h3 => hK _ _ (h A' c' w' h2 h3)
end
theorem Own.grown {w w' : World} {base : Nat} {e : TypeId} {sz : Nat} {A : Option Addr} {c : Nat} {cs : List (List Value)} (h : Own w base e sz A c cs) (hb : Below w.heap.size w w') : Own w' base e sz A c cs := by
  have hg : w.grownBy w' none := ⟨hb.os, hb.tape, hb.output, hb.size, fun k hk _ => hb.block k hk⟩
  refine World.ownsRow.kept h hg ?_
  cases A <;> simp [Value.ownBlock]
theorem iN {B : Nat} {w w1 w2 : World} {base : Nat} {e : TypeId} {sz : Nat} {A : Option Addr} {N c : Nat} {cs : List (List Value)} (h : Below B w w1) (hg : w1.grownBy w2 (Value.slice A N c).ownBlock) (hown : Own w1 base e sz A c cs) (hB : B ≤ base) (hB2 : B ≤ w1.heap.size) : Below B w w2 :=
  h.grown hg hB2 (fun k hk => by
    have hk' : (Value.slice A cs.length c).ownBlock = some k := by rw [← hk]; cases A <;> rfl
    have := (World.ownsRow.lt hown k hk').1
    omega)
theorem jK {w1 w2 : World} {base : Nat} {e : TypeId} {sz : Nat} {A : Option Addr} {N c : Nat} {cs : List (List Value)} (hg : w1.grownBy w2 (Value.slice A N c).ownBlock) (hown : Own w1 base e sz A c cs) (hB : base ≤ w1.heap.size) : Below base w1 w2 :=
  iN (Below.refl _ _) hg hown (Nat.le_refl _) hB
theorem Own.alloc {w : World} {base : Nat} {e : TypeId} {sz : Nat} {A : Option Addr} {c : Nat} {cs : List (List Value)} (h : Own w base e sz A c cs) (o : Obj) : Own (w.alloc o) base e sz A c cs := World.ownsRow.alloc h o
theorem Own.drew {w : World} {base : Nat} {e : TypeId} {sz : Nat} {A : Option Addr} {c : Nat} {cs : List (List Value)} (h : Own w base e sz A c cs) : Own w.drew base e sz A c cs := h
theorem foldl_push (l : List UInt8) : ∀ s : ByteArray, (l.map (fun c => (c.toNat : Int))).foldl (fun r n => r.push (UInt8.ofNat n.toNat)) s = ⟨(s.data.toList ++ l).toArray⟩ := by
  induction l with
  | nil => intro s; simp
  | cons c l ih =>
    intro s
    rw [List.map_cons, List.foldl_cons, ih]
    have e : (s.push (UInt8.ofNat ((c.toNat : Int)).toNat)).data.toList = s.data.toList ++ [c] := by simp [ByteArray.push]
    rw [e]
    simp
theorem eE {P : Program} (w : World) (src dst e : TypeId) (hs : P.underlying src = some (.slice e)) (he : P.underlying e = some (.int .u8)) (hd : P.underlying dst = some .string)
    (g n c : Nat) (l : List UInt8) (hn : n = l.length) (hc : ∀ i (h : i < l.length), w.cell? ⟨g, i, none⟩ = some (.int .u8 (l[i].toNat : Int))) :
    (convert src dst (.slice (some ⟨g, 0, none⟩) n c)).run P w = .ok (.string ⟨l.toArray⟩) w := by
  subst hn
  rw [run_convert_bytes_string w src dst e _ _ _ hs he hd]
  rw [run_bytesToString w ⟨g, 0, none⟩ l.length c (l.map fun c => (c.toNat : Int)) (by
    have := run_loadCells_list (P := P) (w := w) ⟨g, 0, none⟩ ((l.map fun c => (c.toNat : Int)).map (Value.int .u8)) (fun j v hj => by
      rw [List.getElem?_map, List.getElem?_map] at hj
      have hjl : j < l.length := by
        rcases Nat.lt_or_ge j l.length with h | h
        · exact h
        · rw [List.getElem?_eq_none h] at hj; simp at hj
      rw [List.getElem?_eq_getElem hjl] at hj
      simp only [Option.map_some, Option.some.injEq] at hj
      rw [Go.WideShapes.add_plain, Nat.zero_add, hc j hjl, hj])
    simpa using this)]
  rw [foldl_push]
  rfl
theorem aV {a b : Bool} (h : a = b) : Ending.returned (.bool a) = Ending.returned (.bool b) := by rw [h]
theorem ret_int {k : IntKind} {a b : Int} (h : a = b) : Ending.returned (.int k a) = Ending.returned (.int k b) := by rw [h]
structure InW (w : World) where
  W : World
  h : Below w.heap.size w W
instance inW_some (w : World) : Nonempty (InW w) := ⟨⟨w, Below.refl _ w⟩⟩
theorem bF {P : Program} {id : Nat} {Q : Exit → Act → World → Prop} {a : Act} {w : World} {l : List Oper} (hm : P.follows .mixedOrders = true) (hB : Region.lexB .any l.toArray = true)
    (h : wpQuiet P l.toArray (fun w' => ∃ s : InW w, w' = s.W) (fun a' => ∀ w', (∃ s : InW w, w' = s.W) → Q .normal a' w') l a) : (Code.region id l.toArray true).wp P Q a w :=
  wp_region_quiet (C := fun w' => ∃ s : InW w, w' = s.W) hm hB ⟨⟨_, (Below.refl _ w).drew⟩, rfl⟩ (by simpa using h)
theorem InW.cell {w : World} (s : InW w) {b o : Nat} {v : Value} (hb : b < w.heap.size) (hc : w.cell? ⟨b, o, none⟩ = some v) : s.W.cell? ⟨b, o, none⟩ = some v := aT s.h hb hc
theorem cO {P : Program} {f : FuncId} {args : Array Value} {w : World} {s : InW w} {v : Value} (h : Calls P f args s.W fun e w' => e = .returned v ∧ Below s.W.heap.size s.W w') :
    Calls P f args s.W fun e w'' => e = .returned v ∧ ∃ s' : InW w, w'' = s'.W :=
  h.mono fun _ w' ⟨a, q⟩ => ⟨a, ⟨w', s.h.trans (q.mono s.h.size)⟩, rfl⟩
theorem gB {P : Program} {f : FuncId} {args : Array Value} {w : World} {s : InW w} {v : Value} (h : Calls P f args s.W fun e w' => e = .returned v ∧ s.W = w') :
    Calls P f args s.W fun e w'' => e = .returned v ∧ ∃ s' : InW w, w'' = s'.W :=
  h.mono fun _ _ ⟨a, q⟩ => ⟨a, s, q.symm⟩
end Go.Proofs.YtkmddjbialpppaaGreatDoor
