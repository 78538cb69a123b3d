/- The methods of box's queue. -/
import Derived.Test.YtkfedgjepiljiaaDoorBxB
import Derived.Test.YtkfedgjepiljiaaDoorOwS
namespace Go.Proofs.YtkfedgjepiljiaaDoor
open Go.ChangeShapes Go.WideShapes Go.ChangeAt Go.RowKit
open FP (Fr)

/-- The queue at bq holds l; what lay ahead of B is as it was. -/
structure HQ (B : Nat) (w : World) (bq : Nat) (A : Option Addr) (c : Nat) (l : List Bx) (W : World) : Prop where
  box : W.heap[bq]? = some (.cells #[.slice A l.length c] 73 (0, 0))
  own : Own W B 60 7 A c (l.map bxc)
  q : Below B w W
  hB : B ≤ bq

section
variable {B : Nat} {w : World} {bq : Nat} {A : Option Addr} {c : Nat} {l : List Bx} {W W' : World}
theorem HQ.lt (h : HQ B w bq A c l W) : bq < W.heap.size := heap_lt h.box
theorem HQ.size (h : HQ B w bq A c l W) : B ≤ W.heap.size := Nat.le_trans h.hB (Nat.le_of_lt h.lt)
theorem HQ.below (h : HQ B w bq A c l W) (hb : Below W.heap.size W W') : HQ B w bq A c l W' :=
  ⟨heap_below h.box hb, h.own.grown hb, below_next h.q h.size hb, h.hB⟩
theorem HQ.cell (h : HQ B w bq A c l W) : W.cell? ⟨bq, 0, none⟩ = some (.slice A l.length c) := Boxed.cell (t := 73) h.box
theorem HQ.free (h : HQ B w bq A c l W) : W.frozen? ⟨bq, 0, none⟩ = false := Boxed.frozen (t := 73) h.box
theorem HQ.rd (h : HQ B w bq A c l W) : BxR W W.heap.size A l := h.own.rd (bxc_rows l)
theorem HQ.addr (h : HQ B w bq A c l W) (hn : 0 < l.length) : ∃ g, A = some ⟨g, 0, none⟩ := by
  obtain ⟨g, e, _⟩ := h.own.ofLen (by simpa using hn)
  exact ⟨g, e⟩
theorem HQ.le (h : HQ B w bq A c l W) : l.length ≤ c := by have := h.own.le; simpa using this
end

def swapL (l : List Bx) (i k : Nat) : List Bx := match l[i]?, l[k]? with
  | some x, some y => (l.set i y).set k x
  | _, _ => l
theorem swapL_len (l : List Bx) (i k : Nat) : (swapL l i k).length = l.length := by
  unfold swapL
  split <;> simp
theorem swapL_eq {l : List Bx} {i k : Nat} (hi : i < l.length) (hk : k < l.length) : swapL l i k = (l.set i l[k]).set k l[i] := by
  unfold swapL
  rw [List.getElem?_eq_getElem hi, List.getElem?_eq_getElem hk]

set_option maxRecDepth 100000 in
theorem qLen_any (A : Option Addr) (n c : Nat) (w : World) : Calls Tryd.prog 114 #[.slice A n c] w fun e w' => e = .returned (.int .i64 n) ∧ w = w' := by
  go_enter Tryd.func114, Tryd.ntmps114
  go_wp2
  go_ret
  exact ⟨rfl, rfl⟩

set_option maxRecDepth 100000 in
set_option maxHeartbeats 1000000 in
theorem qLess_any (l : List Bx) (b off c i k : Nat) (w : World) (hr : BxR w w.heap.size (some ⟨b, off, none⟩) l) (hid : ∀ x ∈ l, x.f.id < 4294967296) (hi : i < l.length) (hk : k < l.length) :
    Calls Tryd.prog 115 #[.slice (some ⟨b, off, none⟩) l.length c, .int .i64 i, .int .i64 k] w fun e w' => e = .returned (.bool (aheadB l[i] l[k])) ∧ Below w.heap.size w w' := by
  have AH := hide (fun W => ahead_any l[i] l[k] W (hid _ (List.getElem_mem hi)) (hid _ (List.getElem_mem hk)))
  have mi := BxR.all hr (Nat.le_refl _) hi
  have mk := BxR.all hr (Nat.le_refl _) hk
  have i1 : (i : Int) < (l.length : Int) := by omega
  have i2 : (k : Int) < (l.length : Int) := by omega
  have i3 : (0 : Int) ≤ (i : Int) := by omega
  have i4 : (0 : Int) ≤ (k : Int) := by omega
  clear hid hr
  go_enter Tryd.func115, Tryd.ntmps115
  go_wp2_with fail
  refine wp_region_tame (by kernel_rfl) (by kernel_rfl) ?_
  repeat (go_big_quiet_step (first | (go_at_call 51; exact tame_of (AH.out _))))
  refine wpQuiet_nil ?_
  rintro _ ⟨s, rfl⟩
  have hs := s.h
  clear mi mk
  go_wp2
  go_ret
  exact ⟨rfl, hs⟩

set_option maxRecDepth 100000 in
theorem meth_less (w : World) (bq n c : Nat) (A : Option Addr) (hc : w.cell? ⟨bq, 0, none⟩ = some (.slice A n c)) :
    (method 274 75 (.pointer (some ⟨bq, 0, none⟩)) "Less").run Tryd.prog w = .ok (115, .slice A n c) w := by
  have h : (method 274 75 (.pointer (some ⟨bq, 0, none⟩)) "Less").run Tryd.prog = (do let v ← Instr.loadAt 73 (.pointer (some ⟨bq, 0, none⟩)); pure ((115 : FuncId), v) : Sem (FuncId × Value)).run Tryd.prog := by kernel_rfl
  rw [h]
  go_simp
theorem meth_len (w : World) (bq n c : Nat) (A : Option Addr) (hc : w.cell? ⟨bq, 0, none⟩ = some (.slice A n c)) :
    (method 274 75 (.pointer (some ⟨bq, 0, none⟩)) "Len").run Tryd.prog w = .ok (114, .slice A n c) w := by
  have h : (method 274 75 (.pointer (some ⟨bq, 0, none⟩)) "Len").run Tryd.prog = (do let v ← Instr.loadAt 73 (.pointer (some ⟨bq, 0, none⟩)); pure ((114 : FuncId), v) : Sem (FuncId × Value)).run Tryd.prog := by kernel_rfl
  rw [h]
  go_simp
theorem meth_swap (w : World) (bq n c : Nat) (A : Option Addr) (hc : w.cell? ⟨bq, 0, none⟩ = some (.slice A n c)) :
    (method 274 75 (.pointer (some ⟨bq, 0, none⟩)) "Swap").run Tryd.prog w = .ok (116, .slice A n c) w := by
  have h : (method 274 75 (.pointer (some ⟨bq, 0, none⟩)) "Swap").run Tryd.prog = (do let v ← Instr.loadAt 73 (.pointer (some ⟨bq, 0, none⟩)); pure ((116 : FuncId), v) : Sem (FuncId × Value)).run Tryd.prog := by kernel_rfl
  rw [h]
  go_simp
theorem meth_push (w : World) (a : Addr) : (method 274 75 (.pointer (some a)) "Push").run Tryd.prog w = .ok (118, .pointer (some a)) w := by kernel_rfl
theorem meth_pop (w : World) (a : Addr) : (method 274 75 (.pointer (some a)) "Pop").run Tryd.prog w = .ok (117, .pointer (some a)) w := by kernel_rfl

theorem bx_load (W : World) (g o : Nat) (x : Bx) (h : W.rangeAt g o (bxc x)) : (Instr.loadAt 60 (.pointer (some ⟨g, o, none⟩))).run Tryd.prog W = .ok (.agg #[.int .i64 x.h, .int .u32 x.f.id, .bool x.f.ext, .bool x.f.rem, .int .i64 x.f.dlc, .string x.f.data, .int .i64 x.s]) W :=
  run_loadAt_mid W g o 60 (bxc x) _ h Tryd.underlying60 rfl (by kernel_rfl)

theorem bx_exec (W : World) (g o : Nat) (x : Bx) (h : W.rangeAt g o (bxc x)) (ev : Operand → Value) (op : Oper) (p : Operand) (ho : op.op = .load 60 p) (hp : ev p = .pointer (some ⟨g, o, none⟩)) :
    (execOp ev op).run Tryd.prog W = .ok (.value (.agg #[.int .i64 x.h, .int .u32 x.f.id, .bool x.f.ext, .bool x.f.rem, .int .i64 x.f.dlc, .string x.f.data, .int .i64 x.s])) W := by
  have := bx_load W g o x h
  unfold execOp
  simp only [ho, hp, Sem.run_bind, this, Result.andThen_ok, Sem.run_pure]

/-- What the loads of an exchange ask. -/
def swR (g i k : Nat) (x y : Bx) : Nat → World → Prop
  | 7, W => W.rangeAt g (k * 7) (bxc y)
  | 11, W => W.rangeAt g (i * 7) (bxc x)
  | _, _ => True
theorem swR_other {g i k : Nat} {x y : Bx} {j : Nat} {W : World} (h7 : j ≠ 7) (h11 : j ≠ 11) : swR g i k x y j W := by
  unfold swR
  split <;> simp_all
theorem swKeeps {ops : Array Oper} {g i k : Nat} {x y : Bx} {j : Nat} {w w' : World} (hj : j ∉ [0, 1, 2, 3, 4, 5, 6, 7, 8, 9, 10, 11, 12, 14]) (h7 : mayAhead .any ops 7 j = false) (h11 : mayAhead .any ops 11 j = false) :
    keeps .any ops [0, 1, 2, 3, 4, 5, 6, 7, 8, 9, 10, 11, 12, 14] (swR g i k x y) j w w' := ⟨fun h => absurd h hj, fun _ m _ hm => by
  by_cases a : m = 7
  · subst a; rw [h7] at hm; cases hm
  · by_cases b : m = 11
    · subst b; rw [h11] at hm; cases hm
    · exact swR_other a b⟩

set_option maxRecDepth 100000 in
set_option maxHeartbeats 2000000 in
theorem qSwap_any (B : Nat) (w : World) (bq g c : Nat) (l : List Bx) (W : World) (h : HQ B w bq (some ⟨g, 0, none⟩) c l W) (i k : Nat) (hi : i < l.length) (hk : k < l.length) :
    Calls Tryd.prog 116 #[.slice (some ⟨g, 0, none⟩) l.length c, .int .i64 i, .int .i64 k] W fun e W' => e = .returned (.tuple #[]) ∧ HQ B w bq (some ⟨g, 0, none⟩) c (swapL l i k) W' := by
  have i1 : (i : Int) < (l.length : Int) := by omega
  have i2 : (k : Int) < (l.length : Int) := by omega
  have i3 : (0 : Int) ≤ (i : Int) := by omega
  have i4 : (0 : Int) ≤ (k : Int) := by omega
  have H := hide h
  have ri := hide (show W.rangeAt g (i * 7) (bxc l[i]) by have := h.own.range (bxc_rows l) (k := i) (by simpa using hi); simpa using this)
  have rk := hide (show W.rangeAt g (k * 7) (bxc l[k]) by have := h.own.range (bxc_rows l) (k := k) (by simpa using hk); simpa using this)
  clear h
  go_enter Tryd.func116, Tryd.ntmps116
  refine wp_region_S [0, 1, 2, 3, 4, 5, 6, 7, 8, 9, 10, 11, 12, 14] (swR g i k l[i] l[k]) (by kernel_rfl) ?_
  refine wpAnyS_take (i := 0) (v := .slice (some ⟨g, 0, none⟩) l.length c) rfl (by simp) (by kernel_rfl) (by kernel_rfl) (by kernel_rfl) (fun _ _ _ h => h) rfl (fun _ _ => rfl) (swR_other (by decide) (by decide)) ?_
  refine wpAnyS_take (i := 1) (v := .int .i64 i) rfl (by simp) (by kernel_rfl) (by kernel_rfl) (by kernel_rfl) (fun _ _ _ h => h) rfl (fun _ _ => rfl) (swR_other (by decide) (by decide)) ?_
  refine wpAnyS_take (i := 2) (v := .slice (some ⟨g, 0, none⟩) l.length c) rfl (by simp) (by kernel_rfl) (by kernel_rfl) (by kernel_rfl) (fun _ _ _ h => h) rfl (fun _ _ => rfl) (swR_other (by decide) (by decide)) ?_
  refine wpAnyS_take (i := 3) (v := .int .i64 k) rfl (by simp) (by kernel_rfl) (by kernel_rfl) (by kernel_rfl) (fun _ _ _ h => h) rfl (fun _ _ => rfl) (swR_other (by decide) (by decide)) ?_
  refine wpAnyS_take (i := 4) (v := .slice (some ⟨g, 0, none⟩) l.length c) rfl (by simp) (by kernel_rfl) (by kernel_rfl) (by kernel_rfl) (fun _ _ _ h => h) rfl (fun _ _ => rfl) (swR_other (by decide) (by decide)) ?_
  refine wpAnyS_take (i := 5) (v := .int .i64 k) rfl (by simp) (by kernel_rfl) (by kernel_rfl) (by kernel_rfl) (fun _ _ _ h => h) rfl (fun _ _ => rfl) (swR_other (by decide) (by decide)) ?_
  refine wpAnyS_take (i := 6) (v := .pointer (some ⟨g, k * 7, none⟩)) rfl (by simp) (by kernel_rfl) (by kernel_rfl) (by kernel_rfl) (fun _ _ _ h => h) rfl (fun W _ => by go_simp) (swR_other (by decide) (by decide)) ?_
  go_simp
  refine wpAnyS_take (i := 7) (v := .agg #[.int .i64 l[k].h, .int .u32 l[k].f.id, .bool l[k].f.ext, .bool l[k].f.rem, .int .i64 l[k].f.dlc, .string l[k].f.data, .int .i64 l[k].s]) rfl (by simp) (by kernel_rfl) (by kernel_rfl) (by kernel_rfl) (fun _ _ _ h => h) rfl (fun W h => bx_exec W g (k * 7) l[k] h _ _ (.tmp 12) (by rfl) (by rfl)) (rk.out) ?_
  go_simp
  refine wpAnyS_take (i := 8) (v := .slice (some ⟨g, 0, none⟩) l.length c) rfl (by simp) (by kernel_rfl) (by kernel_rfl) (by kernel_rfl) (fun _ _ _ h => h) rfl (fun _ _ => rfl) (swR_other (by decide) (by decide)) ?_
  refine wpAnyS_take (i := 9) (v := .int .i64 i) rfl (by simp) (by kernel_rfl) (by kernel_rfl) (by kernel_rfl) (fun _ _ _ h => h) rfl (fun _ _ => rfl) (swR_other (by decide) (by decide)) ?_
  refine wpAnyS_take (i := 10) (v := .pointer (some ⟨g, i * 7, none⟩)) rfl (by simp) (by kernel_rfl) (by kernel_rfl) (by kernel_rfl) (fun _ _ _ h => h) rfl (fun W _ => by go_simp) (swR_other (by decide) (by decide)) ?_
  go_simp
  refine wpAnyS_take (i := 11) (v := .agg #[.int .i64 l[i].h, .int .u32 l[i].f.id, .bool l[i].f.ext, .bool l[i].f.rem, .int .i64 l[i].f.dlc, .string l[i].f.data, .int .i64 l[i].s]) rfl (by simp) (by kernel_rfl) (by kernel_rfl) (by kernel_rfl) (fun _ _ _ h => h) rfl (fun W h => bx_exec W g (i * 7) l[i] h _ _ (.tmp 16) (by rfl) (by rfl)) (ri.out) ?_
  go_simp
  refine wpAnyS_take (i := 12) (v := .pointer (some ⟨g, i * 7, none⟩)) rfl (by simp) (by kernel_rfl) (by kernel_rfl) (by kernel_rfl) (fun _ _ _ h => h) rfl (fun W _ => by go_simp) (swR_other (by decide) (by decide)) ?_
  go_simp
  have o0 : Own W.drew B 60 7 (some ⟨g, 0, none⟩) c (l.map bxc) := H.out.own.drew
  have hq0 := H.out.below ((Below.refl _ W).drew)
  have th1 := o0.there (bxc_rows l) (k := i) (by simpa using hi)
  refine wpAnyS_one (i := 13) (by kernel_rfl) ?_
  refine wpOp_do rfl rfl ?_
  refine wp_store_as 60 (.tmp 18) (.tmp 13) rfl g (i * 7) (bxc l[k]) (by rfl) (by rfl) th1 (by kernel_rfl) (by simp [bxc, Value.oneCell']) ?_
  intro W1 eW1
  obtain ⟨s1, g1⟩ := o0.setRow (bxc_rows l) (k := i) (row := bxc l[k]) (by simpa using hi) rfl
  rw [← eW1] at s1 g1
  have e1 : (l.map bxc).set i (bxc l[k]) = (l.set i l[k]).map bxc := by rw [List.map_set]
  rw [e1] at s1
  have th2 := s1.there (bxc_rows _) (k := k) (by simpa using hk)
  clear eW1 e1
  refine ⟨swKeeps (by decide) (by kernel_rfl) (by kernel_rfl), ?_⟩
  go_simp
  refine wpAnyS_take (i := 14) (v := .pointer (some ⟨g, k * 7, none⟩)) rfl (by simp) (by kernel_rfl) (by kernel_rfl) (by kernel_rfl) (fun _ _ _ h => h) rfl (fun W _ => by go_simp) (swR_other (by decide) (by decide)) ?_
  go_simp
  refine wpAnyS_one (i := 15) (by kernel_rfl) ?_
  refine wpOp_do rfl rfl ?_
  refine wp_store_as 60 (.tmp 19) (.tmp 17) rfl g (k * 7) (bxc l[i]) (by rfl) (by rfl) th2 (by kernel_rfl) (by simp [bxc, Value.oneCell']) ?_
  intro W2 eW2
  obtain ⟨s2, g2⟩ := s1.setRow (bxc_rows _) (k := k) (row := bxc l[i]) (by simpa using hk) rfl
  rw [← eW2] at s2 g2
  have e2 : ((l.set i l[k]).map bxc).set k (bxc l[i]) = (swapL l i k).map bxc := by rw [swapL_eq hi hk]; simp only [List.map_set]
  rw [e2] at s2
  have g12 := grownBy_trans g1 g2
  clear eW2 e2
  refine ⟨swKeeps (by decide) (by kernel_rfl) (by kernel_rfl), ?_⟩
  refine wpAnyS_done (by kernel_rfl) ?_ _
  have HN : HQ B w bq (some ⟨g, 0, none⟩) c (swapL l i k) W2 :=
    ⟨by rw [swapL_len]; exact heap_grown (n := 0) hq0.box (by decide) o0 g12, s2, below_append (N := 0) (A := some ⟨g, 0, none⟩) (c := c) hq0.q g12 o0 (Nat.le_refl _) hq0.size, hq0.hB⟩
  go_end0
  exact ⟨rfl, HN⟩
end Go.Proofs.YtkfedgjepiljiaaDoor

/- The queue's Push and Pop. -/
namespace Go.Proofs.YtkfedgjepiljiaaDoor
open Go.ChangeShapes Go.WideShapes Go.ChangeAt Go.RowKit
open FP (Fr)

theorem slQueue : SlT Tryd.prog 73 60 7 48 := SlT.mk Tryd.underlying73 (z := .agg #[.int .i64 0, .int .u32 0, .bool false, .bool false, .int .i64 0, .string ⟨#[]⟩, .int .i64 0]) (by kernel_rfl) rfl (by decide)

/-- What Push's load asks. -/
def puR (bq : Nat) (v : Value) : Nat → World → Prop
  | 3, W => W.cell? ⟨bq, 0, none⟩ = some v
  | _, _ => True
theorem puR_other {bq : Nat} {v : Value} {j : Nat} {W : World} (h : j ≠ 3) : puR bq v j W := by
  unfold puR
  split <;> simp_all
theorem puKeeps {ops : Array Oper} {bq : Nat} {v : Value} {j : Nat} {w w' : World} (hj : j ∉ [0, 1, 2, 3, 4, 5, 8]) (h3 : mayAhead .any ops 3 j = false ∨ w'.cell? ⟨bq, 0, none⟩ = some v) :
    keeps .any ops [0, 1, 2, 3, 4, 5, 8] (puR bq v) j w w' := ⟨fun h => absurd h hj, fun _ m _ hm => by
  by_cases a : m = 3
  · subst a
    rcases h3 with h3 | h3
    · rw [h3] at hm; cases hm
    · exact h3
  · exact puR_other a⟩
theorem rd_heaps {W : World} {x : Nat} {b : Bx} {t : TypeId} {fz : Nat × Nat} (h : W.heap[x]? = some (.cells #[.int .i64 b.h, .int .u32 b.f.id, .bool b.f.ext, .bool b.f.rem, .int .i64 b.f.dlc, .string b.f.data, .int .i64 b.s] t fz)) : Rd W W.heap.size (some ⟨x, 0, none⟩) 7 [bxc b] := fun _ =>
  ⟨x, 0, rfl, heap_lt h, fun k row j u a c => by
    have hk : k = 0 := by have := (List.getElem?_eq_some_iff.1 a).1; simp at this; omega
    subst hk
    simp only [List.getElem?_cons_zero, Option.some.injEq] at a
    subst a
    have h2 : W.cell? ⟨x, 0 + 0 * 7 + j, none⟩ = (bxc b).toArray[0 + 0 * 7 + j]? := by simp [World.cell?, h, bxc]
    rw [h2]
    simpa using c⟩
theorem assert_box (b : Bx) (W : World) : (Instr.typeAssert (.iface 60 (.agg #[.int .i64 b.h, .int .u32 b.f.id, .bool b.f.ext, .bool b.f.rem, .int .i64 b.f.dlc, .string b.f.data, .int .i64 b.s])) 20 60 false).run Tryd.prog W = .ok (.agg #[.int .i64 b.h, .int .u32 b.f.id, .bool b.f.ext, .bool b.f.rem, .int .i64 b.f.dlc, .string b.f.data, .int .i64 b.s]) W := by kernel_rfl

set_option maxRecDepth 100000 in
set_option maxHeartbeats 2000000 in
theorem qPush_any (B : Nat) (w : World) (bq : Nat) (A : Option Addr) (c : Nat) (l : List Bx) (x : Bx) (W : World) (h : HQ B w bq A c l W) (hl : l.length ≤ 1000) :
    Calls Tryd.prog 118 #[.pointer (some ⟨bq, 0, none⟩), .iface 60 (.agg #[.int .i64 x.h, .int .u32 x.f.id, .bool x.f.ext, .bool x.f.rem, .int .i64 x.f.dlc, .string x.f.data, .int .i64 x.s])] W fun e W' => e = .returned (.tuple #[]) ∧ ∃ A' c', HQ B w bq A' c' (l ++ [x]) W' := by
  have H := hide h
  have hcell := h.cell
  have E1 := hide (show ((l.map bxc).length + [bxc x].length) * 48 ≤ 140737488355328 by simp; omega)
  have E2 := hide (show (l.map bxc).length + [bxc x].length ≤ maxLen by simp [maxLen]; omega)
  have E3 := hide (show l.length = (l.map bxc).length by simp)
  have HC := hide hcell
  clear h hcell
  go_enter Tryd.func118, Tryd.ntmps118
  refine wp_region_S [0, 1, 2, 3, 4, 5, 8] (puR bq (.slice A l.length c)) (by kernel_rfl) ?_
  refine wpAnyS_take (i := 0) (v := .pointer (some ⟨bq, 0, none⟩)) rfl (by simp) (by kernel_rfl) (by kernel_rfl) (by kernel_rfl) (fun _ _ _ h => h) rfl (fun _ _ => rfl) (puR_other (by decide)) ?_
  refine wpAnyS_take (i := 1) (v := .pointer (some ⟨bq, 0, none⟩)) rfl (by simp) (by kernel_rfl) (by kernel_rfl) (by kernel_rfl) (fun _ _ _ h => h) rfl (fun _ _ => rfl) (puR_other (by decide)) ?_
  refine wpAnyS_take (i := 2) (v := .pointer (some ⟨bq, 0, none⟩)) rfl (by simp) (by kernel_rfl) (by kernel_rfl) (by kernel_rfl) (fun _ _ _ h => h) rfl (fun W _ => by go_simp) (puR_other (by decide)) ?_
  go_simp
  refine wpAnyS_take (i := 3) (v := .slice A l.length c) rfl (by simp) (by kernel_rfl) (by kernel_rfl) (by kernel_rfl) (fun _ _ _ h => h) rfl (fun W (h : W.cell? ⟨bq, 0, none⟩ = some (.slice A l.length c)) => by go_simp) (HC.out) ?_
  refine wpAnyS_take (i := 4) (v := .iface 60 (.agg #[.int .i64 x.h, .int .u32 x.f.id, .bool x.f.ext, .bool x.f.rem, .int .i64 x.f.dlc, .string x.f.data, .int .i64 x.s])) rfl (by simp) (by kernel_rfl) (by kernel_rfl) (by kernel_rfl) (fun _ _ _ h => h) rfl (fun _ _ => rfl) (puR_other (by decide)) ?_
  refine wpAnyS_take (i := 5) (v := .agg #[.int .i64 x.h, .int .u32 x.f.id, .bool x.f.ext, .bool x.f.rem, .int .i64 x.f.dlc, .string x.f.data, .int .i64 x.s]) rfl (by simp) (by kernel_rfl) (by kernel_rfl) (by kernel_rfl) (fun _ _ _ h => h) rfl (fun W _ => by have := assert_box x W; go_simp) (puR_other (by decide)) ?_
  go_simp
  have hq0 := H.out.below ((Below.refl _ W).drew)
  generalize W.drew = W0 at *
  refine wpAnyS_one (i := 6) (by kernel_rfl) ?_
  refine wpOp_at rfl ?_
  go_simp
  have hq1 := hq0.below ((Below.refl _ W0).alloc (Nat.le_refl _) (.cells #[.int .i64 x.h, .int .u32 x.f.id, .bool x.f.ext, .bool x.f.rem, .int .i64 x.f.dlc, .string x.f.data, .int .i64 x.s] 60))
  have r6 := World.alloc_heap_new W0 (.cells #[.int .i64 x.h, .int .u32 x.f.id, .bool x.f.ext, .bool x.f.rem, .int .i64 x.f.dlc, .string x.f.data, .int .i64 x.s] 60)
  generalize W0.heap.size = x6 at *
  generalize W0.alloc (.cells #[.int .i64 x.h, .int .u32 x.f.id, .bool x.f.ext, .bool x.f.rem, .int .i64 x.f.dlc, .string x.f.data, .int .i64 x.s] 60) = W1 at *
  refine ⟨puKeeps (by decide) (.inr hq1.cell), ?_⟩
  go_simp
  refine wpAnyS_one (i := 7) (by kernel_rfl) ?_
  refine wpOp_at rfl ?_
  refine step_append_rows _ rfl _ _ 73 rfl slQueue B _ _ _ (l.map bxc) rfl hq1.own _ _ _ [bxc x] rfl (rd_heaps r6) (by simp [bxc]) (by simp [bxc, Value.oneCell']) E1.out E2.out hq1.size E3.out rfl ?_
  intro A2 c2 W2 own2 g2
  have box2 := heap_grown hq1.box (by decide) hq1.own g2
  have q2 := below_append hq1.q g2 hq1.own (Nat.le_refl _) hq1.size
  refine ⟨puKeeps (by decide) (.inl (by kernel_rfl)), ?_⟩
  go_simp
  refine wpAnyS_take (i := 8) (v := .pointer (some ⟨bq, 0, none⟩)) rfl (by simp) (by kernel_rfl) (by kernel_rfl) (by kernel_rfl) (fun _ _ _ h => h) rfl (fun W _ => by go_simp) (puR_other (by decide)) ?_
  go_simp
  refine wpAnyS_one (i := 9) (by kernel_rfl) ?_
  refine wpOp_at rfl ?_
  have c2' : W2.cell? ⟨bq, 0, none⟩ = some (.slice A l.length c) := Boxed.cell (t := 73) box2
  have z2 : W2.frozen? ⟨bq, 0, none⟩ = false := Boxed.frozen (t := 73) box2
  go_simp
  have HN : HQ B w bq A2 c2 (l ++ [x]) (W2.setCell ⟨bq, 0, none⟩ (.slice A2 (l.length + 1) c2)) :=
    ⟨by rw [List.length_append]; exact Boxed.set (t := 73) _ box2, by rw [List.map_append]; exact own_setT own2 box2 (by decide) _, q2.setCell (p := ⟨bq, 0, none⟩) hq0.hB _, hq0.hB⟩
  refine ⟨puKeeps (by decide) (.inl (by kernel_rfl)), ?_⟩
  refine wpAnyS_done (by kernel_rfl) ?_ _
  go_end0
  exact ⟨rfl, A2, c2, HN⟩
end Go.Proofs.YtkfedgjepiljiaaDoor
