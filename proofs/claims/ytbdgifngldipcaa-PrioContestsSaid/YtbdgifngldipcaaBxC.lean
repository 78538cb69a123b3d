/- The methods of box's queue. -/
import Derived.Test.YtbdgifngldipcaaBxB
import Derived.Test.YtbdgifngldipcaaOwS
namespace Go.Proofs.Ytbdgifngldipcaa
open Go.ChangeShapes Go.WideShapes Go.ChangeAt Go.RowKit
open FP (Fr)

/-- The queue at bq holds l; what lay ahead of B is as it was. -/
structure HQ (B : Nat) (w : World) (bq : Nat) (A : Option Addr) (c : Nat) (l : List Bx) (W : World) : Prop where
  box : W.heap[bq]? = some (.cells #[.slice A l.length c] 97 (0, 0))
  own : Own W B 70 7 A c (l.map bxc)
  q : Below B w W
  hB : B ≤ bq

section
variable {B : Nat} {w : World} {bq : Nat} {A : Option Addr} {c : Nat} {l : List Bx} {W W' : World}
theorem HQ.lt (h : HQ B w bq A c l W) : bq < W.heap.size := heap_lt h.box
theorem HQ.size (h : HQ B w bq A c l W) : B ≤ W.heap.size := Nat.le_trans h.hB (Nat.le_of_lt h.lt)
theorem HQ.below (h : HQ B w bq A c l W) (hb : Below W.heap.size W W') : HQ B w bq A c l W' :=
  ⟨heap_below h.box hb, h.own.grown hb, below_next h.q h.size hb, h.hB⟩
theorem HQ.cell (h : HQ B w bq A c l W) : W.cell? ⟨bq, 0, none⟩ = some (.slice A l.length c) := Boxed.cell (t := 97) h.box
theorem HQ.free (h : HQ B w bq A c l W) : W.frozen? ⟨bq, 0, none⟩ = false := Boxed.frozen (t := 97) h.box
theorem HQ.rd (h : HQ B w bq A c l W) : BxR W W.heap.size A l := h.own.rd (bxc_rows l)
theorem HQ.addr (h : HQ B w bq A c l W) (hn : 0 < l.length) : ∃ g, A = some ⟨g, 0, none⟩ := by
  obtain ⟨g, e, _⟩ := h.own.ofLen (by simpa using hn)
  exact ⟨g, e⟩
theorem HQ.le (h : HQ B w bq A c l W) : l.length ≤ c := by have := h.own.le; simpa using this
end

def swapL (l : List Bx) (i k : Nat) : List Bx := match l[i]?, l[k]? with
  | some x, some y => (l.set i y).set k x
  | _, _ => l
theorem swapL_len (l : List Bx) (i k : Nat) : (swapL l i k).length = l.length := by
  unfold swapL
  split <;> simp
theorem swapL_eq {l : List Bx} {i k : Nat} (hi : i < l.length) (hk : k < l.length) : swapL l i k = (l.set i l[k]).set k l[i] := by
  unfold swapL
  rw [List.getElem?_eq_getElem hi, List.getElem?_eq_getElem hk]

set_option maxRecDepth 100000 in
theorem qLen_any (A : Option Addr) (n c : Nat) (w : World) : Calls Try.prog 120 #[.slice A n c] w fun e w' => e = .returned (.int .i64 n) ∧ w = w' := by
  go_enter Try.func120, Try.ntmps120
  go_wp2
  go_ret
  exact ⟨rfl, rfl⟩

set_option maxRecDepth 100000 in
set_option maxHeartbeats 1000000 in
theorem qLess_any (l : List Bx) (b off c i k : Nat) (w : World) (hr : BxR w w.heap.size (some ⟨b, off, none⟩) l) (hid : ∀ x ∈ l, x.f.id < 4294967296) (hi : i < l.length) (hk : k < l.length) :
    Calls Try.prog 121 #[.slice (some ⟨b, off, none⟩) l.length c, .int .i64 i, .int .i64 k] w fun e w' => e = .returned (.bool (aheadB l[i] l[k])) ∧ Below w.heap.size w w' := by
  have AH := hide (fun W => ahead_any l[i] l[k] W (hid _ (List.getElem_mem hi)) (hid _ (List.getElem_mem hk)))
  have mi := BxR.all hr (Nat.le_refl _) hi
  have mk := BxR.all hr (Nat.le_refl _) hk
  have i1 : (i : Int) < (l.length : Int) := by omega
  have i2 : (k : Int) < (l.length : Int) := by omega
  have i3 : (0 : Int) ≤ (i : Int) := by omega
  have i4 : (0 : Int) ≤ (k : Int) := by omega
  clear hid hr
  go_enter Try.func121, Try.ntmps121
  go_wp2_with fail
  refine wp_region_tame (by kernel_rfl) (by kernel_rfl) ?_
  repeat (go_big_quiet_step (first | (go_at_call 73; exact tame_of (AH.out _))))
  refine wpQuiet_nil ?_
  rintro _ ⟨s, rfl⟩
  have hs := s.h
  clear mi mk
  go_wp2
  go_ret
  exact ⟨rfl, hs⟩

set_option maxRecDepth 100000 in
theorem meth_less (w : World) (bq n c : Nat) (A : Option Addr) (hc : w.cell? ⟨bq, 0, none⟩ = some (.slice A n c)) :
    (method 259 98 (.pointer (some ⟨bq, 0, none⟩)) "Less").run Try.prog w = .ok (121, .slice A n c) w := by
  have h : (method 259 98 (.pointer (some ⟨bq, 0, none⟩)) "Less").run Try.prog = (do let v ← Instr.loadAt 97 (.pointer (some ⟨bq, 0, none⟩)); pure ((121 : FuncId), v) : Sem (FuncId × Value)).run Try.prog := by kernel_rfl
  rw [h]
  go_simp
theorem meth_len (w : World) (bq n c : Nat) (A : Option Addr) (hc : w.cell? ⟨bq, 0, none⟩ = some (.slice A n c)) :
    (method 259 98 (.pointer (some ⟨bq, 0, none⟩)) "Len").run Try.prog w = .ok (120, .slice A n c) w := by
  have h : (method 259 98 (.pointer (some ⟨bq, 0, none⟩)) "Len").run Try.prog = (do let v ← Instr.loadAt 97 (.pointer (some ⟨bq, 0, none⟩)); pure ((120 : FuncId), v) : Sem (FuncId × Value)).run Try.prog := by kernel_rfl
  rw [h]
  go_simp
theorem meth_swap (w : World) (bq n c : Nat) (A : Option Addr) (hc : w.cell? ⟨bq, 0, none⟩ = some (.slice A n c)) :
    (method 259 98 (.pointer (some ⟨bq, 0, none⟩)) "Swap").run Try.prog w = .ok (122, .slice A n c) w := by
  have h : (method 259 98 (.pointer (some ⟨bq, 0, none⟩)) "Swap").run Try.prog = (do let v ← Instr.loadAt 97 (.pointer (some ⟨bq, 0, none⟩)); pure ((122 : FuncId), v) : Sem (FuncId × Value)).run Try.prog := by kernel_rfl
  rw [h]
  go_simp
theorem meth_push (w : World) (a : Addr) : (method 259 98 (.pointer (some a)) "Push").run Try.prog w = .ok (124, .pointer (some a)) w := by kernel_rfl
theorem meth_pop (w : World) (a : Addr) : (method 259 98 (.pointer (some a)) "Pop").run Try.prog w = .ok (123, .pointer (some a)) w := by kernel_rfl

theorem bx_load (W : World) (g o : Nat) (x : Bx) (h : W.rangeAt g o (bxc x)) : (Instr.loadAt 70 (.pointer (some ⟨g, o, none⟩))).run Try.prog W = .ok (.agg #[.int .i64 x.h, .int .u32 x.f.id, .bool x.f.ext, .bool x.f.rem, .int .i64 x.f.dlc, .string x.f.data, .int .i64 x.s]) W :=
  run_loadAt_mid W g o 70 (bxc x) _ h Try.underlying70 rfl (by kernel_rfl)

theorem bx_exec (W : World) (g o : Nat) (x : Bx) (h : W.rangeAt g o (bxc x)) (ev : Operand → Value) (op : Oper) (p : Operand) (ho : op.op = .load 70 p) (hp : ev p = .pointer (some ⟨g, o, none⟩)) :
    (execOp ev op).run Try.prog W = .ok (.value (.agg #[.int .i64 x.h, .int .u32 x.f.id, .bool x.f.ext, .bool x.f.rem, .int .i64 x.f.dlc, .string x.f.data, .int .i64 x.s])) W := by
  have := bx_load W g o x h
  unfold execOp
  simp only [ho, hp, Sem.run_bind, this, Result.andThen_ok, Sem.run_pure]

/-- What the loads of an exchange ask. -/
def swR (g i k : Nat) (x y : Bx) : Nat → World → Prop
  | 7, W => W.rangeAt g (k * 7) (bxc y)
  | 11, W => W.rangeAt g (i * 7) (bxc x)
  | _, _ => True
theorem swR_other {g i k : Nat} {x y : Bx} {j : Nat} {W : World} (h7 : j ≠ 7) (h11 : j ≠ 11) : swR g i k x y j W := by
  unfold swR
  split <;> simp_all
theorem swKeeps {ops : Array Oper} {g i k : Nat} {x y : Bx} {j : Nat} {w w' : World} (hj : j ∉ [0, 1, 2, 3, 4, 5, 6, 7, 8, 9, 10, 11, 12, 14]) (h7 : mayAhead .any ops 7 j = false) (h11 : mayAhead .any ops 11 j = false) :
    keeps .any ops [0, 1, 2, 3, 4, 5, 6, 7, 8, 9, 10, 11, 12, 14] (swR g i k x y) j w w' := ⟨fun h => absurd h hj, fun _ m _ hm => by
  by_cases a : m = 7
  · subst a; rw [h7] at hm; cases hm
  · by_cases b : m = 11
    · subst b; rw [h11] at hm; cases hm
    · exact swR_other a b⟩

set_option maxRecDepth 100000 in
set_option maxHeartbeats 2000000 in
theorem qSwap_any (B : Nat) (w : World) (bq g c : Nat) (l : List Bx) (W : World) (h : HQ B w bq (some ⟨g, 0, none⟩) c l W) (i k : Nat) (hi : i < l.length) (hk : k < l.length) :
    Calls Try.prog 122 #[.slice (some ⟨g, 0, none⟩) l.length c, .int .i64 i, .int .i64 k] W fun e W' => e = .returned (.tuple #[]) ∧ HQ B w bq (some ⟨g, 0, none⟩) c (swapL l i k) W' := by
  have i1 : (i : Int) < (l.length : Int) := by omega
  have i2 : (k : Int) < (l.length : Int) := by omega
  have i3 : (0 : Int) ≤ (i : Int) := by omega
  have i4 : (0 : Int) ≤ (k : Int) := by omega
  have H := hide h
  have ri := hide (show W.rangeAt g (i * 7) (bxc l[i]) by have := h.own.range (bxc_rows l) (k := i) (by simpa using hi); simpa using this)
  have rk := hide (show W.rangeAt g (k * 7) (bxc l[k]) by have := h.own.range (bxc_rows l) (k := k) (by simpa using hk); simpa using this)
  clear h
  go_enter Try.func122, Try.ntmps122
  refine wp_region_S [0, 1, 2, 3, 4, 5, 6, 7, 8, 9, 10, 11, 12, 14] (swR g i k l[i] l[k]) (by kernel_rfl) ?_
  refine wpAnyS_take (i := 0) (v := .slice (some ⟨g, 0, none⟩) l.length c) rfl (by simp) (by kernel_rfl) (by kernel_rfl) (by kernel_rfl) (fun _ _ _ h => h) rfl (fun _ _ => rfl) (swR_other (by decide) (by decide)) ?_
  refine wpAnyS_take (i := 1) (v := .int .i64 i) rfl (by simp) (by kernel_rfl) (by kernel_rfl) (by kernel_rfl) (fun _ _ _ h => h) rfl (fun _ _ => rfl) (swR_other (by decide) (by decide)) ?_
  refine wpAnyS_take (i := 2) (v := .slice (some ⟨g, 0, none⟩) l.length c) rfl (by simp) (by kernel_rfl) (by kernel_rfl) (by kernel_rfl) (fun _ _ _ h => h) rfl (fun _ _ => rfl) (swR_other (by decide) (by decide)) ?_
  refine wpAnyS_take (i := 3) (v := .int .i64 k) rfl (by simp) (by kernel_rfl) (by kernel_rfl) (by kernel_rfl) (fun _ _ _ h => h) rfl (fun _ _ => rfl) (swR_other (by decide) (by decide)) ?_
  refine wpAnyS_take (i := 4) (v := .slice (some ⟨g, 0, none⟩) l.length c) rfl (by simp) (by kernel_rfl) (by kernel_rfl) (by kernel_rfl) (fun _ _ _ h => h) rfl (fun _ _ => rfl) (swR_other (by decide) (by decide)) ?_
  refine wpAnyS_take (i := 5) (v := .int .i64 k) rfl (by simp) (by kernel_rfl) (by kernel_rfl) (by kernel_rfl) (fun _ _ _ h => h) rfl (fun _ _ => rfl) (swR_other (by decide) (by decide)) ?_
  refine wpAnyS_take (i := 6) (v := .pointer (some ⟨g, k * 7, none⟩)) rfl (by simp) (by kernel_rfl) (by kernel_rfl) (by kernel_rfl) (fun _ _ _ h => h) rfl (fun W _ => by go_simp) (swR_other (by decide) (by decide)) ?_
  go_simp
  refine wpAnyS_take (i := 7) (v := .agg #[.int .i64 l[k].h, .int .u32 l[k].f.id, .bool l[k].f.ext, .bool l[k].f.rem, .int .i64 l[k].f.dlc, .string l[k].f.data, .int .i64 l[k].s]) rfl (by simp) (by kernel_rfl) (by kernel_rfl) (by kernel_rfl) (fun _ _ _ h => h) rfl (fun W h => bx_exec W g (k * 7) l[k] h _ _ (.tmp 12) (by rfl) (by rfl)) (rk.out) ?_
  go_simp
  refine wpAnyS_take (i := 8) (v := .slice (some ⟨g, 0, none⟩) l.length c) rfl (by simp) (by kernel_rfl) (by kernel_rfl) (by kernel_rfl) (fun _ _ _ h => h) rfl (fun _ _ => rfl) (swR_other (by decide) (by decide)) ?_
  refine wpAnyS_take (i := 9) (v := .int .i64 i) rfl (by simp) (by kernel_rfl) (by kernel_rfl) (by kernel_rfl) (fun _ _ _ h => h) rfl (fun _ _ => rfl) (swR_other (by decide) (by decide)) ?_
  refine wpAnyS_take (i := 10) (v := .pointer (some ⟨g, i * 7, none⟩)) rfl (by simp) (by kernel_rfl) (by kernel_rfl) (by kernel_rfl) (fun _ _ _ h => h) rfl (fun W _ => by go_simp) (swR_other (by decide) (by decide)) ?_
  go_simp
  refine wpAnyS_take (i := 11) (v := .agg #[.int .i64 l[i].h, .int .u32 l[i].f.id, .bool l[i].f.ext, .bool l[i].f.rem, .int .i64 l[i].f.dlc, .string l[i].f.data, .int .i64 l[i].s]) rfl (by simp) (by kernel_rfl) (by kernel_rfl) (by kernel_rfl) (fun _ _ _ h => h) rfl (fun W h => bx_exec W g (i * 7) l[i] h _ _ (.tmp 16) (by rfl) (by rfl)) (ri.out) ?_
  go_simp
  refine wpAnyS_take (i := 12) (v := .pointer (some ⟨g, i * 7, none⟩)) rfl (by simp) (by kernel_rfl) (by kernel_rfl) (by kernel_rfl) (fun _ _ _ h => h) rfl (fun W _ => by go_simp) (swR_other (by decide) (by decide)) ?_
  go_simp
  have o0 : Own W.drew B 70 7 (some ⟨g, 0, none⟩) c (l.map bxc) := H.out.own.drew
  have hq0 := H.out.below ((Below.refl _ W).drew)
  have th1 := o0.there (bxc_rows l) (k := i) (by simpa using hi)
  refine wpAnyS_one (i := 13) (by kernel_rfl) ?_
  refine wpOp_do rfl rfl ?_
  refine wp_store_as 70 (.tmp 18) (.tmp 13) rfl g (i * 7) (bxc l[k]) (by rfl) (by rfl) th1 (by kernel_rfl) (by simp [bxc, Value.oneCell']) ?_
  intro W1 eW1
  obtain ⟨s1, g1⟩ := o0.setRow (bxc_rows l) (k := i) (row := bxc l[k]) (by simpa using hi) rfl
  rw [← eW1] at s1 g1
  have e1 : (l.map bxc).set i (bxc l[k]) = (l.set i l[k]).map bxc := by rw [List.map_set]
  rw [e1] at s1
  have th2 := s1.there (bxc_rows _) (k := k) (by simpa using hk)
  clear eW1 e1
  refine ⟨swKeeps (by decide) (by kernel_rfl) (by kernel_rfl), ?_⟩
  go_simp
  refine wpAnyS_take (i := 14) (v := .pointer (some ⟨g, k * 7, none⟩)) rfl (by simp) (by kernel_rfl) (by kernel_rfl) (by kernel_rfl) (fun _ _ _ h => h) rfl (fun W _ => by go_simp) (swR_other (by decide) (by decide)) ?_
  go_simp
  refine wpAnyS_one (i := 15) (by kernel_rfl) ?_
  refine wpOp_do rfl rfl ?_
  refine wp_store_as 70 (.tmp 19) (.tmp 17) rfl g (k * 7) (bxc l[i]) (by rfl) (by rfl) th2 (by kernel_rfl) (by simp [bxc, Value.oneCell']) ?_
  intro W2 eW2
  obtain ⟨s2, g2⟩ := s1.setRow (bxc_rows _) (k := k) (row := bxc l[i]) (by simpa using hk) rfl
  rw [← eW2] at s2 g2
  have e2 : ((l.set i l[k]).map bxc).set k (bxc l[i]) = (swapL l i k).map bxc := by rw [swapL_eq hi hk]; simp only [List.map_set]
  rw [e2] at s2
  have g12 := grownBy_trans g1 g2
  clear eW2 e2
  refine ⟨swKeeps (by decide) (by kernel_rfl) (by kernel_rfl), ?_⟩
  refine wpAnyS_done (by kernel_rfl) ?_ _
  have HN : HQ B w bq (some ⟨g, 0, none⟩) c (swapL l i k) W2 :=
    ⟨by rw [swapL_len]; exact heap_grown (n := 0) hq0.box (by decide) o0 g12, s2, below_append (N := 0) (A := some ⟨g, 0, none⟩) (c := c) hq0.q g12 o0 (Nat.le_refl _) hq0.size, hq0.hB⟩
  go_end0
  exact ⟨rfl, HN⟩
end Go.Proofs.Ytbdgifngldipcaa
