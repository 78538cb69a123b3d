/- slices.AppendSeq, Collect of a row's values. -/
import Derived.Test.YtbdgifngldipcaaPsL
import Derived.Test.YtbdgifngldipcaaPrC
namespace Go.Proofs.Ytbdgifngldipcaa
open Go.ChangeShapes Go.WideShapes Go.ChangeAt Go.RowKit
open FP (Fr)
open SP

attribute [local go_sem] Oper.semAt_some

theorem keeps_grown {W W' : World} {row : Option Nat} (hg : W.grownBy W' row) (hc : ∀ j o, row = some j → W.heap[j]? = some o → o.isCells = true) : KeepsOthers W W' :=
  ⟨hg.size, fun k o h1 h2 => by
    have hlt := (Array.getElem?_eq_some_iff.1 h1).1
    by_cases e : some k = row
    · have := hc k o e.symm h1
      rw [h2] at this
      cases this
    · exact (hg.block k hlt e).trans h1⟩

/-- 's = append(s, ds...)' in a round. -/
theorem wpListIn_append_rows {F : Fence} {m : Nat} {P : Program} {ops : Array Oper} {rest : List Oper} {o : Oper} {a : Act} {Q : Exit → Act → World → Prop} (w : World) (hgd : o.guard = none) (s x : Operand) (t : TypeId)
    (ho : o.op = .call { callee := .builtin .append, args := #[s, x], argTypes := #[t, t] })
    {e : TypeId} {sz bytes : Nat} (T : SlT P t e sz bytes) (base : Nat) (A : Option Addr) (N c : Nat) (cs : List (List Value)) (hs : a.eval s = .slice A N c) (hown : Own w base e sz A c cs)
    (B : Option Addr) (M d : Nat) (ds : List (List Value)) (hx : a.eval x = .slice B M d) (hrd : Rd w w.heap.size B sz ds) (hds : ∀ r ∈ ds, r.length = sz) (h1 : ∀ r ∈ ds, ∀ u ∈ r, u.oneCell' = true)
    (hbytes : (cs.length + ds.length) * bytes ≤ 140737488355328) (h63 : cs.length + ds.length ≤ maxLen) (hbase : base ≤ w.heap.size) (hN : N = cs.length) (hM : M = ds.length)
    (h : ∀ A' c' w', Own w' base e sz A' c' (cs ++ ds) → w.grownBy w' (Value.slice A N c).ownBlock → wpListIn F m P ops Q rest (a.put o.dst (.slice A' (N + M) c')) w') : wpListIn F m P ops Q (o :: rest) a w := by
  refine wpListIn_plain hgd fun K hK' => ?_
  obtain ⟨A', c', w', hrun, h2, h3⟩ := run_append_rows (P := P) (ty := o.type) w T base A c cs hown B d ds hrd hds h1 hbytes h63 hbase N M hN hM
  unfold Oper.wpIn
  refine ⟨?_, ?_⟩
  · simp [Oper.about, ho, resolve, Target.leads, Sem.run_pure]
  · rw [Oper.semAt_plain F _ _ (by rw [ho]; intro c hc'; cases hc')]
    simp [execOp, ho, resolve, invoke, builtin, hs, hx, hrun, Result.andThen]
    exact hK' _ _ (h A' c' w' h2 h3)

theorem fr_cellsx {W : World} {B : Nat} {f : Fr} {t : TypeId} {fz : Nat × Nat} (h : W.heap[B]? = some (.cells #[.int .u32 f.id, .bool f.ext, .bool f.rem, .int .i64 f.dlc, .string f.data] t fz)) :
    W.cell? ⟨B, 0, none⟩ = some (.int .u32 f.id) ∧ W.cell? ⟨B, 1, none⟩ = some (.bool f.ext) ∧ W.cell? ⟨B, 2, none⟩ = some (.bool f.rem) ∧ W.cell? ⟨B, 3, none⟩ = some (.int .i64 f.dlc) ∧ W.cell? ⟨B, 4, none⟩ = some (.string f.data) := by
  refine ⟨?_, ?_, ?_, ?_, ?_⟩ <;> simp [World.cell?, h]
theorem one_free {W : World} {B : Nat} {v : Value} {t : TypeId} (h : W.heap[B]? = some (.cells #[v] t (0, 0))) : W.cell? ⟨B, 0, none⟩ = some v ∧ W.frozen? ⟨B, 0, none⟩ = false := by
  simp [World.cell?, World.frozen?, h]
/-- A block ahead of the own rows stands behind an append. -/
theorem heap_grown2 {W W' : World} {x : Nat} {o : Obj} (h : W.heap[x]? = some o) {base : Nat} {e : TypeId} {sz : Nat} {A : Option Addr} {c n : Nat} {cs : List (List Value)} (hg : W.grownBy W' (Value.slice A n c).ownBlock) (ho : Own W base e sz A c cs) (hx : x < base := by omega) : W'.heap[x]? = some o := by
  refine heap_grownB h hg ?_
  intro he
  have := (World.ownsRow.lt ho x (by rw [← he]; cases A <;> rfl)).1
  omega

/-- What lies when k values have come. -/
structure ApR (w : World) (Bv : Nat) (l : List Fr) (A : Option Addr) (c k : Nat) (A' : Option Addr) (n' c' : Nat) (W : World) : Prop where
  src : W.heap[Bv]? = some (.cells #[.slice A l.length c] 50 (0, 0))
  row : Rd W w.heap.size A 5 (l.map frc)
  own : Own W (w.heap.size + 1) 39 5 A' c' ((l.take k).map frc)
  len : (l.take k).length = n'
  box : W.heap[w.heap.size]? = some (.cells #[.slice A' n' c'] 50 (0, 0))
  q : Below w.heap.size w W
def ApI (w : World) (Bv : Nat) (l : List Fr) (A : Option Addr) (c k : Nat) (W : World) : Prop := ∃ A' n' c', ApR w Bv l A c k A' n' c' W
section
variable {w : World} {Bv : Nat} {l : List Fr} {A : Option Addr} {c k : Nat} {A' : Option Addr} {n' c' : Nat} {W W' : World}
theorem ApR.z (h : ApR w Bv l A c k A' n' c' W) : w.heap.size + 1 ≤ W.heap.size := heap_lt h.box
theorem ApR.below (h : ApR w Bv l A c k A' n' c' W) (b : Below W.heap.size W W') : ApR w Bv l A c k A' n' c' W' :=
  ⟨heap_below h.src b, Rd.below h.row (b.mono h.q.size), h.own.grown b, h.len, heap_below h.box b, below_next h.q h.q.size b⟩
theorem ApI.alloc (h : ApI w Bv l A c k W) (o : Obj) : ApI w Bv l A c k (W.alloc o) := by
  obtain ⟨A', n', c', h⟩ := h
  exact ⟨A', n', c', h.below ((Below.refl _ _).alloc (Nat.le_refl _) _)⟩
theorem ApI.putObj (h : ApI w Bv l A c k W) {x : Nat} {o o' : Obj} (hx : w.heap.size + 1 ≤ x) (ho : W.heap[x]? = some o) (hc : o.isCells = false) : ApI w Bv l A c k (W.putObj x o') := by
  obtain ⟨A', n', c', h⟩ := h
  have b : Below w.heap.size W (W.putObj x o') := (Below.refl _ _).grown (grownBy_putObj' W x o') h.q.size (fun k e => by cases e; omega)
  exact ⟨A', n', c', heap_put h.src ho hc, Rd.below h.row b, own_put h.own ho hc, h.len, heap_put h.box ho hc, h.q.trans b⟩
end

theorem ap_next {w W W2 w1 : World} {Bv : Nat} {l : List Fr} {A : Option Addr} {c k : Nat} {A' : Option Addr} {c' : Nat} {A2 : Option Addr} {c2 : Nat} (hBv : Bv < w.heap.size) (hk : k < l.length) (z0 : w1.heap.size = w.heap.size + 1)
    (h2 : ApR w Bv l A c k A' k c' (W.alloc (.cells #[.int .u32 l[k].id, .bool l[k].ext, .bool l[k].rem, .int .i64 l[k].dlc, .string l[k].data] 39)))
    (o2 : Own W2 (w.heap.size + 1) 39 5 A2 c2 ((l.take k).map frc ++ [frc l[k]])) (g2 : (W.alloc (.cells #[.int .u32 l[k].id, .bool l[k].ext, .bool l[k].rem, .int .i64 l[k].dlc, .string l[k].data] 39)).grownBy W2 (Value.slice A' k c').ownBlock) :
    KeepsFrom w1.heap.size W (W2.setCell ⟨w.heap.size, 0, none⟩ (.slice A2 (k + 1) c2)) ∧ ApI w Bv l A c (k + 1) (W2.setCell ⟨w.heap.size, 0, none⟩ (.slice A2 (k + 1) c2)) := by
  have hb := below_own g2 h2.own h2.z
  have k1 : KeepsOthers W (W.alloc (.cells #[.int .u32 l[k].id, .bool l[k].ext, .bool l[k].rem, .int .i64 l[k].dlc, .string l[k].data] 39)) := keeps_grown (World.grownBy_alloc W _ none) (fun _ _ h => by cases h)
  have k2 : KeepsOthers (W.alloc (.cells #[.int .u32 l[k].id, .bool l[k].ext, .bool l[k].rem, .int .i64 l[k].dlc, .string l[k].data] 39)) W2 := keeps_grown g2 (fun j o e ho => by
    rcases h2.own.2 with ⟨hv, _⟩ | ⟨g, cap, cur, hv, _, hgh, _⟩
    · simp only [Value.slice.injEq] at hv
      rw [hv.1] at e
      cases e
    · simp only [Value.slice.injEq] at hv
      rw [hv.1] at e
      simp only [Value.ownBlock, Option.some.injEq] at e
      subst e
      rw [ho] at hgh
      injection hgh with hgh
      rw [hgh]
      rfl)
  have k3 : KeepsFrom w1.heap.size W2 (W2.setCell ⟨w.heap.size, 0, none⟩ (.slice A2 (k + 1) c2)) := KeepsFrom.of_grownBy (grownBy_setCell' W2 w.heap.size _) (fun j e => by cases e; omega)
  have qq : Below w.heap.size (W.alloc (.cells #[.int .u32 l[k].id, .bool l[k].ext, .bool l[k].rem, .int .i64 l[k].dlc, .string l[k].data] 39)) (W2.setCell ⟨w.heap.size, 0, none⟩ (.slice A2 (k + 1) c2)) := (hb.mono (Nat.le_succ _)).setCell (Nat.le_refl _) _
  refine ⟨((k1.trans k2).from _).trans k3, A2, k + 1, c2, ?_, Rd.below h2.row qq, ?_, ?_, ?_, h2.q.trans qq⟩
  · rw [heap_setCell_other _ _ _ _ (by simp; omega)]
    exact heapB h2.src hb (by omega)
  · rw [List.take_succ_eq_append_getElem hk, List.map_append]
    exact own_setj o2 (by omega : w.heap.size < w.heap.size + 1) 0 (.slice A2 (k + 1) c2)
  · rw [List.length_take]; omega
  · have := heap_setCell_same W2 w.heap.size 0 _ _ (.slice A2 (k + 1) c2) (heapB h2.box hb (by omega))
    simpa using this

set_option maxRecDepth 100000 in
set_option maxHeartbeats 4000000 in
theorem appendSeq_any (l : List Fr) (A : Option Addr) (c Bv : Nat) (w : World) (hs : w.heap[Bv]? = some (.cells #[.slice A l.length c] 50 (0, 0))) (hr : FrR w w.heap.size A l) (hl : l.length ≤ 100) :
    Calls Try.prog 96 #[.slice none 0 0, .func (.func 88) #[] #[.pointer (some ⟨Bv, 0, none⟩)]] w fun e w' => ∃ A' c', e = .returned (.slice A' l.length c') ∧ Own w' (w.heap.size + 1) 39 5 A' c' (l.map frc) ∧ Below w.heap.size w w' := by
  have q0 : Below w.heap.size w (w.alloc (.cells #[.slice none 0 0] 50)) := (Below.refl _ _).alloc (Nat.le_refl _) _
  have I0 : Hid (ApI w Bv l A c 0 (w.alloc (.cells #[.slice none 0 0] 50))) := hide ⟨none, 0, 0, heap_below hs q0, Rd.below hr q0, Own.nil, rfl, World.alloc_heap_new w _, q0⟩
  have hBv : Bv < w.heap.size := heap_lt hs
  have z0 : (w.alloc (.cells #[.slice none 0 0] 50)).heap.size = w.heap.size + 1 := by simp
  clear hs hr q0
  refine (callsIn_wide (n := 3)).1 (callsIn_of_wp_marks Try.func96 rfl trivial ?_ rfl)
  rw [wpIn_wide]
  simp only [Try.ntmps96, List.size_toArray, List.length_cons, List.length_nil, Nat.reduceAdd, Nat.reduceSub, Array.replicate_succ, Array.replicate_zero, List.push_toArray, List.append_toArray, List.nil_append, List.cons_append]
  go_wp2_with fail
  generalize w.alloc (.cells #[.slice none 0 0] 50) = w1 at *
  refine range_exactA (n := 3) (gf := 88) (lb := #[.pointer (some ⟨Bv, 0, none⟩)]) rfl (fun _ _ => rfl)
    (fun k => yieldF l k) (fun _ => rfl) l.length (fun k W => ApI w Bv l A c k W)
    (fun _ _ o h => h.alloc o) (fun k W x o o' h hx ho hc => h.putObj (by omega) ho hc) ?iter I0.out
    (fun k x => ⟨#[.slice none 0 0, .func (.func 88) #[] #[.pointer (some ⟨Bv, 0, none⟩)], .pointer (some ⟨w.heap.size, 0, none⟩), undef, .slice none 0 0, .pointer (some ⟨x, 0, none⟩), .func (.func 88) #[] #[.pointer (some ⟨Bv, 0, none⟩)], .agg #[.int .u32 (OP.atF l k).id, .bool (OP.atF l k).ext, .bool (OP.atF l k).rem, .int .i64 (OP.atF l k).dlc, .string (OP.atF l k).data], undef, undef, undef, undef, undef], []⟩) (fun k => .cells #[.int .u32 (OP.atF l k).id, .bool (OP.atF l k).ext, .bool (OP.atF l k).rem, .int .i64 (OP.atF l k).dlc, .string (OP.atF l k).data] 39) ?assign ?body ?done
  case iter =>
    intro lr J W hJI hJa hY h0
    exact iterV_any (3 - 1) lr Bv c l.length l A rfl _ J (hide (fun k W h => by
      obtain ⟨A', n', c', h⟩ := h
      exact ⟨by simp [World.cell?, h.src], fun hn => by
        obtain ⟨b, off, e, hlt, hc⟩ := h.row hn
        exact ⟨b, off, e, Nat.lt_of_lt_of_le hlt h.q.size, hc⟩⟩)) (hide hJI) (hide hJa) (hide hY) W h0 (by omega)
  case assign =>
    intro lr k W K hK
    unfold yieldF
    gi_wp2
    exact hK
  case body =>
    intro lr k x W hI hx hk
    obtain ⟨A', n', c', hI⟩ := hI
    have hat : OP.atF l k = l[k] := OP.atF_lt hk
    rw [hat] at hx ⊢
    have q1 : Below W.heap.size W (W.alloc (.cells #[.int .u32 l[k].id, .bool l[k].ext, .bool l[k].rem, .int .i64 l[k].dlc, .string l[k].data] 39)) := (Below.refl _ _).alloc (Nat.le_refl _) _
    have H2 := hide (hI.below q1)
    have X2 := hide (World.alloc_heap_new W (.cells #[.int .u32 l[k].id, .bool l[k].ext, .bool l[k].rem, .int .i64 l[k].dlc, .string l[k].data] 39))
    obtain rfl : k = n' := by rw [← hI.len, List.length_take]; omega
    have E1 := hide (show (((l.take k).map frc).length + ([frc l[k]] : List (List Value)).length) * 32 ≤ 140737488355328 by rw [List.length_map, hI.len]; simp; omega)
    have E2 := hide (show ((l.take k).map frc).length + ([frc l[k]] : List (List Value)).length ≤ maxLen by rw [List.length_map, hI.len]; simp [maxLen]; omega)
    have E3 := hide (show k = ((l.take k).map frc).length by rw [List.length_map, hI.len])
    have x0 : W.cell? ⟨w.heap.size, 0, none⟩ = some (.slice A' k c') := by simp [World.cell?, hI.box]
    have zW : w.heap.size < W.heap.size := heap_lt hI.box
    have zx : x < W.heap.size := heap_lt hx
    obtain ⟨y0, y1, y2, y3, y4⟩ := fr_cellsx hx
    have HI := hide hI
    have HRD := hide (rd_row (cs := frc l[k]) X2.out)
    clear hI hx
    gi_wp2_with (gi_at_builtin; refine wpListIn_append_rows _ rfl _ _ 50 rfl slFrame (w.heap.size + 1) _ _ _ ((l.take k).map frc) (by rfl) (by exact H2.out.own) _ _ _ [frc l[k]] (by rfl) (by exact HRD.out) (by simp [frc]) (by simp [frc, Value.oneCell']) (by exact E1.out) (by exact E2.out) (by exact H2.out.z) (by exact E3.out) (by rfl) ?_)
    intro A2 c2 W2 o2 g2
    have B2 := hide (heap_grown2 H2.out.box g2 H2.out.own)
    obtain ⟨z0', z1'⟩ := one_free B2.out
    have O2 := hide o2
    have G2 := hide g2
    clear o2 g2
    gi_wp2
    have hv0 : ((k : Int) + 1) = ((k + 1 : Nat) : Int) := by omega
    have O3 := O2.out
    rw [← List.map_take] at O3
    exact ap_next hBv hk z0 H2.out O3 G2.out
  case done =>
    intro D W hI hD hK
    obtain ⟨A', n', c', hI⟩ := hI
    obtain rfl : l.length = n' := by rw [← hI.len, List.take_length]
    have hO := hI.own
    rw [List.take_length] at hO
    have HO := hide hO
    have HQ := hide hI.q
    have x0 : W.cell? ⟨w.heap.size, 0, none⟩ = some (.slice A' l.length c') := by simp [World.cell?, hI.box]
    have zW : w.heap.size < W.heap.size := heap_lt hI.box
    have HK := hide hK
    clear hI hO hK
    go_wp2
    refine ⟨by simp, .inl ⟨_, _, rfl, run_takeDeferred (ds := []) HK.out, ?_⟩⟩
    refine ⟨.slice A' l.length c', by simp [results, Try.results96, go_sem], ?_⟩
    exact ⟨A', c', rfl, own_put (o' := .deferred none) HO.out HK.out rfl, HQ.out.grown (grownBy_putObj' _ D _) HQ.out.size (fun k e => by cases e; omega)⟩
end Go.Proofs.Ytbdgifngldipcaa
