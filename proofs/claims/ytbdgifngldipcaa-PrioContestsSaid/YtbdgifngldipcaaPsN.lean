/- slices.Collect, SortedStableFunc of a row's values; prio.Order. -/
import Derived.Test.YtbdgifngldipcaaPsM
namespace Go.Proofs.Ytbdgifngldipcaa
open Go.ChangeShapes Go.WideShapes Go.ChangeAt Go.RowKit
open FP (Fr)
open SP

set_option maxRecDepth 100000 in
set_option maxHeartbeats 1000000 in
theorem collect_any (l : List Fr) (A : Option Addr) (c Bv : Nat) (w : World) (hs : w.heap[Bv]? = some (.cells #[.slice A l.length c] 50 (0, 0))) (hr : FrR w w.heap.size A l) (hl : l.length ≤ 100) :
    Calls Try.prog 86 #[.func (.func 88) #[] #[.pointer (some ⟨Bv, 0, none⟩)]] w fun e w' => ∃ A' c', e = .returned (.slice A' l.length c') ∧ Own w' w.heap.size 39 5 A' c' (l.map frc) ∧ Below w.heap.size w w' := by
  have AS := hide (appendSeq_any l A c Bv w hs hr hl)
  clear hs hr
  go_enter Try.func86, Try.ntmps86
  go_wp2_with fail
  refine AS.out.mono ?_
  rintro e w' ⟨A', c', rfl, ho, q⟩
  have HO := hide (ho.mono (Nat.le_succ w.heap.size))
  clear ho
  go_wp2_with fail
  go_ret
  exact ⟨A', c', rfl, HO.out, q⟩

set_option maxRecDepth 100000 in
set_option maxHeartbeats 1000000 in
theorem sortedStable_any (l : List Fr) (A : Option Addr) (c Bv : Nat) (w : World) (hs : w.heap[Bv]? = some (.cells #[.slice A l.length c] 50 (0, 0))) (hr : FrR w w.heap.size A l) (hl : l.length ≤ 19) (hg : ∀ f ∈ l, FP.rightB f = true) :
    Calls Try.prog 60 #[.func (.func 88) #[] #[.pointer (some ⟨Bv, 0, none⟩)], .func (.func 62) #[] #[]] w fun e w' => ∃ A' c', e = .returned (.slice A' l.length c') ∧ FrR w' w'.heap.size A' (OP.orderF l) ∧ l.length ≤ c' ∧ Below w.heap.size w w' := by
  have CO := hide (collect_any l A c Bv w hs hr (by omega))
  have SO := hide (fun A' c' W (ho : Own W w.heap.size 39 5 A' c' (l.map frc)) (hB : w.heap.size ≤ W.heap.size) => sortStable_any l A' c' w.heap.size l.length W rfl ho hB hl hg)
  have HU := hide (fun m (h1 : stP m) (h2 : clP m l) => order_uniq hg h1 h2)
  clear hs hr hg
  go_enter Try.func60, Try.ntmps60
  go_wp2_with fail
  refine CO.out.mono ?_
  rintro e1 w1 ⟨A1, c1, rfl, ho, q1⟩
  have SS := hide (SO.out A1 c1 w1 ho q1.size)
  clear ho
  go_wp2_with fail
  refine SS.out.mono ?_
  rintro e2 w2 ⟨rfl, m, hs2, hS⟩
  have E := HU.out m hs2 hS.cl
  subst E
  have FR := hide (show FrR w2 w2.heap.size A1 (OP.orderF l) from hS.own.rd (frc_rows _))
  have hle : l.length ≤ c1 := by have := hS.own.le; rw [List.length_map, hS.len] at this; exact this
  have Q2 := q1.trans hS.q
  clear hS hs2 SS
  go_wp2_with fail
  go_ret
  exact ⟨A1, c1, rfl, FR.out, hle, Q2⟩

/-- What prio.Order answers. -/
def OrderA (l : List Fr) (w : World) (e : Ending) (w' : World) : Prop :=
  ∃ A c m r, e = .returned (.tuple #[.slice A m.length c, .int .i64 r]) ∧ ((wellB l = true ∧ m = OP.orderF l ∧ r = 0) ∨ (wellB l = false ∧ m = [] ∧ r = 1)) ∧ FrR w' w'.heap.size A m ∧ m.length ≤ c ∧ Below w.heap.size w w'

set_option maxRecDepth 100000 in
set_option maxHeartbeats 1000000 in
theorem prioOrder_any (l : List Fr) (A : Option Addr) (c : Nat) (w : World) (hr : FrR w w.heap.size A l) (hl : l.length ≤ 19) (hid : ∀ f ∈ l, f.id < 4294967296) :
    Calls Try.prog 34 #[.slice A l.length c] w (OrderA l w) := by
  have WE := hide (well_any l A c w hr (by omega) hid)
  have HR := hide hr
  cases hw : wellB l
  · rw [hw] at WE
    clear hr hid
    go_enter Try.func34, Try.ntmps34
    go_wp2_with fail
    refine WE.out.mono ?_
    rintro e1 w1 ⟨rfl, q1⟩
    go_wp2_with fail
    go_ret2
    exact ⟨none, 0, [], 1, rfl, .inr ⟨hw, rfl, rfl⟩, Rd.nil, Nat.le_refl _, q1⟩
  · have hg : ∀ f ∈ l, FP.rightB f = true := fun f hf => List.all_eq_true.1 hw f hf
    have HG := hide hg
    rw [hw] at WE
    clear hr hid hg
    go_enter Try.func34, Try.ntmps34
    go_wp2_with fail
    refine WE.out.mono ?_
    rintro e1 w1 ⟨rfl, q1⟩
    go_wp2_with fail
    refine (values_any A l.length c w1).mono ?_
    rintro e2 w2 ⟨rfl, hw2⟩
    have q2 : Below w1.heap.size w1 w2 := by rw [hw2]; exact (Below.refl _ _).alloc (Nat.le_refl _) _
    have b2 : w2.heap[w1.heap.size]? = some (.cells #[.slice A l.length c] 50 (0, 0)) := by rw [hw2]; exact World.alloc_heap_new w1 _
    have Q2 := below_next q1 q1.size q2
    have SS := hide (sortedStable_any l A c w1.heap.size w2 b2 (FrR.next HR.out Q2 Q2.size) hl HG.out)
    clear hw2 q2 b2
    go_wp2_with fail
    refine SS.out.mono ?_
    rintro e3 w3 ⟨A3, c3, rfl, r3, hc3, q3⟩
    have R3 := hide r3
    have Q3 := below_next Q2 Q2.size q3
    clear r3
    go_wp2_with fail
    go_ret2
    exact ⟨A3, c3, OP.orderF l, 0, by rw [OP.orderF_len]; rfl, .inl ⟨hw, rfl, rfl⟩, R3.out, by rw [OP.orderF_len]; exact hc3, Q3⟩
end Go.Proofs.Ytbdgifngldipcaa
