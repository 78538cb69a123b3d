/- The walks of conf.Why, conf.Right. -/
import Derived.Test.YtplpnnjjjfcibaaCoG
import Derived.Test.YtplpnnjjjfcibaaMgCoB
namespace Go.Proofs.Ytplpnnjjjfcibaa
open Go.ChangeShapes Go.WideShapes Go.ChangeAt Go.RowKit Go.Maps
open CM PD SG

/-- May all that stands fast be? -/
def confB (c : Cf) : Bool := fastB c && (List.range c.l.length).all (okAt c)
def WhyV (c : Cf) (a e : Int) : Prop :=
  (fastB c = false ∧ a = -1 ∧ e = 40) ∨ (fastB c = true ∧ ∃ k : Nat, k < c.l.length ∧ (∀ j, j < k → okAt c j = true) ∧ okAt c k = false ∧ a = k ∧ e = 40) ∨ (fastB c = true ∧ (∀ k, k < c.l.length → okAt c k = true) ∧ a = -1 ∧ e = 0)
theorem WhyV.right {c : Cf} {a e : Int} (h : WhyV c a e) : (e = 0 ∧ confB c = true) ∨ (e = 40 ∧ confB c = false) := by
  rcases h with ⟨hf, _, rfl⟩ | ⟨hf, k, hk, _, hn, _, rfl⟩ | ⟨hf, ha, _, rfl⟩
  · exact .inr ⟨rfl, by rw [confB, hf]; rfl⟩
  · refine .inr ⟨rfl, ?_⟩
    rw [confB, hf, Bool.true_and, List.all_eq_false]
    exact ⟨k, List.mem_range.2 hk, by simp [hn]⟩
  · refine .inl ⟨rfl, ?_⟩
    rw [confB, hf, Bool.true_and, List.all_eq_true]
    exact fun k hk => ha k (List.mem_range.1 hk)
theorem fastB_nodes {c : Cf} (h : fastB c = true) : (2 ≤ c.nodes ∧ c.nodes ≤ 4) ∧ c.base ≤ 2048 - c.nodes := by
  unfold fastB at h
  simp only [Bool.and_eq_true, decide_eq_true_eq] at h
  exact ⟨inI_true h.1, h.2.2.1⟩

set_option maxRecDepth 100000 in
set_option maxHeartbeats 16000000 in
theorem confWhy_any (c : Cf) (w : World) (ho : c.Ok w) : Calls Try.prog 23 #[.agg c.cs.toArray] w fun e w' => (∃ a k, e = .returned (.tuple #[.int .i64 a, .int .i64 k]) ∧ WhyV c a k) ∧ Below w.heap.size w w' := by
  obtain ⟨w0, hw0⟩ : ∃ w0, w0 = w.alloc (.cells c.cs.toArray 52) := ⟨_, rfl⟩
  have B0 := hide (World.alloc_heap_new w (.cells c.cs.toArray 52))
  have Q0 : Hid (Below w.heap.size w w0) := by rw [hw0]; exact hide ((Below.refl _ _).alloc (Nat.le_refl _) _)
  rw [← hw0] at B0
  have FA := hide (confFast_any c w0 (ho.next Q0.out))
  have HO := hide ho
  clear ho
  go_enter Try.func23, Try.ntmps23
  go_upto_region 1 with fail
  change Code.wp _ _ _ _ (w.alloc (.cells c.cs.toArray 52))
  rw [← hw0]
  clear hw0
  go_wp2_with (refine wpList_load_row rfl 52 (.tmp 1) (by rfl) w.heap.size (by rfl) 52 c.cs.toArray (0, 0) _ (by exact B0.out) Try.underlying52 (by rfl) (by kernel_rfl) ?_)
  (with_reducible refine (FA.out).mono ?_)
  rintro e1 w1 ⟨rfl, q1⟩
  have B1 := hide (heap_below B0.out q1)
  have Q1 := hide (below_next Q0.out Q0.out.size q1)
  clear q1 B0 Q0 FA
  rcases hf : fastB c with _ | _
  · have HV := hide (show WhyV c (-1) 40 from .inl ⟨hf, rfl, rfl⟩)
    clear hf
    go_wp2_with fail
    go_ret2
    exact ⟨⟨_, _, rfl, HV.out⟩, Q1.out⟩
  have HF := hide hf
  have hn := fastB_nodes hf
  have LK := hide (confLook_any c w1 (HO.out.next Q1.out) hn.1 hn.2)
  clear hf hn
  go_wp2_with (refine wpList_load_row rfl 52 (.tmp 1) (by rfl) w.heap.size (by rfl) 52 c.cs.toArray (0, 0) _ (by exact B1.out) Try.underlying52 (by rfl) (by kernel_rfl) ?_)
  (with_reducible refine (LK.out).mono ?_)
  rintro e2 w2 ⟨⟨v, rfl, hv⟩, q2⟩
  have Q2 := hide (below_next Q1.out Q1.out.size q2)
  clear q2 LK B1 Q1
  rcases hv with ⟨b, n, rfl, _, hA⟩ | ⟨k, hk, hA, hB, rfl⟩
  · have HV := hide (show WhyV c (-1) 0 from .inr (.inr ⟨HF.out, hA, rfl, rfl⟩))
    clear hA
    go_wp2_with fail
    go_ret2
    exact ⟨⟨_, _, rfl, HV.out⟩, Q2.out⟩
  · have HV := hide (show WhyV c k 40 from .inr (.inl ⟨HF.out, k, hk, hA, hB, rfl, rfl⟩))
    clear hA hB
    go_wp2_with fail
    go_ret2
    exact ⟨⟨_, _, rfl, HV.out⟩, Q2.out⟩

set_option maxRecDepth 100000 in
set_option maxHeartbeats 16000000 in
theorem confRight_any (c : Cf) (w : World) (ho : c.Ok w) : Calls Try.prog 25 #[.agg c.cs.toArray] w fun e w' => e = .returned (.bool (confB c)) ∧ Below w.heap.size w w' := by
  obtain ⟨r, hr⟩ : ∃ r, r = confB c := ⟨_, rfl⟩
  rw [← hr]
  have HR := hide hr
  clear hr
  obtain ⟨w0, hw0⟩ : ∃ w0, w0 = w.alloc (.cells c.cs.toArray 52) := ⟨_, rfl⟩
  have B0 := hide (World.alloc_heap_new w (.cells c.cs.toArray 52))
  have Q0 : Hid (Below w.heap.size w w0) := by rw [hw0]; exact hide ((Below.refl _ _).alloc (Nat.le_refl _) _)
  rw [← hw0] at B0
  have FA := hide (confWhy_any c w0 (ho.next Q0.out))
  clear ho
  go_enter Try.func25, Try.ntmps25
  go_upto_region 1 with fail
  change Code.wp _ _ _ _ (w.alloc (.cells c.cs.toArray 52))
  rw [← hw0]
  clear hw0
  go_wp2_with (refine wpList_load_row rfl 52 (.tmp 1) (by rfl) w.heap.size (by rfl) 52 c.cs.toArray (0, 0) _ (by exact B0.out) Try.underlying52 (by rfl) (by kernel_rfl) ?_)
  (with_reducible refine (FA.out).mono ?_)
  rintro e1 w1 ⟨⟨a, k, rfl, hv⟩, q1⟩
  have Q1 := hide (below_next Q0.out Q0.out.size q1)
  clear q1 B0 Q0 FA
  rcases hv.right with ⟨rfl, hb⟩ | ⟨rfl, hb⟩
  all_goals have E := hide (HR.out.trans hb)
  all_goals clear HR hb hv
  all_goals go_wp2_with fail
  all_goals go_ret
  all_goals exact ⟨by rw [E.out]; rfl, Q1.out⟩
end Go.Proofs.Ytplpnnjjjfcibaa

/- The walk of campanileref21.Fast. -/
namespace Go.Proofs.Ytplpnnjjjfcibaa
open Go.ChangeShapes Go.WideShapes Go.ChangeAt Go.RowKit Go.Maps
open CM PD SG

set_option maxRecDepth 100000 in
set_option maxHeartbeats 16000000 in
theorem refFast21_any (c : Cf) (w : World) (ho : c.Ok w) : Calls Try.prog 57 #[.agg c.cs.toArray] w fun e w' => e = .returned (.bool (fastB c)) ∧ Below w.heap.size w w' := by
  obtain ⟨r, hr⟩ : ∃ r, r = fastB c := ⟨_, rfl⟩
  rw [← hr]
  have HR := hide (show r = true ↔ (2 ≤ c.nodes ∧ c.nodes ≤ 4) ∧ (c.l.length : Int) ≤ 12 ∧ c.base ≤ 2048 - c.nodes ∧ (0 ≤ c.rep ∧ c.rep ≤ 1000) ∧ (1 ≤ c.rate ∧ c.rate ≤ 2000) ∧ (1 ≤ c.cycle ∧ c.cycle ≤ 1000) ∧ (c.cycle + 1 ≤ c.heard ∧ c.heard ≤ 1000) ∧ 1 ≤ c.wait ∧ c.wait ≤ 1000 from by
    rw [hr]; unfold fastB inI; simp only [Bool.and_eq_true, decide_eq_true_eq]; omega)
  clear hr
  obtain ⟨w0, hw0⟩ : ∃ w0, w0 = w.alloc (.cells c.cs.toArray 52) := ⟨_, rfl⟩
  have B0 := hide (World.alloc_heap_new w (.cells c.cs.toArray 52))
  have Q0 : Hid (Below w.heap.size w w0) := by rw [hw0]; exact hide ((Below.refl _ _).alloc (Nat.le_refl _) _)
  rw [← hw0] at B0
  obtain ⟨nodes, l, a, cc, base, rep, cycle, heard, wait, rate⟩ := c
  dsimp only at *
  obtain ⟨c0, c1, c2, c3, c4, c5, c6, c7⟩ := cf_cells B0.out
  dsimp only at c0 c1 c2 c3 c4 c5 c6 c7
  have hbase := ho.base
  dsimp only at hbase
  have hlen := ho.n
  dsimp only at hlen
  clear ho
  go_enter Try.func57, Try.ntmps57
  go_upto_region 1 with fail
  change Code.wp _ _ _ _ (w.alloc (.cells (Cf.cs ⟨nodes, l, a, cc, base, rep, cycle, heard, wait, rate⟩).toArray 52))
  rw [← hw0]
  clear hw0
  go_wp2_with fail
  all_goals go_ret
  all_goals refine ⟨ret_bool ?_, Q0.out⟩
  all_goals (first | exact r_true HR.out (by omega) | exact r_false HR.out (by omega) | exact r_dec HR.out (by omega))
end Go.Proofs.Ytplpnnjjjfcibaa

/- The walk of campanileref21.Bit. -/
namespace Go.Proofs.Ytplpnnjjjfcibaa
open Go.ChangeShapes Go.WideShapes Go.ChangeAt Go.RowKit

set_option maxRecDepth 100000 in
set_option maxHeartbeats 4000000 in
theorem refBit21_any (n : Int) (k : Nat) (w : World) (h0 : 0 ≤ n) (h1 : n < 9223372036854775808) (hk : k ≤ 1000) :
    Calls Try.prog 66 #[.int .i64 n, .int .i64 k] w fun e w' => e = .returned (.bool (n / 2 ^ k % 2 == 1)) ∧ w' = w := by
  obtain ⟨r, hr⟩ : ∃ r, r = (n / 2 ^ k % 2 == 1) := ⟨_, rfl⟩
  rw [← hr]
  have HR := hide hr
  clear hr
  go_enter Try.func66, Try.ntmps66
  go_wp2_with fail
  go_loopw [0, 5] (fun vn vi W => ∃ (j : Nat) (m : Int), j ≤ k ∧ vi = .int .i64 j ∧ vn = .int .i64 m ∧ 0 ≤ m ∧ m < 9223372036854775808 ∧ Hid (m = n / 2 ^ j) ∧ W = w) (fun _ vi _ => k - (intOf vi).toNat)
  case atStart => exact ⟨0, n, Nat.zero_le _, rfl, rfl, h0, h1, hide (by simp), rfl⟩
  case round =>
    obtain ⟨j, m, hj, rfl, rfl, hm0, hm1, HM, rfl⟩ := hrel
    by_cases hjk : j < k
    · have hji : (j : Int) < (k : Int) := by omega
      have HM2 := hide (show m / 2 = n / 2 ^ (j + 1) by
        rw [HM.out, Int.pow_succ]
        have hp : (0 : Int) ≤ 2 ^ j := Int.le_of_lt (Int.pow_pos (by decide))
        first | rw [Int.ediv_ediv_of_nonneg hp] | rw [Int.ediv_ediv_eq_ediv_mul _ hp])
      have hd : m.tdiv 2 = m / 2 := Int.tdiv_eq_ediv_of_nonneg hm0
      go_wp2_with fail
      go_roundw
      case rel => exact ⟨j + 1, m / 2, by omega, by go_num, (by first | rfl | (rw [hd]) | simp), by omega, by omega, HM2, trivial⟩
      case measure => simp [intOf]; omega
    · obtain rfl : j = k := by omega
      have E := hide (show r = (m % 2 == 1) by rw [HR.out, HM.out])
      have hd : m.tmod 2 = m % 2 := Int.tmod_eq_emod_of_nonneg hm0
      clear HR HM
      go_wp2_with fail
      go_ret
      refine ⟨ret_bool ?_, rfl⟩
      rw [E.out]
end Go.Proofs.Ytplpnnjjjfcibaa

/- Plain: what conf.may asks is what the document's Place asks. -/
namespace Go.Proofs.Ytplpnnjjjfcibaa
open CM PD SG

theorem bits_law {n : Int} (h : 1 ≤ n) {k : Nat} (h2 : 2 ≤ k) (h4 : k ≤ 4) : n / 2 ^ k = 0 ↔ n ≤ 15 ∧ ∀ i : Nat, k ≤ i → i < 4 → n / 2 ^ i % 2 = 0 := by
  obtain rfl | rfl | rfl : k = 2 ∨ k = 3 ∨ k = 4 := by omega
  · constructor
    · intro e
      refine ⟨by omega, fun i hi hi4 => ?_⟩
      obtain rfl | rfl : i = 2 ∨ i = 3 := by omega
      · omega
      · omega
    · rintro ⟨e, f⟩
      have f2 := f 2 (by omega) (by omega)
      have f3 := f 3 (by omega) (by omega)
      omega
  · constructor
    · intro e
      refine ⟨by omega, fun i hi hi4 => ?_⟩
      obtain rfl : i = 3 := by omega
      omega
    · rintro ⟨e, f⟩
      have f3 := f 3 (by omega) (by omega)
      omega
  · constructor
    · intro e
      exact ⟨by omega, fun i hi hi4 => by omega⟩
    · rintro ⟨e, _⟩
      omega
/-- An identifier is known just when an earlier one has it. -/
theorem seen_none {l : List Pd} (x : Int) : ∀ {k : Nat}, k ≤ l.length → ((seen l k x).isSome = true ↔ ∃ j, ∃ h : j < l.length, j < k ∧ l[j].id = x)
  | 0, _ => by simp [seen]
  | k + 1, hk => by
    have hkl : k < l.length := by omega
    rw [seen_succ hkl]
    by_cases e : x = l[k].id
    · simp only [if_pos e, Option.isSome_some, true_iff]
      exact ⟨k, hkl, by omega, e.symm⟩
    · simp only [if_neg e]
      rw [seen_none x (by omega)]
      constructor
      · rintro ⟨j, hj, h1, h2⟩; exact ⟨j, hj, by omega, h2⟩
      · rintro ⟨j, hj, h1, h2⟩
        refine ⟨j, hj, ?_, h2⟩
        rcases Nat.lt_or_ge j k with h | h
        · exact h
        · obtain rfl : j = k := by omega
          exact absurd h2.symm e
end Go.Proofs.Ytplpnnjjjfcibaa
