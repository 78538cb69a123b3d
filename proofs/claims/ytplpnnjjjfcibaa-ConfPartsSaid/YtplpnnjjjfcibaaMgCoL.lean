/- The walk of campanilelaw21.alive. -/
import Derived.Test.YtplpnnjjjfcibaaMgCoH
import Derived.Test.YtplpnnjjjfcibaaCoX
namespace Go.Proofs.Ytplpnnjjjfcibaa
open Go.ChangeShapes Go.WideShapes Go.ChangeAt Go.RowKit
open CM PD SG

def cfA : Cf := ⟨2, [], none, 0, 1024, 0, 2, 5, 3, 200⟩
def cfZ : Cf := ⟨0, [], none, 0, 0, 0, 0, 0, 0, 0⟩
theorem cfA_ok (W : World) : cfA.Ok W := ⟨Rd.nil, fun p hp => by simp [cfA] at hp, by simp [cfA], by simp [cfA]⟩
theorem cfZ_ok (W : World) : cfZ.Ok W := ⟨Rd.nil, fun p hp => by simp [cfZ] at hp, by simp [cfZ], by simp [cfZ]⟩

set_option maxRecDepth 100000 in
set_option maxHeartbeats 4000000 in
theorem alive21_any (w : World) : Calls Try.prog 26 #[] w fun e w' => e = .returned (.bool true) ∧ Below w.heap.size w w' := by
  have RA := hide (fun W => show Calls Try.prog 25 #[.agg cfA.cs.toArray] W fun e w' => e = .returned (.bool true) ∧ Below W.heap.size W w' from (show confB cfA = true by decide) ▸ confRight_any cfA W (cfA_ok W))
  have RZ := hide (fun W => show Calls Try.prog 25 #[.agg #[.int .i64 0, .slice none 0 0, .int .u32 0, .int .i64 0, .int .i64 0, .int .i64 0, .int .i64 0, .int .i64 0]] W fun e w' => e = .returned (.bool false) ∧ Below W.heap.size W w' from (show confB cfZ = false by decide) ▸ confRight_any cfZ W (cfZ_ok W))
  have q0 : Below w.heap.size w (w.alloc (.cells cfZ.cs.toArray 52)) := (Below.refl _ _).alloc (Nat.le_refl _) _
  have g0 := World.alloc_heap_new w (.cells cfZ.cs.toArray 52)
  have TH := hide (show (w.alloc (.cells cfZ.cs.toArray 52)).there w.heap.size 0 8 from there_heap (cs := cfZ.cs) g0)
  go_enter Try.func26, Try.ntmps26
  go_wp2_with (refine wpList_store_hid (by rfl) 52 (.tmp 1) (.tmp 2) (by rfl) w.heap.size 0 cfA.cs (by rfl) (by rfl) (by exact TH.out) (by kernel_rfl) (by simp [Value.oneCell', Cf.cs, cfA]) ?_)
  intro w1 e1
  have B1 := hide (show w1.heap[w.heap.size]? = some (.cells cfA.cs.toArray 52 (0, 0)) by rw [e1.out]; exact whole_heap cfA.cs (xs := cfZ.cs) g0 rfl)
  have Q1 := hide (show Below w.heap.size w w1 by rw [e1.out]; exact q0.trans (below_setCells (g := w.heap.size) _ 0 _ (Nat.le_refl _)))
  clear e1 TH g0 q0
  go_wp2_with (refine wpList_load_row rfl 52 (.tmp 1) (by rfl) w.heap.size (by rfl) 52 cfA.cs.toArray (0, 0) _ (by exact B1.out) Try.underlying52 (by rfl) (by kernel_rfl) ?_)
  (with_reducible refine (RA.out _).mono ?_)
  rintro e2 w2 ⟨rfl, q2⟩
  have Q2 := hide (below_next Q1.out Q1.out.size q2)
  clear q2 RA B1 Q1
  go_wp2_with fail
  (with_reducible refine (RZ.out _).mono ?_)
  rintro e3 w3 ⟨rfl, q3⟩
  have Q3 := hide (below_next Q2.out Q2.out.size q3)
  clear q3 RZ Q2
  go_wp2_with fail
  go_ret
  exact ⟨rfl, Q3.out⟩
end Go.Proofs.Ytplpnnjjjfcibaa

/- The walk of campanilelaw21.ConfWhy. -/
namespace Go.Proofs.Ytplpnnjjjfcibaa
open Go.ChangeShapes Go.WideShapes Go.ChangeAt Go.RowKit
open CM PD SG

theorem why_wrong {c : Cf} {a e v : Int} (h : WhyV c a e) (h2 : WrongV c v) :
    (v = -2 ∧ a = -1 ∧ e = 40 ∧ confB c = false) ∨ (∃ k : Nat, v = k ∧ a = k ∧ e = 40 ∧ confB c = false) ∨ (v = -1 ∧ a = -1 ∧ e = 0 ∧ confB c = true) := by
  have hr := h.right
  rcases h with ⟨hf, rfl, rfl⟩ | ⟨hf, k, hk, hb, hn, rfl, rfl⟩ | ⟨hf, ha, rfl, rfl⟩
  · rcases h2 with ⟨_, rfl⟩ | ⟨hf2, _⟩ | ⟨hf2, _⟩
    · rcases hr with ⟨h, _⟩ | ⟨_, h⟩
      · cases h
      · exact .inl ⟨rfl, rfl, rfl, h⟩
    · rw [hf] at hf2; cases hf2
    · rw [hf] at hf2; cases hf2
  · rcases h2 with ⟨hf2, _⟩ | ⟨_, k2, hk2, hb2, hn2, rfl⟩ | ⟨_, ha2, rfl⟩
    · rw [hf] at hf2; cases hf2
    · have : k = k2 := by
        rcases Nat.lt_trichotomy k k2 with h | h | h
        · have := hb2 k h; rw [hn] at this; cases this
        · exact h
        · have := hb k2 h; rw [hn2] at this; cases this
      subst this
      rcases hr with ⟨h, _⟩ | ⟨_, h⟩
      · cases h
      · exact .inr (.inl ⟨k, rfl, rfl, rfl, h⟩)
    · have := ha2 k hk; rw [hn] at this; cases this
  · rcases h2 with ⟨hf2, _⟩ | ⟨_, k2, hk2, _, hn2, rfl⟩ | ⟨_, _, rfl⟩
    · rw [hf] at hf2; cases hf2
    · have := ha k2 hk2; rw [hn2] at this; cases this
    · rcases hr with ⟨_, h⟩ | ⟨h, _⟩
      · exact .inr (.inr ⟨rfl, rfl, rfl, h⟩)
      · cases h

set_option maxRecDepth 100000 in
set_option maxHeartbeats 16000000 in
theorem confWhy_walk (c0 : Cf) (w : World) (ho : c0.Raw w) (hcm : c0.c ≤ maxLen) : Calls Try.prog 7 #[.agg c0.cs.toArray] w fun e w' => e = .returned (.bool true) ∧ Below w.heap.size w w' := by
  obtain ⟨w0, hw0⟩ : ∃ w0, w0 = w.alloc (.cells c0.cs.toArray 52) := ⟨_, rfl⟩
  have B0 := hide (World.alloc_heap_new w (.cells c0.cs.toArray 52))
  have Q0 : Hid (Below w.heap.size w w0) := by rw [hw0]; exact hide ((Below.refl _ _).alloc (Nat.le_refl _) _)
  rw [← hw0] at B0
  have FW := hide (few21_any c0 w0 ⟨Rd.next ho.r Q0.out Q0.out.size, fun p hp => (ho.p p hp).next Q0.out, ho.n, ho.base⟩ hcm)
  clear hcm
  go_enter Try.func7, Try.ntmps7
  go_upto_region 1 with fail
  change Code.wp _ _ _ _ (w.alloc (.cells c0.cs.toArray 52))
  rw [← hw0]
  clear hw0
  go_wp2_with (refine wpList_load_row rfl 52 (.tmp 1) (by rfl) w.heap.size (by rfl) 52 c0.cs.toArray (0, 0) _ (by exact B0.out) Try.underlying52 (by rfl) (by kernel_rfl) ?_)
  (with_reducible refine (FW.out).mono ?_)
  rintro e1 w1 ⟨⟨A, n, rfl, hR, hA⟩, q1⟩
  have B1 := hide (heap_below B0.out q1)
  have Q1 := hide (below_next Q0.out Q0.out.size q1)
  have z0 : w.heap.size < w0.heap.size := heap_lt B0.out
  have HR := hide hR
  have HA := hide (show ∀ g off, A = some ⟨g, off, none⟩ → g ≠ w.heap.size from fun g off h => by have := hA g off h; omega)
  have HC := hide (show ∀ W, Rd W W.heap.size A 22 (pdRow (cutCf c0 A n).l) → Below w.heap.size w W → (cutCf c0 A n).Ok W from fun W h q => ho.cut h q)
  generalize cutCf c0 A n = c at *
  have TH := hide (show w1.there w.heap.size 0 8 from there_heap (cs := c0.cs) B1.out)
  clear q1 B0 Q0 FW hR hA ho
  go_wp2_with (refine wpList_store_hid (by rfl) 52 (.tmp 1) (.tmp 7) (by rfl) w.heap.size 0 c.cs (by rfl) (by rfl) (by exact TH.out) (by kernel_rfl) (by simp [Value.oneCell', Cf.cs]) ?_)
  intro w2 e2
  have B2 := hide (show w2.heap[w.heap.size]? = some (.cells c.cs.toArray 52 (0, 0)) by rw [e2.out]; exact whole_heap c.cs (xs := c0.cs) B1.out rfl)
  have Q2 := hide (show Below w.heap.size w w2 by rw [e2.out]; exact Q1.out.trans (below_setCells (g := w.heap.size) _ 0 _ (Nat.le_refl _)))
  have HO := hide (show c.Ok w2 from HC.out w2 (by rw [e2.out]; exact rd_setCells HA.out c.cs 0 w1 HR.out) Q2.out)
  clear e2 TH B1 Q1 HR HA HC z0
  have WH := hide (confWhy_any c w2 HO.out)
  go_wp2_with (refine wpList_load_row rfl 52 (.tmp 1) (by rfl) w.heap.size (by rfl) 52 c.cs.toArray (0, 0) _ (by exact B2.out) Try.underlying52 (by rfl) (by kernel_rfl) ?_)
  (with_reducible refine (WH.out).mono ?_)
  rintro e3 w3 ⟨⟨a, e, rfl, hv⟩, q3⟩
  have B3 := hide (heap_below B2.out q3)
  have Q3 := hide (below_next Q2.out Q2.out.size q3)
  have HO3 := hide (HO.out.next q3)
  have HV := hide hv
  have WR := hide (wrong_any c w3 HO3.out)
  clear q3 B2 Q2 HO WH hv
  go_wp2_with (refine wpList_load_row rfl 52 (.tmp 1) (by rfl) w.heap.size (by rfl) 52 c.cs.toArray (0, 0) _ (by exact B3.out) Try.underlying52 (by rfl) (by kernel_rfl) ?_)
  (with_reducible refine (WR.out).mono ?_)
  rintro e4 w4 ⟨⟨v, rfl, hw⟩, q4⟩
  have B4 := hide (heap_below B3.out q4)
  have Q4 := hide (below_next Q3.out Q3.out.size q4)
  have HO4 := hide (HO3.out.next q4)
  have HF := hide (why_wrong HV.out hw)
  have RT := hide (confRight_any c w4 HO4.out)
  clear q4 B3 Q3 HO3 HV WR hw
  go_wp2_with (refine wpList_load_row rfl 52 (.tmp 1) (by rfl) w.heap.size (by rfl) 52 c.cs.toArray (0, 0) _ (by exact B4.out) Try.underlying52 (by rfl) (by kernel_rfl) ?_)
  (with_reducible refine (RT.out).mono ?_)
  rintro e5 w5 ⟨rfl, q5⟩
  have Q5 := hide (below_next Q4.out Q4.out.size q5)
  have AL := hide (alive21_any w5)
  clear q5 B4 Q4 HO4 RT
  generalize confB c = r at *
  rcases HF.out with ⟨rfl, rfl, rfl, rfl⟩ | ⟨k, rfl, rfl, rfl, rfl⟩ | ⟨rfl, rfl, rfl, rfl⟩
  · clear HF
    obtain ⟨m, em, hm⟩ := run_max (P := Try.prog) (-2) (-1)
    obtain rfl : m = -1 := by omega
    clear em
    go_wp2_with fail
    (with_reducible refine (AL.out).mono ?_)
    rintro e6 w6 ⟨rfl, q6⟩
    have Q6 := hide (below_next Q5.out Q5.out.size q6)
    go_wp2_with fail
    go_ret
    exact ⟨rfl, Q6.out⟩
  · clear HF
    obtain ⟨m, em, hm⟩ := run_max (P := Try.prog) (k : Int) (-1)
    obtain rfl : m = (k : Int) := by omega
    clear em
    have hne : ((k : Int) == -1) = false := by simp
    have hkk : ((k : Int) == (k : Int)) = true := by simp
    go_wp2_with fail
    (with_reducible refine (AL.out).mono ?_)
    rintro e6 w6 ⟨rfl, q6⟩
    have Q6 := hide (below_next Q5.out Q5.out.size q6)
    go_wp2_with fail
    go_ret
    exact ⟨rfl, Q6.out⟩
  · clear HF
    go_wp2_with fail
    (with_reducible refine (AL.out).mono ?_)
    rintro e6 w6 ⟨rfl, q6⟩
    have Q6 := hide (below_next Q5.out Q5.out.size q6)
    go_wp2_with fail
    go_ret
    exact ⟨rfl, Q6.out⟩
end Go.Proofs.Ytplpnnjjjfcibaa
