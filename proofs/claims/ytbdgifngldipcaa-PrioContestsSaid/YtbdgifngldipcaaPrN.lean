/- PrioLeft. -/
import Derived.Test.YtbdgifngldipcaaPrM
import Derived.Test.YtbdgifngldipcaaIMap
namespace Go.Proofs.Ytbdgifngldipcaa
open Go.ChangeShapes Go.WideShapes Go.ChangeAt Go.RowKit
open FP (Fr)

theorem cutL_len (l : List Fr) : (cutL l).length ≤ 10 := by simp [cutL]; omega
theorem cutL_id {l : List Fr} (h : ∀ f ∈ l, f.id < 4294967296) : ∀ f ∈ cutL l, f.id < 4294967296 := by
  intro f hf
  obtain ⟨g, hg, rfl⟩ := List.mem_map.1 hf
  exact h g (List.mem_of_mem_take hg)

set_option maxRecDepth 100000 in
set_option maxHeartbeats 1000000 in
theorem left_bad (l0 : List Fr) (A : Option Addr) (c : Nat) (w : World) (hr0 : FrR w w.heap.size A l0) (hc0 : l0.length ≤ c) (hcm : c ≤ maxLen) (hid : ∀ f ∈ l0, f.id < 4294967296) (hs : ∀ f ∈ l0, f.data.size ≤ maxLen) (hb : (cutL l0).length = 0 ∨ wellB (cutL l0) = false) :
    Calls Try.prog 8 #[.slice A l0.length c] w fun e w' => e = .returned (.bool true) ∧ Below w.heap.size w w' := by
  have FEW := hide (few05_any l0 A c w hr0 hc0 hcm hs)
  have ALV := hide alive05_any
  have hidl := cutL_id hid
  have hl10 := cutL_len l0
  unfold FewV at FEW
  generalize cutL l0 = l at *
  clear hr0 hc0 hcm hid hs
  by_cases h0 : l.length = 0
  · go_enter Try.func8, Try.ntmps8
    go_wp2_with fail
    refine FEW.out.mono ?_
    rintro e1 w1 ⟨A1, c1, rfl, rd1, hc1, q1⟩
    have CB0 := Contest_bad l A1 c1 w1 rd1 (by omega) hidl (.inl h0)
    rw [h0] at CB0
    have CB := hide CB0
    clear CB0
    clear rd1 hidl
    go_wp2_with fail
    refine CB.out.mono ?_
    rintro e2 w2 ⟨rfl, q2⟩
    go_wp2_with fail
    refine (ALV.out _).mono ?_
    rintro e3 w3 ⟨rfl, q3⟩
    go_wp2
    go_ret
    exact ⟨rfl, below_next (below_next q1 q1.size q2) (below_next q1 q1.size q2).size q3⟩
  · have hw : wellB l = false := by rcases hb with h | h <;> simp_all
    have hz : ((l.length : Int) == 0) = false := by rw [beq_eq_false_iff_ne]; omega
    go_enter Try.func8, Try.ntmps8
    go_wp2_with fail
    refine FEW.out.mono ?_
    rintro e1 w1 ⟨A1, c1, rfl, rd1, hc1, q1⟩
    have CB := hide (Contest_bad l A1 c1 w1 rd1 (by omega) hidl hb)
    have WL := hide (fun W (hb : Below w1.heap.size w1 W) => refWell_any l A1 c1 W (FrR.next rd1 hb hb.size) (by omega) hidl)
    rw [hw] at WL
    clear rd1 hidl hw hb
    go_wp2_with fail
    refine CB.out.mono ?_
    rintro e2 w2 ⟨rfl, q2⟩
    go_wp2_with fail
    refine (ALV.out _).mono ?_
    rintro e3 w3 ⟨rfl, q3⟩
    have q3' := below_next q2 q2.size q3
    go_wp2_with fail
    refine (WL.out _ q3').mono ?_
    rintro e4 w4 ⟨rfl, q4⟩
    go_wp2
    go_ret
    have q1' := below_next q1 q1.size q3'
    exact ⟨rfl, below_next q1' q1'.size q4⟩
end Go.Proofs.Ytbdgifngldipcaa
