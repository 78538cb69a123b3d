/- Clones of filters and of bools, slices.Contains of bools. -/
import Derived.Test.YtnhegnneohpkaaaGreatGrB
import Derived.Test.YtnhegnneohpkaaaGreatPdX
namespace Go.Proofs.YtnhegnneohpkaaaGreat
open Go.ChangeShapes Go.WideShapes Go.ChangeAt Go.RowKit
open CM PD SG

theorem slFlt : SlT Tryz.prog 30 29 9 72 := SlT.mk Tryz.underlying30 (z := .agg (flcL zFlt).toArray) (by kernel_rfl) rfl (by decide)
theorem fl_rows (l : List Flt) : ∀ r ∈ l.map flcL, r.length = 9 := fun r hr => by
  obtain ⟨c, _, rfl⟩ := List.mem_map.1 hr
  rfl
theorem fl_ones (l : List Flt) : ∀ r ∈ l.map flcL, ∀ v ∈ r, v.oneCell' = true := fun r hr => by
  obtain ⟨c, _, rfl⟩ := List.mem_map.1 hr
  simp [flcL, Value.oneCell']
theorem bo_rowsG (l : List Bool) : ∀ r ∈ boRow l, r.length = 1 := fun r hr => by
  unfold boRow at hr
  obtain ⟨c, _, rfl⟩ := List.mem_map.1 hr
  rfl
theorem bo_onesG (l : List Bool) : ∀ r ∈ boRow l, ∀ v ∈ r, v.oneCell' = true := fun r hr => by
  unfold boRow at hr
  obtain ⟨c, _, rfl⟩ := List.mem_map.1 hr
  simp [Value.oneCell']

set_option maxRecDepth 100000 in
set_option maxHeartbeats 4000000 in
theorem cloneFl_any (l : List Flt) (A : Option Addr) (c : Nat) (w : World) (hr : FlR w w.heap.size A l) (h1 : 1 ≤ l.length) (hl : l.length ≤ 1000000) :
    Calls Tryz.prog 66 #[.slice A l.length c] w fun e w' => (∃ g c', e = .returned (.slice (some ⟨g, 0, none⟩) l.length c') ∧ Own w' w.heap.size 29 9 (some ⟨g, 0, none⟩) c' (l.map flcL)) ∧ Below w.heap.size w w' := by
  have hrl : (l.map flcL).length = l.length := by simp
  have hnil := fun (w : World) a n c n' c' => Lib.run_eql_slice_nil (P := Tryz.prog) w 30 29 a n c n' c' Tryz.underlying30
  obtain ⟨g, off, rfl, _⟩ := hr (by rw [hrl]; omega)
  have q5 : Below w.heap.size w (w.alloc (.cells #[] 29)) := (Below.refl _ _).alloc (Nat.le_refl _) _
  have O5 := hide (Own.lit w w.heap.size 29 9 [] (Nat.le_refl _) (by simp) (by simp))
  have RD5 := hide (show Rd _ _ _ 9 (l.map flcL) from Rd.more (Rd.below hr q5) q5.size)
  have E1 := hide (show (([] : List (List Value)).length + (l.map flcL).length) * 72 ≤ 140737488355328 by rw [hrl]; simp; omega)
  have E2 := hide (show ([] : List (List Value)).length + (l.map flcL).length ≤ maxLen by rw [hrl]; simp [maxLen]; omega)
  have E3 := hide (show l.length = (l.map flcL).length by rw [hrl])
  have E4 := hide (show w.heap.size ≤ (w.alloc (.cells #[] 29)).heap.size by simp)
  have H1 := hide h1
  have HRL := hide hrl
  clear hr hl h1 hrl
  go_enter Tryz.func66, Tryz.ntmps66
  go_wp2_with (at_builtin; refine wpList_append_rows _ rfl _ _ 30 rfl slFlt w.heap.size _ _ _ [] (by rfl) (by exact O5.out) _ _ _ (l.map flcL) (by rfl) (by exact RD5.out) (by exact fl_rows l) (by exact fl_ones l) (by exact E1.out) (by exact E2.out) (by exact E4.out) (by rfl) (by exact E3.out) ?_)
  intro A6 c6 w6 o6 g6
  have hb6 := hide (q5.trans (below_own g6 O5.out E4.out))
  have o6' : Own w6 w.heap.size 29 9 A6 c6 (l.map flcL) := o6
  obtain ⟨g2, rfl, _⟩ := Own.ofLen o6' (by rw [HRL.out]; exact H1.out)
  have O6 := hide o6'
  clear o6 o6' g6 q5 O5 RD5 E1 E2 E4 hnil
  go_wp2_with fail
  refine bodyPost_ret (v := .slice (some ⟨g2, 0, none⟩) l.length c6) (by simp [results, Tryz.results66, go_sem]) rfl ⟨⟨g2, c6, rfl, O6.out⟩, hb6.out⟩

set_option maxRecDepth 100000 in
set_option maxHeartbeats 4000000 in
theorem cloneBo_any (l : List Bool) (A : Option Addr) (c : Nat) (w : World) (hr : BoR w w.heap.size A l) (h1 : 1 ≤ l.length) (hl : l.length ≤ 1000000) :
    Calls Tryz.prog 28 #[.slice A l.length c] w fun e w' => (∃ g c', e = .returned (.slice (some ⟨g, 0, none⟩) l.length c') ∧ Own w' w.heap.size 4 1 (some ⟨g, 0, none⟩) c' (boRow l)) ∧ Below w.heap.size w w' := by
  have hrl : (boRow l).length = l.length := by simp [boRow]
  have hnil := fun (w : World) a n c n' c' => Lib.run_eql_slice_nil (P := Tryz.prog) w 36 4 a n c n' c' Tryz.underlying36
  obtain ⟨g, off, rfl, _⟩ := hr (by rw [hrl]; omega)
  have q5 : Below w.heap.size w (w.alloc (.cells #[] 4)) := (Below.refl _ _).alloc (Nat.le_refl _) _
  have O5 := hide (Own.lit w w.heap.size 4 1 [] (Nat.le_refl _) (by simp) (by simp))
  have RD5 := hide (show Rd _ _ _ 1 (boRow l) from Rd.more (Rd.below hr q5) q5.size)
  have E1 := hide (show (([] : List (List Value)).length + (boRow l).length) * 1 ≤ 140737488355328 by rw [hrl]; simp; omega)
  have E2 := hide (show ([] : List (List Value)).length + (boRow l).length ≤ maxLen by rw [hrl]; simp [maxLen]; omega)
  have E3 := hide (show l.length = (boRow l).length by rw [hrl])
  have E4 := hide (show w.heap.size ≤ (w.alloc (.cells #[] 4)).heap.size by simp)
  have H1 := hide h1
  have HRL := hide hrl
  clear hr hl h1 hrl
  go_enter Tryz.func28, Tryz.ntmps28
  go_wp2_with (at_builtin; refine wpList_append_rows _ rfl _ _ 36 rfl slBool w.heap.size _ _ _ [] (by rfl) (by exact O5.out) _ _ _ (boRow l) (by rfl) (by exact RD5.out) (by exact bo_rowsG l) (by exact bo_onesG l) (by exact E1.out) (by exact E2.out) (by exact E4.out) (by rfl) (by exact E3.out) ?_)
  intro A6 c6 w6 o6 g6
  have hb6 := hide (q5.trans (below_own g6 O5.out E4.out))
  have o6' : Own w6 w.heap.size 4 1 A6 c6 (boRow l) := o6
  obtain ⟨g2, rfl, _⟩ := Own.ofLen o6' (by rw [HRL.out]; exact H1.out)
  have O6 := hide o6'
  clear o6 o6' g6 q5 O5 RD5 E1 E2 E4 hnil
  go_wp2_with fail
  refine bodyPost_ret (v := .slice (some ⟨g2, 0, none⟩) l.length c6) (by simp [results, Tryz.results28, go_sem]) rfl ⟨⟨g2, c6, rfl, O6.out⟩, hb6.out⟩

theorem bo_at {w : World} {B : Nat} {A : Option Addr} {l : List Bool} (h : BoR w B A l) {k : Nat} (hk : k < l.length) : ∃ b off, A = some ⟨b, off, none⟩ ∧ b < B ∧ w.cell? ⟨b, off + k, none⟩ = some (.bool l[k]) := by
  obtain ⟨b, off, e, hb, hc⟩ := h (by unfold boRow; rw [List.length_map]; omega)
  have h1 := hc k [.bool l[k]] 0 (.bool l[k]) (by unfold boRow; rw [List.getElem?_map, List.getElem?_eq_getElem hk]; rfl) rfl
  rw [Nat.mul_one, Nat.add_zero] at h1
  exact ⟨b, off, e, hb, h1⟩
set_option maxRecDepth 100000 in
set_option maxHeartbeats 4000000 in
theorem indexTrue_any (l : List Bool) (A : Option Addr) (c : Nat) (w : World) (hr : BoR w w.heap.size A l) (hl : l.length ≤ 1000000) :
    Calls Tryz.prog 68 #[.slice A l.length c, .bool true] w fun e w' => ∃ i : Int, e = .returned (.int .i64 i) ∧ Hid (decide (0 ≤ i) = l.any id) ∧ Below w.heap.size w w' := by
  have HR := hide hr
  clear hr
  go_enter Tryz.func68, Tryz.ntmps68
  go_wp2
  go_loopw [8] (fun i W => ∃ k : Nat, k ≤ l.length ∧ i = .int .i64 k ∧ Hid (∀ b ∈ l.take k, b = false) ∧ Below w.heap.size w W) (fun i _ => l.length - (intOf i).toNat)
  case atStart => exact ⟨0, Nat.zero_le _, rfl, hide (by simp), Below.refl _ _⟩
  case round =>
    obtain ⟨k, hk, rfl, hinv, q⟩ := hrel
    by_cases hlt : k < l.length
    · have hki : (k : Int) < (l.length : Int) := by omega
      have hk0 : ¬ (k : Int) < 0 := by omega
      obtain ⟨g, off, rfl, hb, hc⟩ := bo_at HR.out hlt
      have hc2 := cellBelow q hb hc
      have HT := hide (show l[k] = false → ∀ f ∈ l.take (k + 1), f = false from fun hn f hf => by
        rw [List.take_succ_eq_append_getElem hlt, List.mem_append] at hf
        rcases hf with hf | hf
        · exact hinv.out f hf
        · rw [List.mem_singleton.1 hf]; exact hn)
      have HY := hide (show l[k] = true → l.any id = true from fun h => List.any_eq_true.2 ⟨l[k], List.getElem_mem hlt, h⟩)
      clear hc hb
      rcases hx : l[k] with _ | _
      · rw [hx] at hc2 HT
        have HN := hide (HT.out rfl)
        clear hx HT HY
        go_wp2
        go_roundw
        case rel => exact ⟨k + 1, by omega, by go_num, HN, q⟩
        case measure => simp [intOf]; omega
      · rw [hx] at hc2 HY
        have HN := hide (HY.out rfl)
        clear hx HT HY
        go_wp2
        go_ret
        exact ⟨k, rfl, by rw [HN.out]; exact decide_eq_true (by omega), q⟩
    · have hE := hide (show l.any id = false by
        rw [List.any_eq_false]
        intro b hb
        have := hinv.out b (by rw [List.take_of_length_le (by omega)]; exact hb)
        rw [this]; decide)
      have hki : ¬ (k : Int) < (l.length : Int) := by omega
      go_wp2
      go_ret
      exact ⟨-1, rfl, by rw [hE.out]; rfl, q⟩
set_option maxRecDepth 100000 in
theorem containsTrue_any (l : List Bool) (A : Option Addr) (c : Nat) (w : World) (hr : BoR w w.heap.size A l) (hl : l.length ≤ 1000000) :
    Calls Tryz.prog 31 #[.slice A l.length c, .bool true] w fun e w' => e = .returned (.bool (l.any id)) ∧ Below w.heap.size w w' := by
  have IX := hide (indexTrue_any l A c w hr hl)
  clear hr
  go_enter Tryz.func31, Tryz.ntmps31
  go_wp2_with fail
  (with_reducible refine (IX.out).mono ?_)
  rintro e1 w1 ⟨i, rfl, hi, q1⟩
  go_wp2_with fail
  go_ret
  exact ⟨ret_bool hi.out, q1⟩
end Go.Proofs.YtnhegnneohpkaaaGreat
