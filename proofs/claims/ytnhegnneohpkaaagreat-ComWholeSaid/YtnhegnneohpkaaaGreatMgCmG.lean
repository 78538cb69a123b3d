/- Clones of filters and of bools, slices.Contains of bools. -/
import Derived.Test.YtnhegnneohpkaaaGreatGrB
import Derived.Test.YtnhegnneohpkaaaGreatMgPdX
import Derived.Test.YtnhegnneohpkaaaGreatMgSgG
namespace Go.Proofs.YtnhegnneohpkaaaGreat
open Go.ChangeShapes Go.WideShapes Go.ChangeAt Go.RowKit
open CM PD SG

theorem slFlt : SlT Tryz.prog 30 29 9 72 := SlT.mk Tryz.underlying30 (z := .agg (flcL zFlt).toArray) (by kernel_rfl) rfl (by decide)
theorem fl_rows (l : List Flt) : ∀ r ∈ l.map flcL, r.length = 9 := fun r hr => by
  obtain ⟨c, _, rfl⟩ := List.mem_map.1 hr
  rfl
theorem fl_ones (l : List Flt) : ∀ r ∈ l.map flcL, ∀ v ∈ r, v.oneCell' = true := fun r hr => by
  obtain ⟨c, _, rfl⟩ := List.mem_map.1 hr
  simp [flcL, Value.oneCell']
theorem bo_rowsG (l : List Bool) : ∀ r ∈ boRow l, r.length = 1 := fun r hr => by
  unfold boRow at hr
  obtain ⟨c, _, rfl⟩ := List.mem_map.1 hr
  rfl
theorem bo_onesG (l : List Bool) : ∀ r ∈ boRow l, ∀ v ∈ r, v.oneCell' = true := fun r hr => by
  unfold boRow at hr
  obtain ⟨c, _, rfl⟩ := List.mem_map.1 hr
  simp [Value.oneCell']

set_option maxRecDepth 100000 in
set_option maxHeartbeats 4000000 in
theorem cloneFl_any (l : List Flt) (A : Option Addr) (c : Nat) (w : World) (hr : FlR w w.heap.size A l) (h1 : 1 ≤ l.length) (hl : l.length ≤ 1000000) :
    Calls Tryz.prog 66 #[.slice A l.length c] w fun e w' => (∃ g c', e = .returned (.slice (some ⟨g, 0, none⟩) l.length c') ∧ Own w' w.heap.size 29 9 (some ⟨g, 0, none⟩) c' (l.map flcL)) ∧ Below w.heap.size w w' := by
  have hrl : (l.map flcL).length = l.length := by simp
  have hnil := fun (w : World) a n c n' c' => Lib.run_eql_slice_nil (P := Tryz.prog) w 30 29 a n c n' c' Tryz.underlying30
  obtain ⟨g, off, rfl, _⟩ := hr (by rw [hrl]; omega)
  have q5 : Below w.heap.size w (w.alloc (.cells #[] 29)) := (Below.refl _ _).alloc (Nat.le_refl _) _
  have O5 := hide (Own.lit w w.heap.size 29 9 [] (Nat.le_refl _) (by simp) (by simp))
  have RD5 := hide (show Rd _ _ _ 9 (l.map flcL) from Rd.more (Rd.below hr q5) q5.size)
  have E1 := hide (show (([] : List (List Value)).length + (l.map flcL).length) * 72 ≤ 140737488355328 by rw [hrl]; simp; omega)
  have E2 := hide (show ([] : List (List Value)).length + (l.map flcL).length ≤ maxLen by rw [hrl]; simp [maxLen]; omega)
  have E3 := hide (show l.length = (l.map flcL).length by rw [hrl])
  have E4 := hide (show w.heap.size ≤ (w.alloc (.cells #[] 29)).heap.size by simp)
  have H1 := hide h1
  have HRL := hide hrl
  clear hr hl h1 hrl
  go_enter Tryz.func66, Tryz.ntmps66
  go_wp2_with (at_builtin; refine wpList_append_rows _ rfl _ _ 30 rfl slFlt w.heap.size _ _ _ [] (by rfl) (by exact O5.out) _ _ _ (l.map flcL) (by rfl) (by exact RD5.out) (by exact fl_rows l) (by exact fl_ones l) (by exact E1.out) (by exact E2.out) (by exact E4.out) (by rfl) (by exact E3.out) ?_)
  intro A6 c6 w6 o6 g6
  have hb6 := hide (q5.trans (below_own g6 O5.out E4.out))
  have o6' : Own w6 w.heap.size 29 9 A6 c6 (l.map flcL) := o6
  obtain ⟨g2, rfl, _⟩ := Own.ofLen o6' (by rw [HRL.out]; exact H1.out)
  have O6 := hide o6'
  clear o6 o6' g6 q5 O5 RD5 E1 E2 E4 hnil
  go_wp2_with fail
  refine bodyPost_ret (v := .slice (some ⟨g2, 0, none⟩) l.length c6) (by simp [results, Tryz.results66, go_sem]) rfl ⟨⟨g2, c6, rfl, O6.out⟩, hb6.out⟩

set_option maxRecDepth 100000 in
set_option maxHeartbeats 4000000 in
theorem cloneBo_any (l : List Bool) (A : Option Addr) (c : Nat) (w : World) (hr : BoR w w.heap.size A l) (h1 : 1 ≤ l.length) (hl : l.length ≤ 1000000) :
    Calls Tryz.prog 28 #[.slice A l.length c] w fun e w' => (∃ g c', e = .returned (.slice (some ⟨g, 0, none⟩) l.length c') ∧ Own w' w.heap.size 4 1 (some ⟨g, 0, none⟩) c' (boRow l)) ∧ Below w.heap.size w w' := by
  have hrl : (boRow l).length = l.length := by simp [boRow]
  have hnil := fun (w : World) a n c n' c' => Lib.run_eql_slice_nil (P := Tryz.prog) w 36 4 a n c n' c' Tryz.underlying36
  obtain ⟨g, off, rfl, _⟩ := hr (by rw [hrl]; omega)
  have q5 : Below w.heap.size w (w.alloc (.cells #[] 4)) := (Below.refl _ _).alloc (Nat.le_refl _) _
  have O5 := hide (Own.lit w w.heap.size 4 1 [] (Nat.le_refl _) (by simp) (by simp))
  have RD5 := hide (show Rd _ _ _ 1 (boRow l) from Rd.more (Rd.below hr q5) q5.size)
  have E1 := hide (show (([] : List (List Value)).length + (boRow l).length) * 1 ≤ 140737488355328 by rw [hrl]; simp; omega)
  have E2 := hide (show ([] : List (List Value)).length + (boRow l).length ≤ maxLen by rw [hrl]; simp [maxLen]; omega)
  have E3 := hide (show l.length = (boRow l).length by rw [hrl])
  have E4 := hide (show w.heap.size ≤ (w.alloc (.cells #[] 4)).heap.size by simp)
  have H1 := hide h1
  have HRL := hide hrl
  clear hr hl h1 hrl
  go_enter Tryz.func28, Tryz.ntmps28
  go_wp2_with (at_builtin; refine wpList_append_rows _ rfl _ _ 36 rfl slBool w.heap.size _ _ _ [] (by rfl) (by exact O5.out) _ _ _ (boRow l) (by rfl) (by exact RD5.out) (by exact bo_rowsG l) (by exact bo_onesG l) (by exact E1.out) (by exact E2.out) (by exact E4.out) (by rfl) (by exact E3.out) ?_)
  intro A6 c6 w6 o6 g6
  have hb6 := hide (q5.trans (below_own g6 O5.out E4.out))
  have o6' : Own w6 w.heap.size 4 1 A6 c6 (boRow l) := o6
  obtain ⟨g2, rfl, _⟩ := Own.ofLen o6' (by rw [HRL.out]; exact H1.out)
  have O6 := hide o6'
  clear o6 o6' g6 q5 O5 RD5 E1 E2 E4 hnil
  go_wp2_with fail
  refine bodyPost_ret (v := .slice (some ⟨g2, 0, none⟩) l.length c6) (by simp [results, Tryz.results28, go_sem]) rfl ⟨⟨g2, c6, rfl, O6.out⟩, hb6.out⟩

theorem bo_at {w : World} {B : Nat} {A : Option Addr} {l : List Bool} (h : BoR w B A l) {k : Nat} (hk : k < l.length) : ∃ b off, A = some ⟨b, off, none⟩ ∧ b < B ∧ w.cell? ⟨b, off + k, none⟩ = some (.bool l[k]) := by
  obtain ⟨b, off, e, hb, hc⟩ := h (by unfold boRow; rw [List.length_map]; omega)
  have h1 := hc k [.bool l[k]] 0 (.bool l[k]) (by unfold boRow; rw [List.getElem?_map, List.getElem?_eq_getElem hk]; rfl) rfl
  rw [Nat.mul_one, Nat.add_zero] at h1
  exact ⟨b, off, e, hb, h1⟩
set_option maxRecDepth 100000 in
set_option maxHeartbeats 4000000 in
theorem indexTrue_any (l : List Bool) (A : Option Addr) (c : Nat) (w : World) (hr : BoR w w.heap.size A l) (hl : l.length ≤ 1000000) :
    Calls Tryz.prog 68 #[.slice A l.length c, .bool true] w fun e w' => ∃ i : Int, e = .returned (.int .i64 i) ∧ Hid (decide (0 ≤ i) = l.any id) ∧ Below w.heap.size w w' := by
  have HR := hide hr
  clear hr
  go_enter Tryz.func68, Tryz.ntmps68
  go_wp2
  go_loopw [8] (fun i W => ∃ k : Nat, k ≤ l.length ∧ i = .int .i64 k ∧ Hid (∀ b ∈ l.take k, b = false) ∧ Below w.heap.size w W) (fun i _ => l.length - (intOf i).toNat)
  case atStart => exact ⟨0, Nat.zero_le _, rfl, hide (by simp), Below.refl _ _⟩
  case round =>
    obtain ⟨k, hk, rfl, hinv, q⟩ := hrel
    by_cases hlt : k < l.length
    · have hki : (k : Int) < (l.length : Int) := by omega
      have hk0 : ¬ (k : Int) < 0 := by omega
      obtain ⟨g, off, rfl, hb, hc⟩ := bo_at HR.out hlt
      have hc2 := cellBelow q hb hc
      have HT := hide (show l[k] = false → ∀ f ∈ l.take (k + 1), f = false from fun hn f hf => by
        rw [List.take_succ_eq_append_getElem hlt, List.mem_append] at hf
        rcases hf with hf | hf
        · exact hinv.out f hf
        · rw [List.mem_singleton.1 hf]; exact hn)
      have HY := hide (show l[k] = true → l.any id = true from fun h => List.any_eq_true.2 ⟨l[k], List.getElem_mem hlt, h⟩)
      clear hc hb
      rcases hx : l[k] with _ | _
      · rw [hx] at hc2 HT
        have HN := hide (HT.out rfl)
        clear hx HT HY
        go_wp2
        go_roundw
        case rel => exact ⟨k + 1, by omega, by go_num, HN, q⟩
        case measure => simp [intOf]; omega
      · rw [hx] at hc2 HY
        have HN := hide (HY.out rfl)
        clear hx HT HY
        go_wp2
        go_ret
        exact ⟨k, rfl, by rw [HN.out]; exact decide_eq_true (by omega), q⟩
    · have hE := hide (show l.any id = false by
        rw [List.any_eq_false]
        intro b hb
        have := hinv.out b (by rw [List.take_of_length_le (by omega)]; exact hb)
        rw [this]; decide)
      have hki : ¬ (k : Int) < (l.length : Int) := by omega
      go_wp2
      go_ret
      exact ⟨-1, rfl, by rw [hE.out]; rfl, q⟩
set_option maxRecDepth 100000 in
theorem containsTrue_any (l : List Bool) (A : Option Addr) (c : Nat) (w : World) (hr : BoR w w.heap.size A l) (hl : l.length ≤ 1000000) :
    Calls Tryz.prog 31 #[.slice A l.length c, .bool true] w fun e w' => e = .returned (.bool (l.any id)) ∧ Below w.heap.size w w' := by
  have IX := hide (indexTrue_any l A c w hr hl)
  clear hr
  go_enter Tryz.func31, Tryz.ntmps31
  go_wp2_with fail
  (with_reducible refine (IX.out).mono ?_)
  rintro e1 w1 ⟨i, rfl, hi, q1⟩
  go_wp2_with fail
  go_ret
  exact ⟨ret_bool hi.out, q1⟩
end Go.Proofs.YtnhegnneohpkaaaGreat

/- com.steps: values that are new go through their filters. -/
namespace Go.Proofs.YtnhegnneohpkaaaGreat
open Go.ChangeShapes Go.WideShapes Go.ChangeAt Go.RowKit
open CM PD SG

/-- The filters, and which pass, behind k of some values. -/
def stF (fs : List Flt) (vs : List Int) (nb : List Bool) : Nat → List Flt
  | 0 => fs
  | k + 1 => if nb.getD k false = true then (stF fs vs nb k).set k (flStep (fs.getD k zFlt) (vs.getD k 0)) else stF fs vs nb k
def stO (fs : List Flt) (vs : List Int) (nb : List Bool) : Nat → List Bool
  | 0 => List.replicate fs.length false
  | k + 1 => if nb.getD k false = true then (stO fs vs nb k).set k (fltP (fs.getD k zFlt) (vs.getD k 0)) else stO fs vs nb k
theorem stF_len (fs : List Flt) (vs : List Int) (nb : List Bool) : ∀ k, (stF fs vs nb k).length = fs.length
  | 0 => rfl
  | k + 1 => by unfold stF; split; rw [List.length_set, stF_len fs vs nb k]; exact stF_len fs vs nb k
theorem stO_len (fs : List Flt) (vs : List Int) (nb : List Bool) : ∀ k, (stO fs vs nb k).length = fs.length
  | 0 => by simp [stO]
  | k + 1 => by unfold stO; split; rw [List.length_set, stO_len fs vs nb k]; exact stO_len fs vs nb k
theorem stF_at (fs : List Flt) (vs : List Int) (nb : List Bool) : ∀ k j, k ≤ j → (stF fs vs nb k)[j]? = fs[j]?
  | 0, _, _ => rfl
  | k + 1, j, h => by
    unfold stF
    split
    · rw [List.getElem?_set_ne (by omega)]; exact stF_at fs vs nb k j (by omega)
    · exact stF_at fs vs nb k j (by omega)
theorem flat_rep {α : Type} (v : α) : ∀ n, (List.replicate n [v]).flatten = List.replicate n v
  | 0 => rfl
  | n + 1 => by rw [List.replicate_succ, List.replicate_succ, List.flatten_cons, flat_rep v n]; rfl
theorem own_made (w : World) (base n : Nat) (hb : base ≤ w.heap.size) (hn : n ≤ maxLen) : Own (w.alloc (.cells (madeCells #[.bool false] n) 4)) base 4 1 (some ⟨w.heap.size, 0, none⟩) n (boRow (List.replicate n false)) := by
  have h := Own.lit w base 4 1 (boRow (List.replicate n false)) hb (by simpa [boRow] using hn) (bo_rowsG _)
  have e : (boRow (List.replicate n false)).flatten.toArray = madeCells #[.bool false] n := by
    rw [← Array.toList_inj, toList_madeCells_one]
    unfold boRow
    rw [List.map_replicate]
    exact flat_rep _ n
  rw [e] at h
  simpa [boRow] using h
theorem own_flt {W : World} {base g cc k : Nat} {L : List Flt} {d : Flt} (h : Own W base 29 9 (some ⟨g, 0, none⟩) cc (L.map flcL)) (hk : k < L.length) : Own (W.setCells g (k * 9) (flcL d)) base 29 9 (some ⟨g, 0, none⟩) cc ((L.set k d).map flcL) := by
  have := (h.setRow (k := k) (row := flcL d) (fl_rows _) (by rw [List.length_map]; exact hk) rfl).1
  rwa [List.map_set]
theorem own_boo {W : World} {base g cc k : Nat} {L : List Bool} {d : Bool} (h : Own W base 4 1 (some ⟨g, 0, none⟩) cc (boRow L)) (hk : k < L.length) : Own (W.setCells g k [.bool d]) base 4 1 (some ⟨g, 0, none⟩) cc (boRow (L.set k d)) := by
  have := (h.setRow (k := k) (row := [.bool d]) (bo_rowsG _) (by unfold boRow; rw [List.length_map]; exact hk) rfl).1
  rw [Nat.mul_one] at this
  unfold boRow at this ⊢
  rwa [List.map_set]
theorem own_boc {W : World} {base g cc k : Nat} {L : List Bool} (h : Own W base 4 1 (some ⟨g, 0, none⟩) cc (boRow L)) (hk : k < L.length) : W.cell? ⟨g, k, none⟩ = some (.bool L[k]) ∧ W.frozen? ⟨g, k, none⟩ = false := by
  have h1 := own_at h (bo_rowsG _) (k := k) (j := 0) (row := [.bool L[k]]) (v := .bool L[k]) (by unfold boRow; rw [List.getElem?_map, List.getElem?_eq_getElem hk]; rfl) rfl
  rw [Nat.mul_one, Nat.add_zero] at h1
  exact ⟨h1, World.ownsRow.frozenAt h k⟩
/-- A row of the call's own beside a block that is written, or behind one. -/
theorem own_beside {W : World} {base : Nat} {e : TypeId} {sz : Nat} {A : Option Addr} {c : Nat} {R : List (List Value)} {x : Nat} (h : Own W base e sz A c R) (hx : ∀ g off, A = some ⟨g, off, none⟩ → g ≠ x) (o : Nat) (vs : List Value) : Own (W.setCells x o vs) base e sz A c R := by
  have k := Kp.set (S := fun k => k = x) W x o vs rfl
  refine World.ownsRow.kept h (row := some x) ⟨k.os, k.tape, k.output, k.size, fun i hi hr => k.block i hi (fun e => hr (by rw [e]))⟩ ?_
  rcases h.2 with ⟨hv, _⟩ | ⟨g1, cap, cur, hv, _, _⟩
  · simp only [Value.slice.injEq] at hv
    obtain ⟨rfl, _, _⟩ := hv
    simp [Value.ownBlock]
  · simp only [Value.slice.injEq] at hv
    obtain ⟨rfl, _, _⟩ := hv
    have := hx g1 0 rfl
    simp [Value.ownBlock]
    omega

set_option maxRecDepth 100000 in
set_option maxHeartbeats 16000000 in
theorem comSteps_ok (fs : List Flt) (vs : List Int) (nb : List Bool) (A B C : Option Addr) (ca cb cc : Nat) (w : World) (hA : FlR w w.heap.size A fs) (hB : InR w w.heap.size B vs) (hC : BoR w w.heap.size C nb)
    (h1 : 1 ≤ fs.length) (h16 : fs.length ≤ 1000) (hv : vs.length = fs.length) (hn : nb.length = fs.length) (hf : ∀ f ∈ fs, fltB f = true ∧ f.count < 1099511627776) :
    Calls Tryz.prog 30 #[.slice A fs.length ca, .slice B vs.length cb, .slice C nb.length cc] w fun e w' => ∃ g h c', e = .returned (.tuple #[.slice (some ⟨g, 0, none⟩) fs.length c', .slice (some ⟨h, 0, none⟩) fs.length fs.length]) ∧ Own w' w.heap.size 29 9 (some ⟨g, 0, none⟩) c' ((stF fs vs nb fs.length).map flcL) ∧ Own w' w.heap.size 4 1 (some ⟨h, 0, none⟩) fs.length (boRow (stO fs vs nb fs.length)) ∧ Below w.heap.size w w' := by
  have CL := hide (cloneFl_any fs A ca w hA h1 (by omega))
  have HB := hide hB
  have HC := hide hC
  have HF := hide hf
  have hmk := fun W => run_make_row' (P := Tryz.prog) 36 4 (.bool false) 1 Tryz.underlying36 (by kernel_rfl) rfl .i64 .i64 fs.length (by omega) (by omega) W
  obtain ⟨n, hnn⟩ : ∃ n, n = fs.length := ⟨_, rfl⟩
  have HFL := hide hnn.symm
  have HVL := hide (show vs.length = n by omega)
  have HNL := hide (show nb.length = n by omega)
  rw [hv, hn]
  rw [← hnn] at CL h1 h16 hmk ⊢
  clear hA hB hC hf hv hn hnn
  go_enter Tryz.func30, Tryz.ntmps30
  go_wp2_with fail
  (with_reducible refine (CL.out).mono ?_)
  rintro e1 w1 ⟨⟨g, c1, rfl, ow⟩, q⟩
  have OF := hide ow
  have Q := hide q
  have hg1 := own_blk ow g 0 rfl
  have hg2 := (show g < w1.heap.size from (Own.ofLen ow (by rw [List.length_map, HFL.out]; omega)).elim fun g' h => by have := h.1; cases this; exact h.2.2)
  clear ow q CL
  go_upto_region 3 with fail
  have q2 : Below w1.heap.size w1 (w1.alloc (.cells (madeCells #[.bool false] n) 4)) := (Below.refl _ _).alloc (Nat.le_refl _) _
  have OO := hide (own_made w1 w.heap.size n Q.out.size (by unfold maxLen; omega))
  replace OF := hide (OF.out.grown q2)
  replace Q := hide (below_next Q.out Q.out.size q2)
  have zw1 : w.heap.size ≤ w1.heap.size := by have := own_blk OO.out w1.heap.size 0 rfl; exact this
  clear q2 hmk
  generalize w1.alloc (.cells (madeCells #[.bool false] n) 4) = w2 at *
  generalize w1.heap.size = h at *
  replace OF := hide (show Own w2 w.heap.size 29 9 (some ⟨g, 0, none⟩) c1 ((stF fs vs nb 0).map flcL) from OF.out)
  replace OO := hide (show Own w2 w.heap.size 4 1 (some ⟨h, 0, none⟩) n (boRow (stO fs vs nb 0)) by unfold stO; rw [HFL.out]; exact OO.out)
  go_wp2_with fail
  go_loopw [18] (fun vi W => ∃ k : Nat, k ≤ n ∧ vi = .int .i64 k ∧ Hid (Own W w.heap.size 29 9 (some ⟨g, 0, none⟩) c1 ((stF fs vs nb k).map flcL)) ∧ Hid (Own W w.heap.size 4 1 (some ⟨h, 0, none⟩) n (boRow (stO fs vs nb k))) ∧ Hid (Below w.heap.size w W)) (fun vi _ => n - (intOf vi).toNat)
  case atStart => exact ⟨0, Nat.zero_le _, rfl, OF, OO, Q⟩
  case round =>
    clear OF OO Q
    obtain ⟨k, hk, rfl, OF, OO, Q⟩ := hrel
    by_cases hlt : k < n
    · have hki : (k : Int) < (n : Int) := by omega
      have hk0 : ¬ (k : Int) < 0 := by omega
      have hkf : k < fs.length := by have := HFL.out; omega
      have hkv : k < vs.length := by have := HVL.out; omega
      have hkn : k < nb.length := by have := HNL.out; omega
      obtain ⟨gc, oc, rfl, hgc, cc0⟩ := bo_at HC.out hkn
      have c0 := cellBelow Q.out hgc cc0
      have EF := hide (show stF fs vs nb (k + 1) = if nb.getD k false = true then (stF fs vs nb k).set k (flStep (fs.getD k zFlt) (vs.getD k 0)) else stF fs vs nb k from rfl)
      have EO := hide (show stO fs vs nb (k + 1) = if nb.getD k false = true then (stO fs vs nb k).set k (fltP (fs.getD k zFlt) (vs.getD k 0)) else stO fs vs nb k from rfl)
      have en : nb.getD k false = nb[k] := by rw [List.getD_eq_getElem?_getD, List.getElem?_eq_getElem hkn]; rfl
      have ef : fs.getD k zFlt = fs[k] := by rw [List.getD_eq_getElem?_getD, List.getElem?_eq_getElem hkf]; rfl
      have ev : vs.getD k 0 = vs[k] := by rw [List.getD_eq_getElem?_getD, List.getElem?_eq_getElem hkv]; rfl
      rw [en, ef, ev] at EF EO
      clear en ef ev cc0
      rcases hb : nb[k] with _ | _
      · rw [hb] at c0 EF EO
        have E1 := hide (show stF fs vs nb (k + 1) = stF fs vs nb k by rw [EF.out, if_neg (by decide)])
        have E2 := hide (show stO fs vs nb (k + 1) = stO fs vs nb k by rw [EO.out, if_neg (by decide)])
        clear EF EO hb
        go_wp2_with fail
        go_roundw
        case rel => exact ⟨k + 1, by omega, by go_num, by rw [E1.out]; exact OF, by rw [E2.out]; exact OO, Q⟩
        case measure => simp [intOf]; omega
      · rw [hb, if_pos rfl] at EF EO
        rw [hb] at c0
        have ST := hide (fun W => flStep_ok fs[k] vs[k] W (HF.out _ (List.getElem_mem hkf)).1 (HF.out _ (List.getElem_mem hkf)).2)
        have PF := hide (show wr.rangeAt g (k * 9) (flcL fs[k]) from fun j v hj => own_at OF.out (fl_rows _) (k := k) (row := flcL fs[k]) (by rw [List.getElem?_map, stF_at fs vs nb k k (Nat.le_refl _), List.getElem?_eq_getElem hkf]; rfl) hj)
        obtain ⟨gb, ob, hBA, hgb, hbc⟩ := HB.out (by unfold inRow; rw [List.length_map]; omega)
        have cv := hbc k [.int .i64 vs[k]] 0 (.int .i64 vs[k]) (by unfold inRow; rw [List.getElem?_map, List.getElem?_eq_getElem hkv]; rfl) rfl
        rw [Nat.mul_one, Nat.add_zero] at cv
        have CV := hide (show wr.cell? ⟨gb, ob + k, none⟩ = some (.int .i64 vs[k]) from cellBelow Q.out hgb cv)
        subst hBA
        have hLF := hide (show k < (stF fs vs nb k).length by rw [stF_len]; exact hkf)
        have hLO := hide (show k < (stO fs vs nb k).length by rw [stO_len]; exact hkf)
        obtain ⟨LF1, hLF1⟩ : ∃ L, L = stF fs vs nb (k + 1) := ⟨_, rfl⟩
        obtain ⟨LO1, hLO1⟩ : ∃ L, L = stO fs vs nb (k + 1) := ⟨_, rfl⟩
        rw [← hLF1] at EF
        rw [← hLO1] at EO
        have HL1 := hide hLF1
        have HL2 := hide hLO1
        clear hb cv hbc hLF1 hLO1
        generalize stF fs vs nb k = LF at *
        generalize stO fs vs nb k = LO at *
        obtain ⟨fk, hfk⟩ : ∃ fk, fk = fs[k] := ⟨_, rfl⟩
        obtain ⟨vk, hvk⟩ : ∃ vk, vk = vs[k] := ⟨_, rfl⟩
        rw [← hfk] at PF
        rw [← hvk] at CV
        rw [← hfk, ← hvk] at ST EF EO
        generalize flStep fk vk = f2 at *
        generalize fltP fk vk = p2 at *
        clear hfk hvk hkv hkn
        go_upto_region 7 with fail
        clear c0
        refine wp_region_L [0, 1, 2, 3, 4, 5, 6, 7, 8, 9, 10, 11, 13, 14, 15, 16, 17, 19] [(7, fun W => W.rangeAt g (k * 9) (flcL fk)), (11, fun W => W.cell? ⟨gb, ob + k, none⟩ = some (.int .i64 vk))] (by kernel_rfl) ?_
        replace OF := hide (show Own wr.drew w.heap.size 29 9 (some ⟨g, 0, none⟩) c1 (LF.map flcL) from OF.out.drew)
        replace OO := hide (show Own wr.drew w.heap.size 4 1 (some ⟨h, 0, none⟩) n (boRow LO) from OO.out.drew)
        replace Q := hide (show Below w.heap.size w wr.drew from Q.out.drew)
        replace PF := hide (show wr.drew.rangeAt g (k * 9) (flcL fk) from PF.out)
        replace CV := hide (show wr.drew.cell? ⟨gb, ob + k, none⟩ = some (.int .i64 vk) from CV.out)
        generalize wr.drew = wd at *
        refine wpAnyL_pure (i := 0) (v := .slice (some ⟨g, 0, none⟩) n c1) rfl rfl (by kernel_rfl) (by kernel_rfl) (by kernel_rfl) (by kernel_rfl) (by kernel_rfl) (fun _ _ _ h => h) rfl (fun W => by go_simp) ?_
        go_simp
        refine wpAnyL_pure (i := 1) (v := .int .i64 k) rfl rfl (by kernel_rfl) (by kernel_rfl) (by kernel_rfl) (by kernel_rfl) (by kernel_rfl) (fun _ _ _ h => h) rfl (fun W => by go_simp) ?_
        go_simp
        refine wpAnyL_pure (i := 2) (v := .slice (some ⟨h, 0, none⟩) n n) rfl rfl (by kernel_rfl) (by kernel_rfl) (by kernel_rfl) (by kernel_rfl) (by kernel_rfl) (fun _ _ _ h => h) rfl (fun W => by go_simp) ?_
        go_simp
        refine wpAnyL_pure (i := 3) (v := .int .i64 k) rfl rfl (by kernel_rfl) (by kernel_rfl) (by kernel_rfl) (by kernel_rfl) (by kernel_rfl) (fun _ _ _ h => h) rfl (fun W => by go_simp) ?_
        go_simp
        refine wpAnyL_pure (i := 4) (v := .slice (some ⟨g, 0, none⟩) n c1) rfl rfl (by kernel_rfl) (by kernel_rfl) (by kernel_rfl) (by kernel_rfl) (by kernel_rfl) (fun _ _ _ h => h) rfl (fun W => by go_simp) ?_
        go_simp
        refine wpAnyL_pure (i := 5) (v := .int .i64 k) rfl rfl (by kernel_rfl) (by kernel_rfl) (by kernel_rfl) (by kernel_rfl) (by kernel_rfl) (fun _ _ _ h => h) rfl (fun W => by go_simp) ?_
        go_simp
        refine wpAnyL_pure (i := 6) (v := .pointer (some ⟨g, k * 9, none⟩)) rfl rfl (by kernel_rfl) (by kernel_rfl) (by kernel_rfl) (by kernel_rfl) (by kernel_rfl) (fun _ _ _ h => h) rfl (fun W => by go_simp) ?_
        go_simp
        refine wpAnyL_load (i := 7) (v := .agg (flcL fk).toArray) rfl rfl (by kernel_rfl) (by kernel_rfl) (by kernel_rfl) (by kernel_rfl) (by kernel_rfl) (fun _ _ _ h => h) rfl (fun W h => exec_load W g (k * 9) 29 (flcL fk) _ h Tryz.underlying29 rfl (by kernel_rfl) _ _ (.tmp 31) (by rfl) (by rfl)) (PF.out) ?_
        go_simp
        refine wpAnyL_pure (i := 8) (v := .slice (some ⟨gb, ob, none⟩) n cb) rfl rfl (by kernel_rfl) (by kernel_rfl) (by kernel_rfl) (by kernel_rfl) (by kernel_rfl) (fun _ _ _ h => h) rfl (fun W => by go_simp) ?_
        go_simp
        refine wpAnyL_pure (i := 9) (v := .int .i64 k) rfl rfl (by kernel_rfl) (by kernel_rfl) (by kernel_rfl) (by kernel_rfl) (by kernel_rfl) (fun _ _ _ h => h) rfl (fun W => by go_simp) ?_
        go_simp
        refine wpAnyL_pure (i := 10) (v := .pointer (some ⟨gb, ob + k, none⟩)) rfl rfl (by kernel_rfl) (by kernel_rfl) (by kernel_rfl) (by kernel_rfl) (by kernel_rfl) (fun _ _ _ h => h) rfl (fun W => by go_simp) ?_
        go_simp
        refine wpAnyL_load (i := 11) (v := .int .i64 vk) rfl rfl (by kernel_rfl) (by kernel_rfl) (by kernel_rfl) (by kernel_rfl) (by kernel_rfl) (fun _ _ _ h => h) rfl (fun W h => by go_simp) (CV.out) ?_
        go_simp
        refine wpAnyL_one (i := 12) (by kernel_rfl) ?_
        refine wpOp_do rfl rfl ?_
        go_simp
        (with_reducible refine (ST.out _).mono ?_)
        rintro e3 w3 ⟨rfl, q3⟩
        replace OF := hide (OF.out.grown q3)
        replace OO := hide (OO.out.grown q3)
        replace Q := hide (below_next Q.out Q.out.size q3)
        clear q3 PF CV ST
        go_simp
        refine ⟨keepsL_all (by kernel_rfl) (by kernel_rfl), ?_⟩
        go_simp
        refine wpAnyL_pure (i := 13) (v := .tuple #[.agg (flcL f2).toArray, .bool p2, .int .i64 0]) rfl rfl (by kernel_rfl) (by kernel_rfl) (by kernel_rfl) (by kernel_rfl) (by kernel_rfl) (fun _ _ _ h => h) rfl (fun W => by go_simp) ?_
        go_simp
        refine wpAnyL_pure (i := 14) (v := .agg (flcL f2).toArray) rfl rfl (by kernel_rfl) (by kernel_rfl) (by kernel_rfl) (by kernel_rfl) (by kernel_rfl) (fun _ _ _ h => h) rfl (fun W => by go_simp) ?_
        go_simp
        refine wpAnyL_pure (i := 15) (v := .bool p2) rfl rfl (by kernel_rfl) (by kernel_rfl) (by kernel_rfl) (by kernel_rfl) (by kernel_rfl) (fun _ _ _ h => h) rfl (fun W => by go_simp) ?_
        go_simp
        refine wpAnyL_pure (i := 16) (v := .int .i64 0) rfl rfl (by kernel_rfl) (by kernel_rfl) (by kernel_rfl) (by kernel_rfl) (by kernel_rfl) (fun _ _ _ h => h) rfl (fun W => by go_simp) ?_
        go_simp
        refine wpAnyL_pure (i := 17) (v := .pointer (some ⟨g, k * 9, none⟩)) rfl rfl (by kernel_rfl) (by kernel_rfl) (by kernel_rfl) (by kernel_rfl) (by kernel_rfl) (fun _ _ _ h => h) rfl (fun W => by go_simp) ?_
        go_simp
        have TF := hide (OF.out.there (fl_rows _) (k := k) (by rw [List.length_map]; exact hLF.out))
        refine wpAnyL_one (i := 18) (by kernel_rfl) ?_
        refine wpOp_do rfl rfl ?_
        refine wp_store_as 29 (.tmp 41) (.tmp 38) rfl g (k * 9) (flcL f2) (by rfl) (by rfl) (by exact TF.out) (by kernel_rfl) (by simp [Value.oneCell', flcL]) ?_
        intro w4 e4
        replace OF := hide (show Own w4 w.heap.size 29 9 (some ⟨g, 0, none⟩) c1 (LF1.map flcL) by rw [e4, EF.out]; exact own_flt OF.out hLF.out)
        replace OO := hide (show Own w4 w.heap.size 4 1 (some ⟨h, 0, none⟩) n (boRow LO) by rw [e4]; exact own_beside OO.out (fun g2 off e => by cases e; omega) _ _)
        replace Q := hide (show Below w.heap.size w w4 by rw [e4]; exact Q.out.trans (below_setCells _ _ _ hg1))
        clear e4 TF
        refine ⟨keepsL_all (by kernel_rfl) (by kernel_rfl), ?_⟩
        go_simp
        refine wpAnyL_pure (i := 19) (v := .pointer (some ⟨h, k, none⟩)) rfl rfl (by kernel_rfl) (by kernel_rfl) (by kernel_rfl) (by kernel_rfl) (by kernel_rfl) (fun _ _ _ h => h) rfl (fun W => by go_simp) ?_
        go_simp
        obtain ⟨y0, y1⟩ := own_boc OO.out hLO.out
        refine wpAnyL_one (i := 20) (by kernel_rfl) ?_
        refine wpOp_do rfl rfl ?_
        go_simp
        clear y0 y1
        obtain ⟨w5, e5⟩ : ∃ w5, w5 = w4.setCell ⟨h, k, none⟩ (.bool p2) := ⟨_, rfl⟩
        rw [← e5]
        replace OF := hide (show Own w5 w.heap.size 29 9 (some ⟨g, 0, none⟩) c1 (LF1.map flcL) by rw [e5]; exact own_beside OF.out (fun g2 off e => by cases e; omega) k [.bool p2])
        replace OO := hide (show Own w5 w.heap.size 4 1 (some ⟨h, 0, none⟩) n (boRow LO1) by rw [e5, EO.out]; exact own_boo OO.out hLO.out)
        replace Q := hide (show Below w.heap.size w w5 by rw [e5]; exact Q.out.trans (below_setCells [.bool p2] k _ zw1))
        clear e5
        refine ⟨keepsL_all (by kernel_rfl) (by kernel_rfl), ?_⟩
        go_simp
        refine wpAnyL_done (by kernel_rfl) ?_ _
        rw [HL1.out] at OF
        rw [HL2.out] at OO
        go_wp2_with fail
        go_roundw
        case rel => exact ⟨k + 1, by omega, by go_num, OF, OO, Q⟩
        case measure => simp [intOf]; omega
    · obtain rfl : n = k := by omega
      have hki : ¬ (n : Int) < (n : Int) := by omega
      go_wp2_with fail
      refine bodyPost_ret (v := .tuple #[.slice (some ⟨g, 0, none⟩) n c1, .slice (some ⟨h, 0, none⟩) n n]) (by simp [results, Tryz.results30, go_sem]) rfl ⟨g, h, c1, rfl, OF.out, OO.out, Q.out⟩
end Go.Proofs.YtnhegnneohpkaaaGreat
