import Derived.Test.YtkmddjbialpppaaGreatDoorMgCoA
import Derived.Test.YtkmddjbialpppaaGreatDoorMgCoG
import Derived.Test.YtkmddjbialpppaaGreatDoorMgCoZ
import Derived.Test.YtkmddjbialpppaaGreatDoorMgSmA
import Derived.Test.YtkmddjbialpppaaGreatDoorMgSnB
import Derived.Test.YtkmddjbialpppaaGreatDoorMgBxC
import Derived.Test.YtkmddjbialpppaaGreatDoorMgOrdL
namespace Go.Proofs.YtkmddjbialpppaaGreatDoor
open Go.ChangeShapes Go.WideShapes Go.ChangeAt Go.RowKit
set_option maxRecDepth 100000 in
set_option maxHeartbeats 4000000 in
theorem refBit21_any (n : Int) (k : Nat) (w : World) (h0 : 0 ≤ n) (h1 : n < 9223372036854775808) (hk : k ≤ 1000) :
    Calls Tryz.prog 50 #[.int .i64 n, .int .i64 k] w fun e w' => e = .returned (.bool (n / 2 ^ k % 2 == 1)) ∧ w' = w := by
  obtain ⟨r, hr⟩ : ∃ r, r = (n / 2 ^ k % 2 == 1) := ⟨_, rfl⟩
  rw [← hr]
  have HR := aA hr
  clear hr
  go_enter Tryz.func50, Tryz.ntmps50
  go_wp2_with fail
  go_loopw [0, 5] (fun vn vi W => ∃ (j : Nat) (m : Int), j ≤ k ∧ vi = .int .i64 j ∧ vn = .int .i64 m ∧ 0 ≤ m ∧ m < 9223372036854775808 ∧ Hid (m = n / 2 ^ j) ∧ W = w) (fun _ vi _ => k - (intOf vi).toNat)
  case atStart => exact ⟨0, n, Nat.zero_le _, rfl, rfl, h0, h1, aA (by simp), rfl⟩
  case round =>
    obtain ⟨j, m, hj, rfl, rfl, hm0, hm1, HM, rfl⟩ := hrel
    by_cases hjk : j < k
    · have hji : (j : Int) < (k : Int) := by omega
      have HM2 := aA (show m / 2 = n / 2 ^ (j + 1) by
        rw [HM.out, Int.pow_succ]
        have hp : (0 : Int) ≤ 2 ^ j := Int.le_of_lt (Int.pow_pos (by decide))
        first | rw [Int.ediv_ediv_of_nonneg hp] | rw [Int.ediv_ediv_eq_ediv_mul _ hp])
      have hd : m.tdiv 2 = m / 2 := Int.tdiv_eq_ediv_of_nonneg hm0
      go_wp2_with fail
      go_roundw
      case rel => exact ⟨j + 1, m / 2, by omega, by go_num, (by first | rfl | (rw [hd]) | simp), by omega, by omega, HM2, trivial⟩
      case measure => simp [intOf]; omega
    · obtain rfl : j = k := by omega
      have E := aA (show r = (m % 2 == 1) by rw [HR.out, HM.out])
      have hd : m.tmod 2 = m % 2 := Int.tmod_eq_emod_of_nonneg hm0
      clear HR HM
      go_wp2_with fail
      go_ret
      refine ⟨aV ?_, rfl⟩
      rw [E.out]
end Go.Proofs.YtkmddjbialpppaaGreatDoor
namespace Go.Proofs.YtkmddjbialpppaaGreatDoor
open CM PD SG
theorem bits_law {n : Int} (h : 1 ≤ n) {k : Nat} (h2 : 2 ≤ k) (h4 : k ≤ 4) : n / 2 ^ k = 0 ↔ n ≤ 15 ∧ ∀ i : Nat, k ≤ i → i < 4 → n / 2 ^ i % 2 = 0 := by
  obtain rfl | rfl | rfl : k = 2 ∨ k = 3 ∨ k = 4 := by omega
  · constructor
    · intro e
      refine ⟨by omega, fun i hi hi4 => ?_⟩
      obtain rfl | rfl : i = 2 ∨ i = 3 := by omega
      · omega
      · omega
    · rintro ⟨e, f⟩
      have f2 := f 2 (by omega) (by omega)
      have f3 := f 3 (by omega) (by omega)
      omega
  · constructor
    · intro e
      refine ⟨by omega, fun i hi hi4 => ?_⟩
      obtain rfl : i = 3 := by omega
      omega
    · rintro ⟨e, f⟩
      have f3 := f 3 (by omega) (by omega)
      omega
  · constructor
    · intro e
      exact ⟨by omega, fun i hi hi4 => by omega⟩
    · rintro ⟨e, _⟩
      omega
theorem seen_none {l : List Pd} (x : Int) : ∀ {k : Nat}, k ≤ l.length → ((seen l k x).isSome = true ↔ ∃ j, ∃ h : j < l.length, j < k ∧ l[j].id = x)
  | 0, _ => by simp [seen]
  | k + 1, hk => by
    have hkl : k < l.length := by omega
    rw [seen_succ hkl]
    by_cases e : x = l[k].id
    · simp only [if_pos e, Option.isSome_some, true_iff]
      exact ⟨k, hkl, by omega, e.symm⟩
    · simp only [if_neg e]
      rw [seen_none x (by omega)]
      constructor
      · rintro ⟨j, hj, h1, h2⟩; exact ⟨j, hj, by omega, h2⟩
      · rintro ⟨j, hj, h1, h2⟩
        refine ⟨j, hj, ?_, h2⟩
        rcases Nat.lt_or_ge j k with h | h
        · exact h
        · obtain rfl : j = k := by omega
          exact absurd h2.symm e
end Go.Proofs.YtkmddjbialpppaaGreatDoor
namespace Go.Proofs.YtkmddjbialpppaaGreatDoor
open Go.ChangeShapes Go.WideShapes Go.ChangeAt Go.RowKit
open CM PD SG
def placeB (c : Cf) (p : Pd) (known : Bool) : Bool := cK p.frm 0 (c.nodes - 1) && (decide (1 ≤ p.dst) && ((p.dst / 2 ^ c.nodes.toNat == 0) && ((p.dst / 2 ^ p.frm.toNat % 2 == 0) && (decide (p.id < 2048) && (!(decide (c.base ≤ p.id) && decide (p.id < c.base + c.nodes)) && (cK p.limit 0 1000000 && (!known && !(p.fl.l.any fun f => f.count != 0))))))))
theorem mayB_place (c : Cf) (p : Pd) (k : Bool) : iW c p k = (placeB c p k && (outB p && inB p)) := by
  unfold iW placeB
  simp only [Bool.and_assoc]
def PlaceP (c : Cf) (k : Nat) (p : Pd) : Prop :=
    ((0 ≤ p.frm ∧ p.frm < c.nodes ∧ 1 ≤ p.dst ∧ p.dst ≤ 15 ∧ 0 ≤ p.limit ∧ p.limit ≤ 1000000 ∧ p.id ≤ 2047) ∧ p.dst / 2 ^ p.frm.toNat % 2 = 0) ∧ (∀ i : Nat, c.nodes ≤ i → i < 4 → p.dst / 2 ^ i % 2 = 0) ∧ ¬ (c.base ≤ p.id ∧ p.id < c.base + c.nodes) ∧ (∀ j, ∀ h : j < p.fl.l.length, p.fl.l[j].count = 0) ∧ ∀ j, ∀ h : j < c.l.length, j < k → c.l[j].id ≠ p.id
theorem placeB_iff {c : Cf} {k : Nat} (hk : k < c.l.length) (hn : 2 ≤ c.nodes ∧ c.nodes ≤ 4) {p : Pd} : placeB c p (seen c.l k p.id).isSome = true ↔ PlaceP c k p := by
  have hs : (seen c.l k p.id).isSome = false ↔ ∀ j, ∀ h : j < c.l.length, j < k → c.l[j].id ≠ p.id := by
    rw [← Bool.not_eq_true, seen_none p.id (Nat.le_of_lt hk)]
    constructor
    · intro h j hj hjk e; exact h ⟨j, hj, hjk, e⟩
    · rintro h ⟨j, hj, hjk, e⟩; exact h j hj hjk e
  have hf : (p.fl.l.any fun f => f.count != 0) = false ↔ ∀ j, ∀ h : j < p.fl.l.length, p.fl.l[j].count = 0 := by
    rw [List.any_eq_false]
    constructor
    · intro h j hj; simpa using h _ (List.getElem_mem hj)
    · intro h f hm
      obtain ⟨j, hj, rfl⟩ := List.getElem_of_mem hm
      simpa using h j hj
  obtain ⟨n, hn'⟩ : ∃ n : Nat, c.nodes = n := ⟨c.nodes.toNat, by omega⟩
  unfold placeB cK PlaceP
  simp only [Bool.and_eq_true, decide_eq_true_eq, beq_iff_eq, Bool.not_eq_true', hs, hf, Bool.and_eq_false_iff, decide_eq_false_iff_not]
  rw [hn', Int.toNat_natCast]
  constructor
  · rintro ⟨⟨a1, a2⟩, b, d, e, f, g, ⟨l1, l2⟩, s, t⟩
    obtain ⟨d1, d2⟩ := (bits_law (k := n) b (by omega) (by omega)).1 d
    exact ⟨⟨⟨a1, by omega, b, d1, l1, l2, by omega⟩, e⟩, fun i hi h4 => d2 i (by omega) h4, by omega, t, s⟩
  · rintro ⟨⟨⟨a1, a2, b, d1, l1, l2, g⟩, e⟩, d2, f, t, s⟩
    exact ⟨⟨a1, by omega⟩, b, (bits_law (k := n) b (by omega) (by omega)).2 ⟨d1, fun i hi h4 => d2 i (by omega) h4⟩, e, by omega, by omega, ⟨l1, l2⟩, s, t⟩
theorem confB_all {c : Cf} (h : cF c = true) {k : Nat} (hk : k < c.l.length) : PlaceP c k c.l[k] ∧ outB c.l[k] = true ∧ inB c.l[k] = true := by
  have hf := eZ h
  unfold cF at h
  have h2 := (Bool.and_eq_true_iff.1 h).2
  rw [List.all_eq_true] at h2
  have h3 := h2 k (List.mem_range.2 hk)
  rw [okAt_eq hk, mayB_place] at h3
  obtain ⟨h4, h5⟩ := Bool.and_eq_true_iff.1 h3
  obtain ⟨h6, h7⟩ := Bool.and_eq_true_iff.1 h5
  exact ⟨(placeB_iff hk (gS hf).1).1 h4, h6, h7⟩
theorem conf_dst {c : Cf} (h : cF c = true) {p : Pd} (hp : p ∈ c.l) : 1 ≤ p.dst ∧ p.dst ≤ 15 := by
  obtain ⟨k, hk, rfl⟩ := List.getElem_of_mem hp
  have := (confB_all h hk).1.1.1
  exact ⟨this.2.2.1, this.2.2.2.1⟩
end Go.Proofs.YtkmddjbialpppaaGreatDoor
namespace Go.Proofs.YtkmddjbialpppaaGreatDoor
open Go.ChangeShapes Go.WideShapes Go.ChangeAt Go.RowKit
open ND
set_option maxRecDepth 100000 in
set_option maxHeartbeats 16000000 in
theorem tvGo_bad (t : Tv) (m : Int) (w : World) (h : tvB t = false) :
    Calls Tryz.prog 27 #[.agg (bD t).toArray, .int .i64 m] w fun e w' => e = .returned (.tuple #[.agg (bD eX).toArray, .int .i64 1]) ∧ Below w.heap.size w w' := by
  obtain ⟨w0, hw0⟩ : ∃ w0, w0 = (w.alloc (.cells (bD t).toArray 27)).alloc (.cells (bD eX).toArray 27) := ⟨_, rfl⟩
  have B := aA (aB (World.alloc_heap_new w (.cells (bD t).toArray 27)) ((Below.refl _ (w.alloc (.cells (bD t).toArray 27))).alloc (Nat.le_refl _) (.cells (bD eX).toArray 27)))
  have R := aA (World.alloc_heap_new (w.alloc (.cells (bD t).toArray 27)) (.cells (bD eX).toArray 27))
  have Q : Hid (Below w.heap.size w w0) := by rw [hw0]; exact aA (((Below.refl w.heap.size w).alloc (Nat.le_refl _) (.cells (bD t).toArray 27)).alloc (by simp; try omega) (.cells (bD eX).toArray 27))
  rw [← hw0] at B R
  simp only [World.size_alloc] at R
  have RT := gR t w0
  rw [h] at RT
  replace RT := aA RT
  clear h
  go_enter Tryz.func27, Tryz.ntmps27
  go_upto_region 1 with fail
  change Code.wp _ _ _ _ ((w.alloc (.cells (bD t).toArray 27)).alloc (.cells (bD eX).toArray 27))
  rw [← hw0]
  clear hw0
  go_wp2_with (refine wpList_load_row rfl 27 (.tmp 2) (by rfl) w.heap.size (by rfl) 27 (bD t).toArray (0, 0) _ (by exact B.out) Tryz.underlying27 (by rfl) (by kernel_rfl) ?_)
  (with_reducible refine (RT.out).mono ?_)
  rintro ew1' w1' ⟨rfl, qw1'⟩
  replace B := aA (aB B.out qw1')
  replace R := aA (aB R.out qw1')
  replace Q := aA (aC Q.out Q.out.size qw1')
  clear qw1'
  clear RT
  have Tw2' := aA (show World.there _ (w.heap.size + 1) 0 13 from aK (cs := bD eX) R.out)
  go_wp2_with (refine aF (by rfl) 27 (.tmp 4) (.tmp 14) (by rfl) (w.heap.size + 1) 0 (bD eX) (by rfl) (by rfl) (by exact Tw2'.out) (by kernel_rfl) (by simp [Value.oneCell', bD]) ?_)
  intro w2' ew2'
  replace B := aA (show w2'.heap[w.heap.size]? = some (.cells (bD t).toArray 27 (0, 0)) by rw [ew2'.out]; exact aG (by omega) _ _ _ B.out)
  replace Q := aA (show Below w.heap.size w w2' by rw [ew2'.out]; exact Q.out.trans (aE _ _ _ (by have := Q.out.size; omega)))
  replace R := aA (show w2'.heap[w.heap.size + 1]? = some (.cells (bD eX).toArray 27 (0, 0)) by rw [ew2'.out]; exact aJ (bD eX) (xs := bD eX) R.out rfl)
  clear ew2' Tw2'
  go_wp2_with fail
  refine bodyPost_ret (aP (by rfl) _ w2' (w.heap.size + 1) 27 (bD (eX)).toArray (0, 0) _ (.int .i64 1) (by rfl) (by rfl) R.out Tryz.underlying27 (by rfl) (by kernel_rfl)) rfl ⟨rfl, Q.out⟩
set_option maxRecDepth 100000 in
set_option maxHeartbeats 16000000 in
theorem tvGo_same (t : Tv) (m : Int) (w : World) (h : tvB t = true) (hm : mdB m = true) (he : t.mode = m) :
    Calls Tryz.prog 27 #[.agg (bD t).toArray, .int .i64 m] w fun e w' => e = .returned (.tuple #[.agg (bD t).toArray, .int .i64 0]) ∧ Below w.heap.size w w' := by
  obtain ⟨w0, hw0⟩ : ∃ w0, w0 = (w.alloc (.cells (bD t).toArray 27)).alloc (.cells (bD eX).toArray 27) := ⟨_, rfl⟩
  have B := aA (aB (World.alloc_heap_new w (.cells (bD t).toArray 27)) ((Below.refl _ (w.alloc (.cells (bD t).toArray 27))).alloc (Nat.le_refl _) (.cells (bD eX).toArray 27)))
  have R := aA (World.alloc_heap_new (w.alloc (.cells (bD t).toArray 27)) (.cells (bD eX).toArray 27))
  have Q : Hid (Below w.heap.size w w0) := by rw [hw0]; exact aA (((Below.refl w.heap.size w).alloc (Nat.le_refl _) (.cells (bD t).toArray 27)).alloc (by simp; try omega) (.cells (bD eX).toArray 27))
  rw [← hw0] at B R
  simp only [World.size_alloc] at R
  have RT := gR t w0
  rw [h] at RT
  replace RT := aA RT
  have MD := aA (fun W => show Calls Tryz.prog 71 #[.int .i64 m] W fun e w' => e = .returned (.bool true) ∧ W = w' from by
    have k := kE m W
    rwa [hm] at k)
  clear h hm
  go_enter Tryz.func27, Tryz.ntmps27
  go_upto_region 1 with fail
  change Code.wp _ _ _ _ ((w.alloc (.cells (bD t).toArray 27)).alloc (.cells (bD eX).toArray 27))
  rw [← hw0]
  clear hw0
  go_wp2_with (refine wpList_load_row rfl 27 (.tmp 2) (by rfl) w.heap.size (by rfl) 27 (bD t).toArray (0, 0) _ (by exact B.out) Tryz.underlying27 (by rfl) (by kernel_rfl) ?_)
  (with_reducible refine (RT.out).mono ?_)
  rintro ew1' w1' ⟨rfl, qw1'⟩
  replace B := aA (aB B.out qw1')
  replace R := aA (aB R.out qw1')
  replace Q := aA (aC Q.out Q.out.size qw1')
  clear qw1'
  clear RT
  go_wp2_with fail
  (with_reducible refine (MD.out _).mono ?_)
  rintro e1 w9 ⟨rfl, rfl⟩
  clear MD
  obtain ⟨_, _, _, _, _, _, _, c7, _⟩ := dI B.out
  have hfz := fun j => (show World.frozen? w1' ⟨w.heap.size, j, none⟩ = false by simp [World.frozen?, B.out])
  clear hfz
  have ht : (t.mode != m) = false := by simp [he]
  clear he
  have Tw2' := aA (show World.there _ (w.heap.size + 1) 0 13 from aK (cs := bD eX) R.out)
  go_wp2_with (first | (refine wpList_load_row rfl 27 (.tmp 2) (by rfl) w.heap.size (by rfl) 27 (bD t).toArray (0, 0) _ (by exact B.out) Tryz.underlying27 (by rfl) (by kernel_rfl) ?_) | (refine aF (by rfl) 27 (.tmp 4) (.tmp 26) (by rfl) (w.heap.size + 1) 0 (bD t) (by rfl) (by rfl) (by exact Tw2'.out) (by kernel_rfl) (by simp [Value.oneCell', bD]) ?_))
  intro w2' ew2'
  replace B := aA (show w2'.heap[w.heap.size]? = some (.cells (bD t).toArray 27 (0, 0)) by rw [ew2'.out]; exact aG (by omega) _ _ _ B.out)
  replace Q := aA (show Below w.heap.size w w2' by rw [ew2'.out]; exact Q.out.trans (aE _ _ _ (by have := Q.out.size; omega)))
  replace R := aA (show w2'.heap[w.heap.size + 1]? = some (.cells (bD t).toArray 27 (0, 0)) by rw [ew2'.out]; exact aJ (bD t) (xs := bD eX) R.out rfl)
  clear ew2' Tw2'
  go_wp2_with fail
  refine bodyPost_ret (aP (by rfl) _ w2' (w.heap.size + 1) 27 (bD (t)).toArray (0, 0) _ (.int .i64 0) (by rfl) (by rfl) R.out Tryz.underlying27 (by rfl) (by kernel_rfl)) rfl ⟨rfl, Q.out⟩
set_option maxRecDepth 100000 in
set_option maxHeartbeats 16000000 in
theorem tvGo_new (t : Tv) (m : Int) (w : World) (h : tvB t = true) (hm : mdB m = true) (he : t.mode ≠ m) :
    Calls Tryz.prog 27 #[.agg (bD t).toArray, .int .i64 m] w fun e w' => e = .returned (.tuple #[.agg (bD ({ t with mode := m, errs := 0, bus := false, frm := false, loc := false, ovr := false } : Tv)).toArray, .int .i64 0]) ∧ Below w.heap.size w w' := by
  obtain ⟨w0, hw0⟩ : ∃ w0, w0 = (w.alloc (.cells (bD t).toArray 27)).alloc (.cells (bD eX).toArray 27) := ⟨_, rfl⟩
  have B := aA (aB (World.alloc_heap_new w (.cells (bD t).toArray 27)) ((Below.refl _ (w.alloc (.cells (bD t).toArray 27))).alloc (Nat.le_refl _) (.cells (bD eX).toArray 27)))
  have R := aA (World.alloc_heap_new (w.alloc (.cells (bD t).toArray 27)) (.cells (bD eX).toArray 27))
  have Q : Hid (Below w.heap.size w w0) := by rw [hw0]; exact aA (((Below.refl w.heap.size w).alloc (Nat.le_refl _) (.cells (bD t).toArray 27)).alloc (by simp; try omega) (.cells (bD eX).toArray 27))
  rw [← hw0] at B R
  simp only [World.size_alloc] at R
  have RT := gR t w0
  rw [h] at RT
  replace RT := aA RT
  have MD := aA (fun W => show Calls Tryz.prog 71 #[.int .i64 m] W fun e w' => e = .returned (.bool true) ∧ W = w' from by
    have k := kE m W
    rwa [hm] at k)
  clear h hm
  go_enter Tryz.func27, Tryz.ntmps27
  go_upto_region 1 with fail
  change Code.wp _ _ _ _ ((w.alloc (.cells (bD t).toArray 27)).alloc (.cells (bD eX).toArray 27))
  rw [← hw0]
  clear hw0
  go_wp2_with (refine wpList_load_row rfl 27 (.tmp 2) (by rfl) w.heap.size (by rfl) 27 (bD t).toArray (0, 0) _ (by exact B.out) Tryz.underlying27 (by rfl) (by kernel_rfl) ?_)
  (with_reducible refine (RT.out).mono ?_)
  rintro ew1' w1' ⟨rfl, qw1'⟩
  replace B := aA (aB B.out qw1')
  replace R := aA (aB R.out qw1')
  replace Q := aA (aC Q.out Q.out.size qw1')
  clear qw1'
  clear RT
  go_wp2_with fail
  (with_reducible refine (MD.out _).mono ?_)
  rintro e1 w9 ⟨rfl, rfl⟩
  clear MD
  obtain ⟨_, _, _, _, _, _, _, c7, _⟩ := dI B.out
  have hfz := fun j => (show World.frozen? w1' ⟨w.heap.size, j, none⟩ = false by simp [World.frozen?, B.out])
  have ht : (t.mode != m) = true := by simp [he]
  clear he
  go_upto_region 6 with fail
  clear hfz c7 ht
  obtain ⟨w2', ew2'⟩ : ∃ wq, wq = ((((((w1').setCell ⟨w.heap.size, 7, none⟩ (.int .i64 m)).setCell ⟨w.heap.size, 8, none⟩ (.int .i64 0)).setCell ⟨w.heap.size, 9, none⟩ (.bool false)).setCell ⟨w.heap.size, 10, none⟩ (.bool false)).setCell ⟨w.heap.size, 11, none⟩ (.bool false)).setCell ⟨w.heap.size, 12, none⟩ (.bool false) := ⟨_, rfl⟩
  rw [← ew2']
  replace R := aA (show w2'.heap[w.heap.size + 1]? = some (.cells (bD eX).toArray 27 (0, 0)) by rw [ew2']; exact aG (by omega) [.bool false] 12 _ (aG (by omega) [.bool false] 11 _ (aG (by omega) [.bool false] 10 _ (aG (by omega) [.bool false] 9 _ (aG (by omega) [.int .i64 0] 8 _ (aG (by omega) [.int .i64 m] 7 _ (R.out)))))))
  replace Q := aA (show Below w.heap.size w w2' by rw [ew2']; exact Below.trans (Below.trans (Below.trans (Below.trans (Below.trans (Below.trans (Q.out) (aE [.int .i64 m] 7 _ (by have := Q.out.size; omega))) (aE [.int .i64 0] 8 _ (by have := Q.out.size; omega))) (aE [.bool false] 9 _ (by have := Q.out.size; omega))) (aE [.bool false] 10 _ (by have := Q.out.size; omega))) (aE [.bool false] 11 _ (by have := Q.out.size; omega))) (aE [.bool false] 12 _ (by have := Q.out.size; omega)))
  replace B := aA (show w2'.heap[w.heap.size]? = some (.cells (bD ({ t with mode := m, errs := 0, bus := false, frm := false, loc := false, ovr := false } : Tv)).toArray 27 (0, 0)) by rw [ew2']; exact aU [.bool false] _ 12 _ (aU [.bool false] _ 11 _ (aU [.bool false] _ 10 _ (aU [.bool false] _ 9 _ (aU [.int .i64 0] _ 8 _ (aU [.int .i64 m] (bD t) 7 _ B.out))))))
  clear ew2'
  have Tw3' := aA (show World.there _ (w.heap.size + 1) 0 13 from aK (cs := bD eX) R.out)
  go_wp2_with (first | (refine wpList_load_row rfl 27 (.tmp 2) (by rfl) w.heap.size (by rfl) 27 (bD ({ t with mode := m, errs := 0, bus := false, frm := false, loc := false, ovr := false } : Tv)).toArray (0, 0) _ (by exact B.out) Tryz.underlying27 (by rfl) (by kernel_rfl) ?_) | (refine aF (by rfl) 27 (.tmp 4) (.tmp 26) (by rfl) (w.heap.size + 1) 0 (bD ({ t with mode := m, errs := 0, bus := false, frm := false, loc := false, ovr := false } : Tv)) (by rfl) (by rfl) (by exact Tw3'.out) (by kernel_rfl) (by simp [Value.oneCell', bD]) ?_))
  intro w3' ew3'
  replace B := aA (show w3'.heap[w.heap.size]? = some (.cells (bD ({ t with mode := m, errs := 0, bus := false, frm := false, loc := false, ovr := false } : Tv)).toArray 27 (0, 0)) by rw [ew3'.out]; exact aG (by omega) _ _ _ B.out)
  replace Q := aA (show Below w.heap.size w w3' by rw [ew3'.out]; exact Q.out.trans (aE _ _ _ (by have := Q.out.size; omega)))
  replace R := aA (show w3'.heap[w.heap.size + 1]? = some (.cells (bD ({ t with mode := m, errs := 0, bus := false, frm := false, loc := false, ovr := false } : Tv)).toArray 27 (0, 0)) by rw [ew3'.out]; exact aJ (bD ({ t with mode := m, errs := 0, bus := false, frm := false, loc := false, ovr := false } : Tv)) (xs := bD eX) R.out rfl)
  clear ew3' Tw3'
  go_wp2_with fail
  refine bodyPost_ret (aP (by rfl) _ w3' (w.heap.size + 1) 27 (bD (({ t with mode := m, errs := 0, bus := false, frm := false, loc := false, ovr := false } : Tv))).toArray (0, 0) _ (.int .i64 0) (by rfl) (by rfl) R.out Tryz.underlying27 (by rfl) (by kernel_rfl)) rfl ⟨rfl, Q.out⟩
set_option maxRecDepth 100000 in
set_option maxHeartbeats 16000000 in
theorem tvGo_ok (t : Tv) (m : Int) (w : World) (h : tvB t = true) (hm : mdB m = true) :
    Calls Tryz.prog 27 #[.agg (bD t).toArray, .int .i64 m] w fun e w' => e = .returned (.tuple #[.agg (bD (t.go m)).toArray, .int .i64 0]) ∧ Below w.heap.size w w' := by
  by_cases he : t.mode = m
  · have hg : t.go m = t := by unfold Tv.go; rw [if_pos (by simpa using he)]
    rw [hg]
    exact tvGo_same t m w h hm he
  · have hg : t.go m = { t with mode := m, errs := 0, bus := false, frm := false, loc := false, ovr := false } := by unfold Tv.go; rw [if_neg (by simpa using he)]
    rw [hg]
    exact tvGo_new t m w h hm he
set_option maxRecDepth 100000 in
set_option maxHeartbeats 16000000 in
theorem pnNew_ok (a b : Int) (w : World) (h : Pn.Rt (⟨a, 0, fun _ => 0, b⟩ : Pn)) :
    Calls Tryz.prog 29 #[.int .u16 a, .int .i64 b] w fun e w' => e = .returned (.tuple #[.agg (bO (⟨a, 0, fun _ => 0, b⟩ : Pn)).toArray, .int .i64 0]) ∧ Below w.heap.size w w' := by
  obtain ⟨w0, hw0⟩ : ∃ w0, w0 = w.alloc (.cells (bO fK).toArray 47) := ⟨_, rfl⟩
  have R := aA (World.alloc_heap_new w (.cells (bO fK).toArray 47))
  have Q : Hid (Below w.heap.size w w0) := by rw [hw0]; exact aA ((Below.refl w.heap.size w).alloc (Nat.le_refl _) (.cells (bO fK).toArray 47))
  rw [← hw0] at R
  have RT := aA (fun W => gG (⟨a, 0, fun _ => 0, b⟩ : Pn) W h)
  clear h
  go_enter Tryz.func29, Tryz.ntmps29
  go_upto_region 1 with fail
  change Code.wp _ _ _ _ (w.alloc (.cells (bO fK).toArray 47))
  rw [← hw0]
  clear hw0
  have B := World.alloc_heap_new w0 (.cells (bO fK).toArray 47)
  have zRx : w.heap.size < w0.heap.size := aH R.out
  have zQx : w.heap.size ≤ w0.heap.size := Q.out.size
  obtain ⟨w2', hw2'⟩ : ∃ wx, wx = w0.alloc (.cells (bO fK).toArray 47) := ⟨_, rfl⟩
  have q1' := aA (show Below w0.heap.size w0 w2' by rw [hw2']; exact (Below.refl _ _).alloc (Nat.le_refl _) _)
  rw [← hw2'] at B
  replace B := aA B
  have Tw3' := aA (show (w0.alloc (.cells (bO fK).toArray 47)).there w0.heap.size 0 19 by rw [← hw2']; exact aK (cs := bO fK) B.out)
  go_wp2_with (refine aF (by rfl) 47 (.tmp 6) (.tmp 9) (by rfl) w0.heap.size 0 (bO (⟨a, 0, fun _ => 0, b⟩ : Pn)) (by rfl) (by rfl) (by exact Tw3'.out) (by kernel_rfl) (by simp [Value.oneCell', bO]) ?_)
  intro w3' ew3'
  replace ew3' : Hid (w3' = w2'.setCells w0.heap.size 0 (bO (⟨a, 0, fun _ => 0, b⟩ : Pn))) := by rw [hw2']; exact ew3'
  replace B := aA (show w3'.heap[w0.heap.size]? = some (.cells (bO (⟨a, 0, fun _ => 0, b⟩ : Pn)).toArray 47 (0, 0)) by rw [ew3'.out]; exact aJ (bO (⟨a, 0, fun _ => 0, b⟩ : Pn)) (xs := bO fK) B.out rfl)
  replace q1' := aA (show Below w0.heap.size w0 w3' by rw [ew3'.out]; exact q1'.out.trans (aE _ _ _ (by omega)))
  clear ew3' Tw3' hw2'
  replace R := aA (aB R.out q1'.out)
  replace Q := aA (aC Q.out Q.out.size q1'.out)
  clear q1'
  generalize w0.heap.size = x at *
  go_wp2_with (refine wpList_load_row rfl 47 (.tmp 6) (by rfl) x (by rfl) 47 (bO (⟨a, 0, fun _ => 0, b⟩ : Pn)).toArray (0, 0) _ (by exact B.out) Tryz.underlying47 (by rfl) (by kernel_rfl) ?_)
  (with_reducible refine (RT.out w3').mono ?_)
  rintro ew4' w4' ⟨rfl, qw4'⟩
  replace R := aA (aB R.out qw4')
  replace B := aA (aB B.out qw4')
  replace Q := aA (aC Q.out Q.out.size qw4')
  clear qw4'
  clear RT
  have Tw5' := aA (show World.there _ w.heap.size 0 19 from aK (cs := bO fK) R.out)
  go_wp2_with (first | (refine wpList_load_row rfl 47 (.tmp 6) (by rfl) x (by rfl) 47 (bO (⟨a, 0, fun _ => 0, b⟩ : Pn)).toArray (0, 0) _ (by exact B.out) Tryz.underlying47 (by rfl) (by kernel_rfl) ?_) | (refine aF (by rfl) 47 (.tmp 4) (.tmp 14) (by rfl) w.heap.size 0 (bO (⟨a, 0, fun _ => 0, b⟩ : Pn)) (by rfl) (by rfl) (by exact Tw5'.out) (by kernel_rfl) (by simp [Value.oneCell', bO]) ?_))
  intro w5' ew5'
  replace B := aA (show w5'.heap[x]? = some (.cells (bO (⟨a, 0, fun _ => 0, b⟩ : Pn)).toArray 47 (0, 0)) by rw [ew5'.out]; exact aG (by omega) _ _ _ B.out)
  replace Q := aA (show Below w.heap.size w w5' by rw [ew5'.out]; exact Q.out.trans (aE _ _ _ (by have := Q.out.size; omega)))
  replace R := aA (show w5'.heap[w.heap.size]? = some (.cells (bO (⟨a, 0, fun _ => 0, b⟩ : Pn)).toArray 47 (0, 0)) by rw [ew5'.out]; exact aJ (bO (⟨a, 0, fun _ => 0, b⟩ : Pn)) (xs := bO fK) R.out rfl)
  clear ew5' Tw5'
  go_wp2_with fail
  refine bodyPost_ret (aP (by rfl) _ w5' (w.heap.size) 47 (bO (⟨a, 0, fun _ => 0, b⟩ : Pn)).toArray (0, 0) _ (.int .i64 0) (by rfl) (by rfl) R.out Tryz.underlying47 (by rfl) (by kernel_rfl)) rfl ⟨rfl, Q.out⟩
end Go.Proofs.YtkmddjbialpppaaGreatDoor
