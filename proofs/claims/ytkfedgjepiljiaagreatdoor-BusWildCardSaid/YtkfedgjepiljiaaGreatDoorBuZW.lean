/- The walk of campanilelaw08.BusWild. -/
import Derived.Test.YtkfedgjepiljiaaGreatDoorMgCsZG
import Derived.Test.YtkfedgjepiljiaaGreatDoorMgBuAW
namespace Go.Proofs.YtkfedgjepiljiaaGreatDoor
open Go.ChangeShapes Go.WideShapes Go.ChangeAt Go.RowKit
open FP (Fr)

def cutC (c : Cl) : Cl := { c with out := c.out.extract 0 (min c.out.size 300), got := c.got.extract 0 (min c.got.size 300), f := cut8 c.f }
def cutCK (l : List Cl) (k : Nat) : List Cl := (l.take k).map cutC ++ l.drop k
theorem cutCK_zero (l : List Cl) : cutCK l 0 = l := by simp [cutCK]
theorem cutCK_full (l : List Cl) : cutCK l l.length = l.map cutC := by simp [cutCK]
theorem cutCK_len (l : List Cl) (k : Nat) (h : k ≤ l.length) : (cutCK l k).length = l.length := by simp [cutCK]; omega
theorem cutCK_at (l : List Cl) (k : Nat) (h : k < l.length) : (cutCK l k)[k]? = some l[k] := by
  unfold cutCK
  rw [List.getElem?_append_right (by simp; omega)]
  simp only [List.length_map, List.length_take, List.getElem?_drop]
  rw [show k + (k - min k l.length) = k by omega, List.getElem?_eq_getElem h]
theorem cutCK_succ (l : List Cl) (k : Nat) (h : k < l.length) : cutCK l (k + 1) = (cutCK l k).set k (cutC l[k]) := by
  unfold cutCK
  rw [List.take_succ_eq_append_getElem h, List.map_append, List.set_append_right _ _ (by simp; omega)]
  simp only [List.length_map, List.length_take, List.map_cons, List.map_nil]
  rw [show k - min k l.length = 0 by omega, List.drop_eq_getElem_cons h, List.set_cons_zero, List.append_assoc]
  rfl
theorem cut_all (l : List Cl) (k : Nat) (h : k < l.length) (d : Bool) : (d && ((l.take (k + 1)).map cutC).all rightC) = ((d && ((l.take k).map cutC).all rightC) && rightC (cutC l[k])) := by
  rw [List.take_succ_eq_append_getElem h, List.map_append, List.all_append, Bool.and_assoc]
  simp
theorem raw_cut {l : List Cl} (h : ∀ c ∈ l, c.Raw) : RawAll (l.map cutC) := fun c hc => by
  obtain ⟨d, hd, rfl⟩ := List.mem_map.1 hc
  refine ⟨(h d hd).last, ?_, (h d hd).id⟩
  show (d.got.extract 0 (min d.got.size 300)).size ≤ 300
  rw [ByteArray.size_extract]
  omega
theorem cl_fr {W : World} {x : Nat} {c : Cl} {t : TypeId} {fz : Nat × Nat} (h : W.heap[x]? = some (.cells c.cs.toArray t fz)) : W.rangeAt x 9 (frc c.f) := fun j v hj => by
  have hr := range_heap h (9 + j) v
  rw [Nat.zero_add] at hr
  refine hr ?_
  have hj5 : j < 5 := (List.getElem?_eq_some_iff.1 hj).1
  obtain rfl | rfl | rfl | rfl | rfl : j = 0 ∨ j = 1 ∨ j = 2 ∨ j = 3 ∨ j = 4 := by omega
  all_goals exact hj
/-- A part of a row of the call's own is written. -/
theorem Own.setPart {W : World} {base e sz g c k : Nat} {R : List (List Value)} (h : Own W base e sz (some ⟨g, 0, none⟩) c R) (hs : ∀ r ∈ R, r.length = sz) {r : List Value} (hk : R[k]? = some r) (j : Nat) (vs : List Value) (hj : j + vs.length ≤ sz) :
    Own (W.setCells g (k * sz + j) vs) base e sz (some ⟨g, 0, none⟩) c (R.set k (setL r j vs)) := by
  obtain ⟨h1, h2⟩ := ownsRow_setCells vs (k * sz + j) W _ h
  rw [flatten_setL (k := k) vs R r j hs hk hj] at h1
  unfold Own
  rw [List.length_set]
  exact h1
theorem own_cl {W : World} {base g cc k : Nat} {L : List Cl} {c d : Cl} (h : Own W base 33 23 (some ⟨g, 0, none⟩) cc (clRows L)) (hk : L[k]? = some c) (j : Nat) (vs : List Value) (hj : j + vs.length ≤ 23) (hd : setL c.cs j vs = d.cs) :
    Own (W.setCells g (k * 23 + j) vs) base 33 23 (some ⟨g, 0, none⟩) cc (clRows (L.set k d)) := by
  have := Own.setPart h (cl_rows _) (k := k) (r := c.cs) (by unfold clRows; rw [List.getElem?_map, hk]; rfl) j vs hj
  rw [hd] at this
  unfold clRows at this ⊢
  rwa [List.map_set]
theorem own_cell {W : World} {base g cc k : Nat} {L : List Cl} {c : Cl} (h : Own W base 33 23 (some ⟨g, 0, none⟩) cc (clRows L)) (hk : L[k]? = some c) (j : Nat) (v : Value) (hv : c.cs[j]? = some v) : W.cell? ⟨g, k * 23 + j, none⟩ = some v ∧ W.frozen? ⟨g, k * 23 + j, none⟩ = false :=
  ⟨own_at h (cl_rows _) (k := k) (row := c.cs) (by unfold clRows; rw [List.getElem?_map, hk]; rfl) hv, World.ownsRow.frozenAt h (k * 23 + j)⟩
theorem own_clr {W : World} {base g cc k : Nat} {L : List Cl} {c : Cl} (h : Own W base 33 23 (some ⟨g, 0, none⟩) cc (clRows L)) (hk : L[k]? = some c) : W.rangeAt g (k * 23) c.cs := fun j v hv =>
  own_at h (cl_rows _) (k := k) (row := c.cs) (by unfold clRows; rw [List.getElem?_map, hk]; rfl) hv
theorem fr_there {W : World} {base g cc k : Nat} {L : List Cl} {c : Cl} (h : Own W base 33 23 (some ⟨g, 0, none⟩) cc (clRows L)) (hk : L[k]? = some c) : W.there g (k * 23 + 9) 5 := fun j hj => by
  have h2 := h.there (cl_rows _) (k := k) (by rw [clRows_len]; exact (List.getElem?_eq_some_iff.1 hk).1) (9 + j) (by omega)
  rwa [← Nat.add_assoc] at h2
/-- What Submit answers. -/
def SubX (L : List Cl) (at_ : Int) (L' : List Cl) (now' E : Int) : Prop :=
  (at_ < 0 ∧ E = 1) ∨ (¬ at_ < 0 ∧ (L.length : Int) ≤ at_ ∧ E = 1) ∨ (∃ k : Nat, at_ = k ∧ k < L.length ∧ (((L.getD k zCl).has = true ∧ E = 20) ∨ ((L.getD k zCl).has = false ∧ E = 0 ∧ AllOk L' ∧ 1 ≤ L'.length ∧ L'.length ≤ 4 ∧ 0 ≤ now' ∧ now' ≤ 1099511627776)))
theorem busSubmit_x (L : List Cl) (A : Option Addr) (c : Nat) (now : Int) (at_ : Int) (w : World) (hr : ClR w w.heap.size A L) (hl : L.length ≤ 1000000) (hraw : RawAll L) (h : busMay rightC L now = true) :
    Calls Tryz.prog 6 #[.agg (busL A L.length c now).toArray, .int .i64 at_, .agg (frc fr5).toArray] w fun e w' => ∃ A' c' now' L' E, e = .returned (.tuple #[.agg (busL A' L'.length c' now').toArray, .int .i64 E]) ∧ ClR w' w'.heap.size A' L' ∧ SubX L at_ L' now' E ∧ Below w.heap.size w w' := by
  obtain ⟨⟨h1, h4, hn0, hn1⟩, hok⟩ := busMay_ok hraw h
  by_cases ha : at_ < 0
  · refine (busSubmit_no L A c now at_ fr5 w hr hl hraw (.inr (.inl ha))).mono ?_
    rintro e w' ⟨rfl, q⟩
    exact ⟨none, 0, 0, [], 1, rfl, Rd.nil, .inl ⟨ha, rfl⟩, q⟩
  · by_cases hb : (L.length : Int) ≤ at_
    · refine (busSubmit_no L A c now at_ fr5 w hr hl hraw (.inr (.inr hb))).mono ?_
      rintro e w' ⟨rfl, q⟩
      exact ⟨none, 0, 0, [], 1, rfl, Rd.nil, .inr (.inl ⟨ha, hb, rfl⟩), q⟩
    · obtain ⟨k, rfl⟩ : ∃ k : Nat, at_ = k := ⟨at_.toNat, by omega⟩
      have hk : k < L.length := by omega
      refine (busSubmit_all L A c now k fr5 w hr hk h4 hn0 hn1 hok (by decide)).mono ?_
      rintro e w' ⟨A', c', now', rfl, h2, h3, h5, q⟩
      refine ⟨A', c', now', _, _, rfl, h2, .inr (.inr ⟨k, rfl, hk, ?_⟩), q⟩
      have hR : FP.rightB fr5 = true := rfl
      have hE : (L.getD k zCl).subE fr5 = if (L.getD k zCl).has = true then 20 else 0 := by unfold Cl.subE; rw [if_neg (by rw [hR]; decide)]
      cases hh : (L.getD k zCl).has
      · rw [hh, if_neg (by decide)] at hE
        have e1 : subR L k fr5 = subL L k fr5 := if_pos hE
        have e2 : (subL L k fr5).length = L.length := by unfold subL; rw [List.length_set]
        refine .inr ⟨rfl, hE, ?_, ?_, ?_, ?_, ?_⟩
        · rw [e1]; exact subL_ok hok hk hE
        · rw [e1, e2]; exact h1
        · rw [e1, e2]; exact h4
        · rw [h5 hE]; exact hn0
        · rw [h5 hE]; exact hn1
      · rw [hh, if_pos rfl] at hE
        exact .inl ⟨rfl, hE⟩
theorem busStep_x (L : List Cl) (A : Option Addr) (c : Nat) (now : Int) (w : World) (hr : ClR w w.heap.size A L) (hl : L.length ≤ 1000000) (hraw : RawAll L) (h : busMay rightC L now = true) :
    Calls Tryz.prog 8 #[.agg (busL A L.length c now).toArray, .slice none 0 0] w fun e w' => ∃ A' n' c' now' E n ec g, e = .returned (.tuple #[.agg (busL A' n' c' now').toArray, .slice E n ec, .int .i64 g]) ∧ ((g = 0 ∧ now < 1099511627776) ∨ (g = 1 ∧ ¬ now < 1099511627776)) ∧ Below w.heap.size w w' := by
  by_cases hn : now < 1099511627776
  · refine (busStep_yes L A c now w hr hl hraw h hn).mono ?_
    rintro e w' ⟨A', c', E, n, ec, rfl, q⟩
    exact ⟨A', _, c', _, E, n, ec, 0, rfl, .inl ⟨rfl, hn⟩, q⟩
  · refine (busStep_no L A c now w hr hl hraw (.inr (by omega))).mono ?_
    rintro e w' ⟨rfl, q⟩
    exact ⟨none, 0, 0, 0, none, 0, 0, 1, rfl, .inr ⟨rfl, hn⟩, q⟩
theorem busRun_x (L : List Cl) (A : Option Addr) (c : Nat) (now : Int) (w : World) (hr : ClR w w.heap.size A L) (hl : L.length ≤ 1000000) (hraw : RawAll L) (h : busMay rightC L now = true) :
    Calls Tryz.prog 9 #[.agg (busL A L.length c now).toArray, .int .i64 3] w fun e w' => ∃ A' n' c' now' E n ec g, e = .returned (.tuple #[.agg (busL A' n' c' now').toArray, .slice E n ec, .int .i64 g]) ∧ ((g = 0 ∧ now ≤ 1099511627773) ∨ (g = 1 ∧ ¬ now ≤ 1099511627773)) ∧ Below w.heap.size w w' := by
  obtain ⟨⟨h1, h4, hn0, hn1⟩, hok⟩ := busMay_ok hraw h
  by_cases hn : now ≤ 1099511627773
  · refine (busRun_ok L A c now 3 w hr h1 h4 hn0 (by omega) (by omega) hok).mono ?_
    rintro e w' ⟨A', c', E, ec, rfl, _, _, _, q⟩
    exact ⟨A', _, c', _, E, _, ec, 0, rfl, .inl ⟨rfl, hn⟩, q⟩
  · refine (busRun_no L A c now w hr hl hraw (.inr (by omega))).mono ?_
    rintro e w' ⟨rfl, q⟩
    exact ⟨none, 0, 0, 0, none, 0, 0, 1, rfl, .inr ⟨rfl, hn⟩, q⟩

set_option maxRecDepth 100000 in
set_option maxHeartbeats 64000000 in
theorem busWild_walk (l0 : List Cl) (A : Option Addr) (c : Nat) (now at_ : Int) (w : World) (hr0 : ClR w w.heap.size A l0) (hc0 : l0.length ≤ c) (hraw0 : ∀ c ∈ l0, c.Raw) :
    Calls Tryz.prog 3 #[.agg (busL A l0.length c now).toArray, .int .i64 at_] w fun e w' => e = .returned (.bool true) ∧ Below w.heap.size w w' := by
  obtain ⟨w0, hw0⟩ : ∃ w0, w0 = w.alloc (.cells (busL A l0.length c now).toArray 24) := ⟨_, rfl⟩
  have B := hide (World.alloc_heap_new w (.cells (busL A l0.length c now).toArray 24))
  have Q : Hid (Below w.heap.size w w0) := by rw [hw0]; exact hide ((Below.refl w.heap.size w).alloc (Nat.le_refl _) (.cells (busL A l0.length c now).toArray 24))
  rw [← hw0] at B
  obtain ⟨l, hl⟩ : ∃ l, l = l0.take 6 := ⟨_, rfl⟩
  have hlen : l.length = min l0.length 6 := by rw [hl, List.length_take]; omega
  have hr : ClR w w.heap.size A l := by rw [hl]; unfold ClR; rw [List.map_take]; exact Rd.take hr0 6
  have RAW := hide (show ∀ c ∈ l, c.Raw from fun d hd => hraw0 d (by rw [hl] at hd; exact List.mem_of_mem_take hd))
  obtain ⟨m, em, hm⟩ := run_min (P := Tryz.prog) (l0.length : Int) 6
  have em' : m = (l.length : Int) := by rw [em, hlen]; omega
  have hrun := run_to (P := Tryz.prog) 22 33 Tryz.underlying22 23 (fun W => by kernel_rfl) A l0.length c m l.length em' (by omega)
  subst em'
  have hl6 : l.length ≤ 6 := by omega
  clear hl hlen hr0 hraw0 em
  have HR := hide hr
  have AL := hide (fun W => alive08_any W)
  have S1 := hide (show (([] : List (List Value)).length + (clRows l).length) * 176 ≤ 140737488355328 by rw [clRows_len]; simp; omega)
  have S2 := hide (show ([] : List (List Value)).length + (clRows l).length ≤ maxLen by rw [clRows_len]; simp [maxLen]; omega)
  have S3 := hide (show l.length = (clRows l).length by rw [clRows_len])
  clear hr
  go_enter Tryz.func3, Tryz.ntmps3
  go_upto_region 1 with fail
  change Code.wp _ _ _ _ (w.alloc (.cells (busL A l0.length c now).toArray 24))
  rw [← hw0]
  clear hw0
  have q5 : Below w0.heap.size w0 (w0.alloc (.cells #[] 33)) := (Below.refl _ _).alloc (Nat.le_refl _) _
  have O5 := hide (Own.lit w0 w0.heap.size 33 23 [] (Nat.le_refl _) (by simp) (by simp))
  have RD5 := hide (show Rd _ _ A 23 (clRows l) from Rd.more (Rd.below (HR.out.next Q.out Q.out.size) q5) q5.size)
  have B5 := hide (heap_below B.out q5)
  have E4 := hide (show w0.heap.size ≤ (w0.alloc (.cells #[] 33)).heap.size by simp)
  have zN : w.heap.size < w0.heap.size := heap_lt B.out
  have Q5 := hide (below_next Q.out Q.out.size q5)
  obtain ⟨b0, b1⟩ := bus_cells B5.out
  go_wp2_with (at_builtin; refine wpList_append_rows _ rfl _ _ 22 rfl slCl w0.heap.size _ _ _ [] (by rfl) (by exact O5.out) _ _ _ (clRows l) (by rfl) (by exact RD5.out) (by exact cl_rows l) (by exact cl_ones l) (by exact S1.out) (by exact S2.out) (by exact E4.out) (by rfl) (by exact S3.out) ?_)
  intro A6 c6 w6 o6 g6
  have O6 := hide (show Own w6 w0.heap.size 33 23 A6 c6 (clRows (cutCK l 0)) by rw [cutCK_zero]; exact o6)
  have B6 := hide (heap_grownB B5.out g6 (own_not O5.out zN))
  have Q6 := hide (below_append Q5.out g6 O5.out (by omega) Q5.out.size)
  clear o6 g6 O5 RD5 B5 E4 Q5 B Q b0 b1 q5 HR hrun hm S1 S2 S3 hc0
  generalize w0.heap.size = N at *
  obtain ⟨y0, y1, y2, y3⟩ := two_boxM (show w6.heap[w.heap.size]? = some (.cells #[.slice A l0.length c, .int .i64 now] 24 (0, 0)) from B6.out)
  go_upto_region 2 with fail
  clear y0 y1 y2 y3
  obtain ⟨w9, e9⟩ : ∃ w9, w9 = w6.setCell ⟨w.heap.size, 0, none⟩ (.slice A6 l.length c6) := ⟨_, rfl⟩
  rw [← e9]
  replace e9 : Hid (w9 = w6.setCells w.heap.size 0 [.slice A6 l.length c6]) := e9
  have B := hide (show w9.heap[w.heap.size]? = some (.cells (busL A6 l.length c6 now).toArray 24 (0, 0)) by rw [e9.out]; exact heap_setCell_same w6 w.heap.size 0 _ _ _ B6.out)
  have OW := hide (show Own w9 N 33 23 A6 c6 (clRows (cutCK l 0)) by rw [e9.out]; exact own_setCells zN _ _ _ O6.out)
  have Q := hide (show Below w.heap.size w w9 by rw [e9.out]; exact Q6.out.trans (below_setCells _ _ _ (by omega)))
  clear e9 B6 O6 Q6
  obtain ⟨d, hd⟩ : ∃ d, d = decide (1 ≤ l.length ∧ l.length ≤ 4 ∧ 0 ≤ now ∧ now ≤ 1099511627776) := ⟨_, rfl⟩
  have HD := hide hd
  clear hd
  go_cut [5] (fun v5 W => v5 = .bool d ∧ Hid (Own W N 33 23 A6 c6 (clRows (cutCK l 0))) ∧ Hid (W.heap[w.heap.size]? = some (.cells (busL A6 l.length c6 now).toArray 24 (0, 0))) ∧ Hid (Below w.heap.size w W))
  case first =>
    obtain ⟨b0, b1⟩ := bus_cells B.out
    by_cases h1 : 1 ≤ l.length ∧ l.length ≤ 4 ∧ 0 ≤ now ∧ now ≤ 1099511627776
    · have E := hide (show d = true by rw [HD.out]; exact decide_eq_true h1)
      obtain ⟨h11, h12, h13, h14⟩ := h1
      have h15 : (1 : Int) ≤ (l.length : Int) := by omega
      have h16 : (l.length : Int) ≤ 4 := by omega
      clear HD
      go_wp2_with fail
      go_meet
      exact ⟨by rw [E.out], OW, B, Q⟩
    · have E := hide (show d = false by rw [HD.out]; exact decide_eq_false h1)
      have hn : ¬ (1 : Int) ≤ (l.length : Int) ∨ (1 : Int) ≤ (l.length : Int) ∧ ¬ (l.length : Int) ≤ 4 ∨ (1 : Int) ≤ (l.length : Int) ∧ (l.length : Int) ≤ 4 ∧ ¬ 0 ≤ now ∨ (1 : Int) ≤ (l.length : Int) ∧ (l.length : Int) ≤ 4 ∧ 0 ≤ now ∧ ¬ now ≤ 1099511627776 := by omega
      clear HD h1
      rcases hn with h2 | ⟨h2, h3⟩ | ⟨h2, h3, h4⟩ | ⟨h2, h3, h4, h5⟩
      all_goals
        go_wp2_with fail
        go_meet
        exact ⟨by rw [E.out], OW, B, Q⟩
  case rest =>
  clear OW B Q
  obtain ⟨rfl, OW, B, Q⟩ := hcut
  obtain ⟨b0, b1⟩ := bus_cells B.out
  go_wp2_with fail
  clear b0 b1
  go_loopw [52, 5] (fun vi v5 W => ∃ (k : Nat) (r : Bool), k ≤ l.length ∧ vi = .int .i64 k ∧ v5 = .bool r ∧ Hid (r = (d && ((l.take k).map cutC).all rightC)) ∧ Hid (Own W N 33 23 A6 c6 (clRows (cutCK l k))) ∧ Hid (W.heap[w.heap.size]? = some (.cells (busL A6 l.length c6 now).toArray 24 (0, 0))) ∧ Hid (Below w.heap.size w W)) (fun vi _ _ => l.length - (intOf vi).toNat)
  case atStart => exact ⟨0, d, Nat.zero_le _, rfl, rfl, hide (by simp), OW, B, Q⟩
  case round =>
    clear OW B Q
    obtain ⟨k, r, hk, rfl, rfl, HRR, OW, B, Q⟩ := hrel
    by_cases hlt : k < l.length
    · have hki : (k : Int) < (l.length : Int) := by omega
      have hk0 : ¬ (k : Int) < 0 := by omega
      obtain ⟨g, hA6, hg1, hg2⟩ := OW.out.ofLen (by rw [clRows_len, cutCK_len l k hk]; omega)
      subst hA6
      have HAT := hide (cutCK_at l k hlt)
      have HSU := hide (cutCK_succ l k hlt)
      have HCA := hide (cut_all l k hlt d)
      have RW := RAW.out l[k] (List.getElem_mem hlt)
      have hgot : (cutC l[k]).got.size ≤ 300 := by
        show (l[k].got.extract 0 (min l[k].got.size 300)).size ≤ 300
        rw [ByteArray.size_extract]
        omega
      have RC := hide (fun W => ctlRight_any (cutC l[k]) W RW.last hgot RW.id)
      have FW := hide (fun W => few08_any l[k].f W RW.fs)
      have hso : l[k].out.size ≤ 9223372036854775807 := by have := RW.os; unfold maxLen at this; omega
      have hsg : l[k].got.size ≤ 9223372036854775807 := by have := RW.gs; unfold maxLen at this; omega
      obtain ⟨r2, hr2⟩ : ∃ r2, r2 = rightC (cutC l[k]) := ⟨_, rfl⟩
      rw [← hr2] at HCA RC
      rw [← HRR.out] at HCA
      obtain ⟨z, hz⟩ : ∃ z, z = cutC l[k] := ⟨_, rfl⟩
      have HZ := hide hz
      rw [← hz] at HSU RC
      clear RW hgot hr2 hz
      obtain ⟨L2, hL2⟩ : ∃ L2, L2 = cutCK l (k + 1) := ⟨_, rfl⟩
      rw [← hL2] at HSU
      have HL2 := hide hL2
      clear hL2
      generalize cutCK l k = L at *
      generalize l[k] = c0 at *
      have HKL := hide (List.getElem?_eq_some_iff.1 HAT.out).1
      have PA := hide (own_clr OW.out HAT.out)
      have hgN : w.heap.size < g := by omega
      have X := World.alloc_heap_new wr (.cells zCl.cs.toArray 33)
      have zBx7 : w.heap.size < wr.heap.size := heap_lt B.out
      have zQx7 : w.heap.size ≤ wr.heap.size := Q.out.size
      obtain ⟨w2', hw2'⟩ : ∃ wx, wx = wr.alloc (.cells zCl.cs.toArray 33) := ⟨_, rfl⟩
      have q1' := hide (show Below wr.heap.size wr w2' by rw [hw2']; exact (Below.refl _ _).alloc (Nat.le_refl _) _)
      rw [← hw2'] at X
      replace X := hide X
      have Tw3' := hide (show (wr.alloc (.cells zCl.cs.toArray 33)).there wr.heap.size 0 23 by rw [← hw2']; exact there_heap (cs := zCl.cs) X.out)
      go_wp2_with (first | (refine wpList_load_mid rfl 33 (.tmp 55) (by rfl) g (k * 23) (by rfl) c0.cs _ (by exact PA.out) Tryz.underlying33 (by rfl) (by kernel_rfl) ?_) | (refine wpList_store_hid (by rfl) 33 (.tmp 7) (.tmp 56) (by rfl) wr.heap.size 0 c0.cs (by rfl) (by rfl) (by exact Tw3'.out) (by kernel_rfl) (by simp [Value.oneCell', Cl.cs]) ?_))
      intro w3' ew3'
      replace ew3' : Hid (w3' = w2'.setCells wr.heap.size 0 c0.cs) := by rw [hw2']; exact ew3'
      replace X := hide (show w3'.heap[wr.heap.size]? = some (.cells c0.cs.toArray 33 (0, 0)) by rw [ew3'.out]; exact whole_heap c0.cs (xs := zCl.cs) X.out rfl)
      replace q1' := hide (show Below wr.heap.size wr w3' by rw [ew3'.out]; exact q1'.out.trans (below_setCells _ _ _ (by omega)))
      clear ew3' Tw3' hw2'
      replace B := hide (heap_below B.out q1'.out)
      replace OW := hide (OW.out.grown q1'.out)
      replace Q := hide (below_next Q.out Q.out.size q1'.out)
      clear q1'
      generalize wr.heap.size = x7 at *
      clear PA
      obtain ⟨m1, em1, hm1⟩ := run_min (P := Tryz.prog) (c0.out.size : Int) 300
      obtain ⟨k1, hk1⟩ : ∃ k1 : Nat, k1 = min c0.out.size 300 := ⟨_, rfl⟩
      have hmk1 : m1 = k1 := by omega
      subst hmk1
      have hkl1 : k1 ≤ c0.out.size := by omega
      obtain ⟨m2, em2, hm2⟩ := run_min (P := Tryz.prog) (c0.got.size : Int) 300
      obtain ⟨k2, hk2⟩ : ∃ k2 : Nat, k2 = min c0.got.size 300 := ⟨_, rfl⟩
      have hmk2 : m2 = k2 := by omega
      subst hmk2
      have hkl2 : k2 ≤ c0.got.size := by omega
      have HZ2 := hide (show z = { c0 with out := c0.out.extract 0 k1, got := c0.got.extract 0 k2, f := cut8 c0.f } by rw [HZ.out, hk1, hk2]; rfl)
      clear em1 em2 hk1 hk2 HZ
      go_upto_region 6 with fail
      refine wp_region_L [0, 1, 2, 3, 4, 5, 6, 7, 8, 9, 10, 11, 12, 13, 14, 15, 16, 17, 18, 19, 20, 21, 22, 23, 24, 26, 27, 29, 30, 32, 33] [(1, fun W => W.heap[w.heap.size]? = some (.cells (busL (some ⟨g, 0, none⟩) l.length c6 now).toArray 24 (0, 0))), (4, fun W => W.heap[w.heap.size]? = some (.cells (busL (some ⟨g, 0, none⟩) l.length c6 now).toArray 24 (0, 0))), (7, fun W => W.heap[w.heap.size]? = some (.cells (busL (some ⟨g, 0, none⟩) l.length c6 now).toArray 24 (0, 0))), (10, fun W => W.heap[x7]? = some (.cells c0.cs.toArray 33 (0, 0))), (12, fun W => W.heap[x7]? = some (.cells c0.cs.toArray 33 (0, 0))), (17, fun W => W.heap[x7]? = some (.cells c0.cs.toArray 33 (0, 0))), (19, fun W => W.heap[x7]? = some (.cells c0.cs.toArray 33 (0, 0))), (24, fun W => W.heap[x7]? = some (.cells c0.cs.toArray 33 (0, 0)))] (by kernel_rfl) ?_
      replace OW := hide (show Own w3'.drew N 33 23 (some ⟨g, 0, none⟩) c6 (clRows L) from OW.out.drew)
      replace B := hide (show w3'.drew.heap[w.heap.size]? = some (.cells (busL (some ⟨g, 0, none⟩) l.length c6 now).toArray 24 (0, 0)) from B.out)
      replace X := hide (show w3'.drew.heap[x7]? = some (.cells c0.cs.toArray 33 (0, 0)) from X.out)
      replace Q := hide (show Below w.heap.size w w3'.drew from Q.out.drew)
      generalize w3'.drew = w4' at *
      refine wpAnyL_pure (i := 0) (v := .pointer (some ⟨w.heap.size, 0, none⟩)) rfl rfl (by kernel_rfl) (by kernel_rfl) (by kernel_rfl) (by kernel_rfl) (by kernel_rfl) (fun _ _ _ h => h) rfl (fun W => by go_simp) ?_
      go_simp
      refine wpAnyL_load (i := 1) (v := .slice (some ⟨g, 0, none⟩) l.length c6) rfl rfl (by kernel_rfl) (by kernel_rfl) (by kernel_rfl) (by kernel_rfl) (by kernel_rfl) (fun _ _ _ h => h) rfl (fun W h => by have h0 : W.cell? ⟨w.heap.size, 0, none⟩ = some (.slice (some ⟨g, 0, none⟩) l.length c6) := (by simp [World.cell?, h, busL]); clear h; go_simp) (B.out) ?_
      go_simp
      refine wpAnyL_pure (i := 2) (v := .int .i64 k) rfl rfl (by kernel_rfl) (by kernel_rfl) (by kernel_rfl) (by kernel_rfl) (by kernel_rfl) (fun _ _ _ h => h) rfl (fun W => by go_simp) ?_
      go_simp
      refine wpAnyL_pure (i := 3) (v := .pointer (some ⟨w.heap.size, 0, none⟩)) rfl rfl (by kernel_rfl) (by kernel_rfl) (by kernel_rfl) (by kernel_rfl) (by kernel_rfl) (fun _ _ _ h => h) rfl (fun W => by go_simp) ?_
      go_simp
      refine wpAnyL_load (i := 4) (v := .slice (some ⟨g, 0, none⟩) l.length c6) rfl rfl (by kernel_rfl) (by kernel_rfl) (by kernel_rfl) (by kernel_rfl) (by kernel_rfl) (fun _ _ _ h => h) rfl (fun W h => by have h0 : W.cell? ⟨w.heap.size, 0, none⟩ = some (.slice (some ⟨g, 0, none⟩) l.length c6) := (by simp [World.cell?, h, busL]); clear h; go_simp) (B.out) ?_
      go_simp
      refine wpAnyL_pure (i := 5) (v := .int .i64 k) rfl rfl (by kernel_rfl) (by kernel_rfl) (by kernel_rfl) (by kernel_rfl) (by kernel_rfl) (fun _ _ _ h => h) rfl (fun W => by go_simp) ?_
      go_simp
      refine wpAnyL_pure (i := 6) (v := .pointer (some ⟨w.heap.size, 0, none⟩)) rfl rfl (by kernel_rfl) (by kernel_rfl) (by kernel_rfl) (by kernel_rfl) (by kernel_rfl) (fun _ _ _ h => h) rfl (fun W => by go_simp) ?_
      go_simp
      refine wpAnyL_load (i := 7) (v := .slice (some ⟨g, 0, none⟩) l.length c6) rfl rfl (by kernel_rfl) (by kernel_rfl) (by kernel_rfl) (by kernel_rfl) (by kernel_rfl) (fun _ _ _ h => h) rfl (fun W h => by have h0 : W.cell? ⟨w.heap.size, 0, none⟩ = some (.slice (some ⟨g, 0, none⟩) l.length c6) := (by simp [World.cell?, h, busL]); clear h; go_simp) (B.out) ?_
      go_simp
      refine wpAnyL_pure (i := 8) (v := .int .i64 k) rfl rfl (by kernel_rfl) (by kernel_rfl) (by kernel_rfl) (by kernel_rfl) (by kernel_rfl) (fun _ _ _ h => h) rfl (fun W => by go_simp) ?_
      go_simp
      refine wpAnyL_pure (i := 9) (v := .pointer (some ⟨x7, 15, none⟩)) rfl rfl (by kernel_rfl) (by kernel_rfl) (by kernel_rfl) (by kernel_rfl) (by kernel_rfl) (fun _ _ _ h => h) rfl (fun W => by go_simp) ?_
      go_simp
      refine wpAnyL_load (i := 10) (v := .string c0.out) rfl rfl (by kernel_rfl) (by kernel_rfl) (by kernel_rfl) (by kernel_rfl) (by kernel_rfl) (fun _ _ _ h => h) rfl (fun W h => by have h0 : W.cell? ⟨x7, 15, none⟩ = some (.string c0.out) := (by simp [World.cell?, h, Cl.cs]); clear h; go_simp) (X.out) ?_
      go_simp
      refine wpAnyL_pure (i := 11) (v := .pointer (some ⟨x7, 15, none⟩)) rfl rfl (by kernel_rfl) (by kernel_rfl) (by kernel_rfl) (by kernel_rfl) (by kernel_rfl) (fun _ _ _ h => h) rfl (fun W => by go_simp) ?_
      go_simp
      refine wpAnyL_load (i := 12) (v := .string c0.out) rfl rfl (by kernel_rfl) (by kernel_rfl) (by kernel_rfl) (by kernel_rfl) (by kernel_rfl) (fun _ _ _ h => h) rfl (fun W h => by have h0 : W.cell? ⟨x7, 15, none⟩ = some (.string c0.out) := (by simp [World.cell?, h, Cl.cs]); clear h; go_simp) (X.out) ?_
      go_simp
      refine wpAnyL_pure (i := 13) (v := .int .i64 c0.out.size) rfl rfl (by kernel_rfl) (by kernel_rfl) (by kernel_rfl) (by kernel_rfl) (by kernel_rfl) (fun _ _ _ h => h) rfl (fun W => by go_simp) ?_
      go_simp
      refine wpAnyL_pure (i := 14) (v := .int .i64 k1) rfl rfl (by kernel_rfl) (by kernel_rfl) (by kernel_rfl) (by kernel_rfl) (by kernel_rfl) (fun _ _ _ h => h) rfl (fun W => by go_simp) ?_
      go_simp
      refine wpAnyL_pure (i := 15) (v := .string (c0.out.extract 0 k1)) rfl rfl (by kernel_rfl) (by kernel_rfl) (by kernel_rfl) (by kernel_rfl) (by kernel_rfl) (fun _ _ _ h => h) rfl (fun W => by go_simp) ?_
      go_simp
      refine wpAnyL_pure (i := 16) (v := .pointer (some ⟨x7, 19, none⟩)) rfl rfl (by kernel_rfl) (by kernel_rfl) (by kernel_rfl) (by kernel_rfl) (by kernel_rfl) (fun _ _ _ h => h) rfl (fun W => by go_simp) ?_
      go_simp
      refine wpAnyL_load (i := 17) (v := .string c0.got) rfl rfl (by kernel_rfl) (by kernel_rfl) (by kernel_rfl) (by kernel_rfl) (by kernel_rfl) (fun _ _ _ h => h) rfl (fun W h => by have h0 : W.cell? ⟨x7, 19, none⟩ = some (.string c0.got) := (by simp [World.cell?, h, Cl.cs]); clear h; go_simp) (X.out) ?_
      go_simp
      refine wpAnyL_pure (i := 18) (v := .pointer (some ⟨x7, 19, none⟩)) rfl rfl (by kernel_rfl) (by kernel_rfl) (by kernel_rfl) (by kernel_rfl) (by kernel_rfl) (fun _ _ _ h => h) rfl (fun W => by go_simp) ?_
      go_simp
      refine wpAnyL_load (i := 19) (v := .string c0.got) rfl rfl (by kernel_rfl) (by kernel_rfl) (by kernel_rfl) (by kernel_rfl) (by kernel_rfl) (fun _ _ _ h => h) rfl (fun W h => by have h0 : W.cell? ⟨x7, 19, none⟩ = some (.string c0.got) := (by simp [World.cell?, h, Cl.cs]); clear h; go_simp) (X.out) ?_
      go_simp
      refine wpAnyL_pure (i := 20) (v := .int .i64 c0.got.size) rfl rfl (by kernel_rfl) (by kernel_rfl) (by kernel_rfl) (by kernel_rfl) (by kernel_rfl) (fun _ _ _ h => h) rfl (fun W => by go_simp) ?_
      go_simp
      refine wpAnyL_pure (i := 21) (v := .int .i64 k2) rfl rfl (by kernel_rfl) (by kernel_rfl) (by kernel_rfl) (by kernel_rfl) (by kernel_rfl) (fun _ _ _ h => h) rfl (fun W => by go_simp) ?_
      go_simp
      refine wpAnyL_pure (i := 22) (v := .string (c0.got.extract 0 k2)) rfl rfl (by kernel_rfl) (by kernel_rfl) (by kernel_rfl) (by kernel_rfl) (by kernel_rfl) (fun _ _ _ h => h) rfl (fun W => by go_simp) ?_
      go_simp
      refine wpAnyL_pure (i := 23) (v := .pointer (some ⟨x7, 9, none⟩)) rfl rfl (by kernel_rfl) (by kernel_rfl) (by kernel_rfl) (by kernel_rfl) (by kernel_rfl) (fun _ _ _ h => h) rfl (fun W => by go_simp) ?_
      go_simp
      refine wpAnyL_load (i := 24) (v := .agg (frc c0.f).toArray) rfl rfl (by kernel_rfl) (by kernel_rfl) (by kernel_rfl) (by kernel_rfl) (by kernel_rfl) (fun _ _ _ h => h) rfl (fun W h => exec_load W x7 9 29 (frc c0.f) _ (cl_fr h) Tryz.underlying29 rfl (by kernel_rfl) _ _ (.tmp 80) (by rfl) (by rfl)) (X.out) ?_
      go_simp
      clear hm1 hm2 hkl1 hkl2 hso hsg
      refine wpAnyL_one (i := 25) (by kernel_rfl) ?_
      refine wpOp_do rfl rfl ?_
      go_simp
      (with_reducible refine (FW.out _).mono ?_)
      rintro ew5' w5' ⟨rfl, qw5'⟩
      replace B := hide (heap_below B.out qw5')
      replace X := hide (heap_below X.out qw5')
      replace OW := hide (OW.out.grown qw5')
      replace Q := hide (below_next Q.out Q.out.size qw5')
      clear qw5'
      clear FW
      go_simp
      refine ⟨keepsL_mk (by kernel_rfl) (.cons B.out (.cons B.out (.cons B.out (.cons X.out (.cons X.out (.cons X.out (.cons X.out (.cons X.out (.nil))))))))), ?_⟩
      go_simp
      refine wpAnyL_pure (i := 26) (v := .pointer (some ⟨g, k * 23, none⟩)) rfl rfl (by kernel_rfl) (by kernel_rfl) (by kernel_rfl) (by kernel_rfl) (by kernel_rfl) (fun _ _ _ h => h) rfl (fun W => by go_simp) ?_
      go_simp
      refine wpAnyL_pure (i := 27) (v := .pointer (some ⟨g, k * 23 + 15, none⟩)) rfl rfl (by kernel_rfl) (by kernel_rfl) (by kernel_rfl) (by kernel_rfl) (by kernel_rfl) (fun _ _ _ h => h) rfl (fun W => by go_simp) ?_
      go_simp
      obtain ⟨y0, y1⟩ := own_cell OW.out HAT.out 15 (.string c0.out) rfl
      refine wpAnyL_one (i := 28) (by kernel_rfl) ?_
      refine wpOp_do rfl rfl ?_
      go_simp
      clear y0 y1
      obtain ⟨w6', ew6'⟩ : ∃ wx, wx = w5'.setCell ⟨g, k * 23 + 15, none⟩ (.string (c0.out.extract 0 k1)) := ⟨_, rfl⟩
      rw [← ew6']
      replace ew6' : Hid (w6' = w5'.setCells g (k * 23 + 15) [.string (c0.out.extract 0 k1)]) := ew6'
      replace OW := hide (show Own w6' N 33 23 (some ⟨g, 0, none⟩) c6 (clRows (L.set k { c0 with out := c0.out.extract 0 k1 })) by rw [ew6'.out]; exact own_cl OW.out HAT.out 15 [.string (c0.out.extract 0 k1)] (by simp [frc]) rfl)
      replace HAT := hide (show (L.set k { c0 with out := c0.out.extract 0 k1 })[k]? = some { c0 with out := c0.out.extract 0 k1 } from List.getElem?_set_self HKL.out)
      replace B := hide (show w6'.heap[w.heap.size]? = some (.cells (busL (some ⟨g, 0, none⟩) l.length c6 now).toArray 24 (0, 0)) by rw [ew6'.out]; exact other_heap (by omega) _ _ _ B.out)
      replace X := hide (show w6'.heap[x7]? = some (.cells c0.cs.toArray 33 (0, 0)) by rw [ew6'.out]; exact other_heap (by omega) _ _ _ X.out)
      replace Q := hide (show Below w.heap.size w w6' by rw [ew6'.out]; exact Q.out.trans (below_setCells _ _ _ (by omega)))
      clear ew6'
      refine ⟨keepsL_mk (by kernel_rfl) (.cons B.out (.cons B.out (.cons B.out (.cons X.out (.cons X.out (.cons X.out (.cons X.out (.cons X.out (.nil))))))))), ?_⟩
      go_simp
      refine wpAnyL_pure (i := 29) (v := .pointer (some ⟨g, k * 23, none⟩)) rfl rfl (by kernel_rfl) (by kernel_rfl) (by kernel_rfl) (by kernel_rfl) (by kernel_rfl) (fun _ _ _ h => h) rfl (fun W => by go_simp) ?_
      go_simp
      refine wpAnyL_pure (i := 30) (v := .pointer (some ⟨g, k * 23 + 19, none⟩)) rfl rfl (by kernel_rfl) (by kernel_rfl) (by kernel_rfl) (by kernel_rfl) (by kernel_rfl) (fun _ _ _ h => h) rfl (fun W => by go_simp) ?_
      go_simp
      obtain ⟨y0, y1⟩ := own_cell OW.out HAT.out 19 (.string c0.got) rfl
      refine wpAnyL_one (i := 31) (by kernel_rfl) ?_
      refine wpOp_do rfl rfl ?_
      go_simp
      clear y0 y1
      obtain ⟨w7', ew7'⟩ : ∃ wx, wx = w6'.setCell ⟨g, k * 23 + 19, none⟩ (.string (c0.got.extract 0 k2)) := ⟨_, rfl⟩
      rw [← ew7']
      replace ew7' : Hid (w7' = w6'.setCells g (k * 23 + 19) [.string (c0.got.extract 0 k2)]) := ew7'
      replace OW := hide (show Own w7' N 33 23 (some ⟨g, 0, none⟩) c6 (clRows (L.set k { c0 with out := c0.out.extract 0 k1, got := c0.got.extract 0 k2 })) by rw [ew7'.out]; exact (show (L.set k { c0 with out := c0.out.extract 0 k1 }).set k { c0 with out := c0.out.extract 0 k1, got := c0.got.extract 0 k2 } = L.set k { c0 with out := c0.out.extract 0 k1, got := c0.got.extract 0 k2 } from List.set_set ..) ▸ own_cl OW.out HAT.out 19 [.string (c0.got.extract 0 k2)] (by simp [frc]) rfl)
      replace HAT := hide (show (L.set k { c0 with out := c0.out.extract 0 k1, got := c0.got.extract 0 k2 })[k]? = some { c0 with out := c0.out.extract 0 k1, got := c0.got.extract 0 k2 } from List.getElem?_set_self HKL.out)
      replace B := hide (show w7'.heap[w.heap.size]? = some (.cells (busL (some ⟨g, 0, none⟩) l.length c6 now).toArray 24 (0, 0)) by rw [ew7'.out]; exact other_heap (by omega) _ _ _ B.out)
      replace X := hide (show w7'.heap[x7]? = some (.cells c0.cs.toArray 33 (0, 0)) by rw [ew7'.out]; exact other_heap (by omega) _ _ _ X.out)
      replace Q := hide (show Below w.heap.size w w7' by rw [ew7'.out]; exact Q.out.trans (below_setCells _ _ _ (by omega)))
      clear ew7'
      refine ⟨keepsL_mk (by kernel_rfl) (.cons B.out (.cons B.out (.cons B.out (.cons X.out (.cons X.out (.cons X.out (.cons X.out (.cons X.out (.nil))))))))), ?_⟩
      go_simp
      refine wpAnyL_pure (i := 32) (v := .pointer (some ⟨g, k * 23, none⟩)) rfl rfl (by kernel_rfl) (by kernel_rfl) (by kernel_rfl) (by kernel_rfl) (by kernel_rfl) (fun _ _ _ h => h) rfl (fun W => by go_simp) ?_
      go_simp
      refine wpAnyL_pure (i := 33) (v := .pointer (some ⟨g, k * 23 + 9, none⟩)) rfl rfl (by kernel_rfl) (by kernel_rfl) (by kernel_rfl) (by kernel_rfl) (by kernel_rfl) (fun _ _ _ h => h) rfl (fun W => by go_simp) ?_
      go_simp
      have TF := hide (show World.there _ g (k * 23 + 9) 5 from fr_there OW.out HAT.out)
      refine wpAnyL_one (i := 34) (by kernel_rfl) ?_
      refine wpOp_do rfl rfl ?_
      refine wp_store_as 29 (.tmp 88) (.tmp 82) rfl g (k * 23 + 9) (frc (cut8 c0.f)) (by rfl) (by rfl) (by exact TF.out) (by kernel_rfl) (by simp [Value.oneCell', frc]) ?_
      intro w8' ew8'
      replace OW := hide (show Own w8' N 33 23 (some ⟨g, 0, none⟩) c6 (clRows (L.set k { c0 with out := c0.out.extract 0 k1, got := c0.got.extract 0 k2, f := cut8 c0.f })) by rw [ew8']; exact (show (L.set k { c0 with out := c0.out.extract 0 k1, got := c0.got.extract 0 k2 }).set k { c0 with out := c0.out.extract 0 k1, got := c0.got.extract 0 k2, f := cut8 c0.f } = L.set k { c0 with out := c0.out.extract 0 k1, got := c0.got.extract 0 k2, f := cut8 c0.f } from List.set_set ..) ▸ own_cl OW.out HAT.out 9 (frc (cut8 c0.f)) (by simp [frc]) rfl)
      replace HAT := hide (show (L.set k { c0 with out := c0.out.extract 0 k1, got := c0.got.extract 0 k2, f := cut8 c0.f })[k]? = some { c0 with out := c0.out.extract 0 k1, got := c0.got.extract 0 k2, f := cut8 c0.f } from List.getElem?_set_self HKL.out)
      replace B := hide (show w8'.heap[w.heap.size]? = some (.cells (busL (some ⟨g, 0, none⟩) l.length c6 now).toArray 24 (0, 0)) by rw [ew8']; exact other_heap (by omega) _ _ _ B.out)
      replace X := hide (show w8'.heap[x7]? = some (.cells c0.cs.toArray 33 (0, 0)) by rw [ew8']; exact other_heap (by omega) _ _ _ X.out)
      replace Q := hide (show Below w.heap.size w w8' by rw [ew8']; exact Q.out.trans (below_setCells _ _ _ (by omega)))
      clear ew8' TF
      refine ⟨keepsL_mk (by kernel_rfl) (.cons B.out (.cons B.out (.cons B.out (.cons X.out (.cons X.out (.cons X.out (.cons X.out (.cons X.out (.nil))))))))), ?_⟩
      go_simp
      refine wpAnyL_done (by kernel_rfl) ?_ _
      rw [← HZ2.out] at OW HAT
      rw [← HSU.out] at OW HAT
      clear HZ2 HSU X
      have PZ := hide (own_clr OW.out HAT.out)
      rw [HL2.out] at OW
      clear HL2
      obtain ⟨b0, b1⟩ := bus_cells B.out
      cases r with
      | false =>
        go_wp2_with fail
        clear b0 b1
        go_roundw
        case rel => exact ⟨k + 1, false, by omega, by go_num, rfl, hide (by rw [HCA.out]; rfl), OW, B, Q⟩
        case measure => simp [intOf]; omega
      | true =>
        go_wp2_with (refine wpList_load_midG (by kernel_rfl) 33 (.tmp 94) (by rfl) g (k * 23) (by rfl) z.cs _ (by exact PZ.out) Tryz.underlying33 (by rfl) (by kernel_rfl) ?_)
        clear b0 b1 PZ
        (with_reducible refine (RC.out _).mono ?_)
        rintro ew9' w9' ⟨rfl, qw9'⟩
        replace B := hide (heap_below B.out qw9')
        replace OW := hide (OW.out.grown qw9')
        replace Q := hide (below_next Q.out Q.out.size qw9')
        clear qw9'
        clear RC
        go_wp2_with fail
        go_roundw
        case rel => exact ⟨k + 1, r2, by omega, by go_num, rfl, hide (by rw [HCA.out]; rfl), OW, B, Q⟩
        case measure => simp [intOf]; omega
    · obtain rfl : k = l.length := by omega
      have RAL := hide (raw_cut RAW.out)
      obtain ⟨L, hL⟩ : ∃ L, L = l.map cutC := ⟨_, rfl⟩
      have HLL := hide (show L.length = l.length by rw [hL, List.length_map])
      have HMAY := hide (show busMay rightC L now = r by rw [HRR.out, List.take_length, ← hL, HD.out]; unfold busMay; rw [HLL.out])
      rw [cutCK_full, ← hL] at OW
      rw [← hL] at RAL
      have C := hide (OW.out.rd (cl_rows L))
      have HC := hide (show ClR wr wr.heap.size A6 L from C.out)
      clear hL RAW HD HRR OW HC zN
      have RT := hide (fun (W : World) (h : Rd W W.heap.size A6 23 (clRows L)) => show Calls Tryz.prog 10 #[.agg (busL A6 l.length c6 now).toArray] W fun e w' => e = .returned (.bool r) ∧ Below W.heap.size W w' from by
        have := busRightX L A6 c6 now W h (by rw [HLL.out]; omega) RAL.out
        rwa [HMAY.out, HLL.out] at this)
      cases r with
      | false =>
        have SU := hide (fun (W : World) (h : Rd W W.heap.size A6 23 (clRows L)) => show Calls Tryz.prog 6 #[.agg (busL A6 l.length c6 now).toArray, .int .i64 at_, .agg #[.int .u32 5, .bool false, .bool false, .int .i64 0, .string ⟨#[]⟩]] W fun e w' => e = .returned (.tuple #[.agg (busL none 0 0 0).toArray, .int .i64 1]) ∧ Below W.heap.size W w' from by
          have := busSubmit_no L A6 c6 now at_ fr5 W h (by rw [HLL.out]; omega) RAL.out (.inl HMAY.out)
          rwa [HLL.out] at this)
        have LV := hide (fun (W : World) (h : Rd W W.heap.size A6 23 (clRows L)) => show Calls Tryz.prog 7 #[.agg (busL A6 l.length c6 now).toArray] W fun e w' => e = .returned (.tuple #[.int .u8 0, .int .i64 1]) ∧ Below W.heap.size W w' from by
          have := busLevel_no L A6 c6 now W h (by rw [HLL.out]; omega) RAL.out HMAY.out
          rwa [HLL.out] at this)
        have ST := hide (fun (W : World) (h : Rd W W.heap.size A6 23 (clRows L)) => show Calls Tryz.prog 8 #[.agg (busL A6 l.length c6 now).toArray, .slice none 0 0] W fun e w' => e = .returned (.tuple #[.agg (busL none 0 0 0).toArray, .slice none 0 0, .int .i64 1]) ∧ Below W.heap.size W w' from by
          have := busStep_no L A6 c6 now W h (by rw [HLL.out]; omega) RAL.out (.inl HMAY.out)
          rwa [HLL.out] at this)
        have RU := hide (fun (W : World) (h : Rd W W.heap.size A6 23 (clRows L)) => show Calls Tryz.prog 9 #[.agg (busL A6 l.length c6 now).toArray, .int .i64 3] W fun e w' => e = .returned (.tuple #[.agg (busL none 0 0 0).toArray, .slice none 0 0, .int .i64 1]) ∧ Below W.heap.size W w' from by
          have := busRun_no L A6 c6 now W h (by rw [HLL.out]; omega) RAL.out (.inl HMAY.out)
          rwa [HLL.out] at this)
        have R1 := hide (SU.out wr C.out)
        clear SU
        go_wp2_with (refine wpList_load_row rfl 24 (.tmp 2) (by rfl) w.heap.size (by rfl) 24 (busL A6 l.length c6 now).toArray (0, 0) _ (by exact B.out) Tryz.underlying24 (by rfl) (by kernel_rfl) ?_)
        (with_reducible refine (R1.out).mono ?_)
        rintro ew10' w10' ⟨rfl, qw10'⟩
        replace B := hide (heap_below B.out qw10')
        replace C := hide (Rd.next C.out qw10' qw10'.size)
        replace Q := hide (below_next Q.out Q.out.size qw10')
        clear qw10'
        clear R1
        have X := World.alloc_heap_new w10' (.cells (busL none 0 0 0).toArray 24)
        have zBx8 : w.heap.size < w10'.heap.size := heap_lt B.out
        have O_C_X := hide (off_new (x := w10'.heap.size) C.out (by omega))
        have zQx8 : w.heap.size ≤ w10'.heap.size := Q.out.size
        obtain ⟨w12', hw12'⟩ : ∃ wx, wx = w10'.alloc (.cells (busL none 0 0 0).toArray 24) := ⟨_, rfl⟩
        have q11' := hide (show Below w10'.heap.size w10' w12' by rw [hw12']; exact (Below.refl _ _).alloc (Nat.le_refl _) _)
        rw [← hw12'] at X
        replace X := hide X
        have Tw13' := hide (show (w10'.alloc (.cells (busL none 0 0 0).toArray 24)).there w10'.heap.size 0 2 by rw [← hw12']; exact there_heap (cs := busL none 0 0 0) X.out)
        go_wp2_with (refine wpList_store_hid (by rfl) 24 (.tmp 8) (.tmp 104) (by rfl) w10'.heap.size 0 (busL none 0 0 0) (by rfl) (by rfl) (by exact Tw13'.out) (by kernel_rfl) (by simp [Value.oneCell', busL]) ?_)
        intro w13' ew13'
        replace ew13' : Hid (w13' = w12'.setCells w10'.heap.size 0 (busL none 0 0 0)) := by rw [hw12']; exact ew13'
        replace X := hide (show w13'.heap[w10'.heap.size]? = some (.cells (busL none 0 0 0).toArray 24 (0, 0)) by rw [ew13'.out]; exact whole_heap (busL none 0 0 0) (xs := busL none 0 0 0) X.out rfl)
        replace q11' := hide (show Below w10'.heap.size w10' w13' by rw [ew13'.out]; exact q11'.out.trans (below_setCells _ _ _ (by omega)))
        clear ew13' Tw13' hw12'
        replace B := hide (heap_below B.out q11'.out)
        replace C := hide (Rd.next C.out q11'.out q11'.out.size)
        replace Q := hide (below_next Q.out Q.out.size q11'.out)
        clear q11'
        generalize w10'.heap.size = x8 at *
        have R1 := hide (LV.out w13' C.out)
        clear LV
        go_wp2_with (refine wpList_load_row rfl 24 (.tmp 2) (by rfl) w.heap.size (by rfl) 24 (busL A6 l.length c6 now).toArray (0, 0) _ (by exact B.out) Tryz.underlying24 (by rfl) (by kernel_rfl) ?_)
        (with_reducible refine (R1.out).mono ?_)
        rintro ew14' w14' ⟨rfl, qw14'⟩
        replace B := hide (heap_below B.out qw14')
        replace X := hide (heap_below X.out qw14')
        replace C := hide (Rd.next C.out qw14' qw14'.size)
        replace Q := hide (below_next Q.out Q.out.size qw14')
        clear qw14'
        clear R1
        have R1 := hide (ST.out w14' C.out)
        clear ST
        go_wp2_with (refine wpList_load_row rfl 24 (.tmp 2) (by rfl) w.heap.size (by rfl) 24 (busL A6 l.length c6 now).toArray (0, 0) _ (by exact B.out) Tryz.underlying24 (by rfl) (by kernel_rfl) ?_)
        (with_reducible refine (R1.out).mono ?_)
        rintro ew15' w15' ⟨rfl, qw15'⟩
        replace B := hide (heap_below B.out qw15')
        replace X := hide (heap_below X.out qw15')
        replace C := hide (Rd.next C.out qw15' qw15'.size)
        replace Q := hide (below_next Q.out Q.out.size qw15')
        clear qw15'
        clear R1
        have Y := World.alloc_heap_new w15' (.cells (busL none 0 0 0).toArray 24)
        have zBx12 : w.heap.size < w15'.heap.size := heap_lt B.out
        have zXx12 : x8 < w15'.heap.size := heap_lt X.out
        have O_C_Y := hide (off_new (x := w15'.heap.size) C.out (by omega))
        have zQx12 : w.heap.size ≤ w15'.heap.size := Q.out.size
        obtain ⟨w17', hw17'⟩ : ∃ wx, wx = w15'.alloc (.cells (busL none 0 0 0).toArray 24) := ⟨_, rfl⟩
        have q16' := hide (show Below w15'.heap.size w15' w17' by rw [hw17']; exact (Below.refl _ _).alloc (Nat.le_refl _) _)
        rw [← hw17'] at Y
        replace Y := hide Y
        have Tw18' := hide (show (w15'.alloc (.cells (busL none 0 0 0).toArray 24)).there w15'.heap.size 0 2 by rw [← hw17']; exact there_heap (cs := busL none 0 0 0) Y.out)
        go_wp2_with (refine wpList_store_hid (by rfl) 24 (.tmp 12) (.tmp 114) (by rfl) w15'.heap.size 0 (busL none 0 0 0) (by rfl) (by rfl) (by exact Tw18'.out) (by kernel_rfl) (by simp [Value.oneCell', busL]) ?_)
        intro w18' ew18'
        replace ew18' : Hid (w18' = w17'.setCells w15'.heap.size 0 (busL none 0 0 0)) := by rw [hw17']; exact ew18'
        replace Y := hide (show w18'.heap[w15'.heap.size]? = some (.cells (busL none 0 0 0).toArray 24 (0, 0)) by rw [ew18'.out]; exact whole_heap (busL none 0 0 0) (xs := busL none 0 0 0) Y.out rfl)
        replace q16' := hide (show Below w15'.heap.size w15' w18' by rw [ew18'.out]; exact q16'.out.trans (below_setCells _ _ _ (by omega)))
        clear ew18' Tw18' hw17'
        replace B := hide (heap_below B.out q16'.out)
        replace X := hide (heap_below X.out q16'.out)
        replace C := hide (Rd.next C.out q16'.out q16'.out.size)
        replace Q := hide (below_next Q.out Q.out.size q16'.out)
        clear q16'
        generalize w15'.heap.size = x12 at *
        have R1 := hide (RU.out w18' C.out)
        clear RU
        go_wp2_with (refine wpList_load_row rfl 24 (.tmp 2) (by rfl) w.heap.size (by rfl) 24 (busL A6 l.length c6 now).toArray (0, 0) _ (by exact B.out) Tryz.underlying24 (by rfl) (by kernel_rfl) ?_)
        (with_reducible refine (R1.out).mono ?_)
        rintro ew19' w19' ⟨rfl, qw19'⟩
        replace B := hide (heap_below B.out qw19')
        replace X := hide (heap_below X.out qw19')
        replace Y := hide (heap_below Y.out qw19')
        replace C := hide (Rd.next C.out qw19' qw19'.size)
        replace Q := hide (below_next Q.out Q.out.size qw19')
        clear qw19'
        clear R1
        have V := World.alloc_heap_new w19' (.cells (busL none 0 0 0).toArray 24)
        have zBx15 : w.heap.size < w19'.heap.size := heap_lt B.out
        have zXx15 : x8 < w19'.heap.size := heap_lt X.out
        have zYx15 : x12 < w19'.heap.size := heap_lt Y.out
        have O_C_V := hide (off_new (x := w19'.heap.size) C.out (by omega))
        have zQx15 : w.heap.size ≤ w19'.heap.size := Q.out.size
        obtain ⟨w21', hw21'⟩ : ∃ wx, wx = w19'.alloc (.cells (busL none 0 0 0).toArray 24) := ⟨_, rfl⟩
        have q20' := hide (show Below w19'.heap.size w19' w21' by rw [hw21']; exact (Below.refl _ _).alloc (Nat.le_refl _) _)
        rw [← hw21'] at V
        replace V := hide V
        have Tw22' := hide (show (w19'.alloc (.cells (busL none 0 0 0).toArray 24)).there w19'.heap.size 0 2 by rw [← hw21']; exact there_heap (cs := busL none 0 0 0) V.out)
        go_wp2_with (refine wpList_store_hid (by rfl) 24 (.tmp 15) (.tmp 120) (by rfl) w19'.heap.size 0 (busL none 0 0 0) (by rfl) (by rfl) (by exact Tw22'.out) (by kernel_rfl) (by simp [Value.oneCell', busL]) ?_)
        intro w22' ew22'
        replace ew22' : Hid (w22' = w21'.setCells w19'.heap.size 0 (busL none 0 0 0)) := by rw [hw21']; exact ew22'
        replace V := hide (show w22'.heap[w19'.heap.size]? = some (.cells (busL none 0 0 0).toArray 24 (0, 0)) by rw [ew22'.out]; exact whole_heap (busL none 0 0 0) (xs := busL none 0 0 0) V.out rfl)
        replace q20' := hide (show Below w19'.heap.size w19' w22' by rw [ew22'.out]; exact q20'.out.trans (below_setCells _ _ _ (by omega)))
        clear ew22' Tw22' hw21'
        replace B := hide (heap_below B.out q20'.out)
        replace X := hide (heap_below X.out q20'.out)
        replace Y := hide (heap_below Y.out q20'.out)
        replace C := hide (Rd.next C.out q20'.out q20'.out.size)
        replace Q := hide (below_next Q.out Q.out.size q20'.out)
        clear q20'
        generalize w19'.heap.size = x15 at *
        have R1 := hide (RT.out w22' C.out)
        clear RT
        go_wp2_with (refine wpList_load_row rfl 24 (.tmp 2) (by rfl) w.heap.size (by rfl) 24 (busL A6 l.length c6 now).toArray (0, 0) _ (by exact B.out) Tryz.underlying24 (by rfl) (by kernel_rfl) ?_)
        (with_reducible refine (R1.out).mono ?_)
        rintro ew23' w23' ⟨rfl, qw23'⟩
        replace B := hide (heap_below B.out qw23')
        replace X := hide (heap_below X.out qw23')
        replace Y := hide (heap_below Y.out qw23')
        replace V := hide (heap_below V.out qw23')
        replace C := hide (Rd.next C.out qw23' qw23'.size)
        replace Q := hide (below_next Q.out Q.out.size qw23')
        clear qw23'
        clear R1
        go_wp2_with fail
        (with_reducible refine (AL.out _).mono ?_)
        rintro ew24' w24' ⟨rfl, qw24'⟩
        replace B := hide (heap_below B.out qw24')
        replace X := hide (heap_below X.out qw24')
        replace Y := hide (heap_below Y.out qw24')
        replace V := hide (heap_below V.out qw24')
        replace C := hide (Rd.next C.out qw24' qw24'.size)
        replace Q := hide (below_next Q.out Q.out.size qw24')
        clear qw24'
        clear AL
        obtain ⟨p0, -⟩ := bus_cells X.out
        obtain ⟨p1, -⟩ := bus_cells Y.out
        obtain ⟨p2, -⟩ := bus_cells V.out
        go_wp2_with fail
        go_ret
        exact ⟨rfl, Q.out⟩
      | true =>
        have hok := busMay_ok RAL.out HMAY.out
        have HOK := hide hok
        clear hok
        have SU := hide (fun (W : World) (h : Rd W W.heap.size A6 23 (clRows L)) => show Calls Tryz.prog 6 #[.agg (busL A6 l.length c6 now).toArray, .int .i64 at_, .agg #[.int .u32 5, .bool false, .bool false, .int .i64 0, .string ⟨#[]⟩]] W fun e w' => ∃ A' c' now' L' E, e = .returned (.tuple #[.agg (busL A' L'.length c' now').toArray, .int .i64 E]) ∧ ClR w' w'.heap.size A' L' ∧ Hid (SubX L at_ L' now' E) ∧ Below W.heap.size W w' from by
          have := busSubmit_x L A6 c6 now at_ W h (by rw [HLL.out]; omega) RAL.out HMAY.out
          rwa [HLL.out] at this)
        have LV := hide (fun (W : World) (h : Rd W W.heap.size A6 23 (clRows L)) => show Calls Tryz.prog 7 #[.agg (busL A6 l.length c6 now).toArray] W fun e w' => e = .returned (.tuple #[.int .u8 (lvlB L).toNat, .int .i64 0]) ∧ Below W.heap.size W w' from by
          have := busLevel_yes L A6 c6 now W h (by rw [HLL.out]; omega) RAL.out HMAY.out
          rwa [HLL.out] at this)
        have ST := hide (fun (W : World) (h : Rd W W.heap.size A6 23 (clRows L)) => show Calls Tryz.prog 8 #[.agg (busL A6 l.length c6 now).toArray, .slice none 0 0] W fun e w' => ∃ A' n' c' now' E n ec g, e = .returned (.tuple #[.agg (busL A' n' c' now').toArray, .slice E n ec, .int .i64 g]) ∧ Hid ((g = 0 ∧ now < 1099511627776) ∨ (g = 1 ∧ ¬ now < 1099511627776)) ∧ Below W.heap.size W w' from by
          have := busStep_x L A6 c6 now W h (by rw [HLL.out]; omega) RAL.out HMAY.out
          rwa [HLL.out] at this)
        have RU := hide (fun (W : World) (h : Rd W W.heap.size A6 23 (clRows L)) => show Calls Tryz.prog 9 #[.agg (busL A6 l.length c6 now).toArray, .int .i64 3] W fun e w' => ∃ A' n' c' now' E n ec g, e = .returned (.tuple #[.agg (busL A' n' c' now').toArray, .slice E n ec, .int .i64 g]) ∧ Hid ((g = 0 ∧ now ≤ 1099511627773) ∨ (g = 1 ∧ ¬ now ≤ 1099511627773)) ∧ Below W.heap.size W w' from by
          have := busRun_x L A6 c6 now W h (by rw [HLL.out]; omega) RAL.out HMAY.out
          rwa [HLL.out] at this)
        have R1 := hide (SU.out wr C.out)
        clear SU
        go_wp2_with (refine wpList_load_row rfl 24 (.tmp 2) (by rfl) w.heap.size (by rfl) 24 (busL A6 l.length c6 now).toArray (0, 0) _ (by exact B.out) Tryz.underlying24 (by rfl) (by kernel_rfl) ?_)
        (with_reducible refine (R1.out).mono ?_)
        rintro ew25' w25' ⟨A8, c8, now8, L8, E8, rfl, C8, HX, qw25'⟩
        replace B := hide (heap_below B.out qw25')
        replace C := hide (Rd.next C.out qw25' qw25'.size)
        replace Q := hide (below_next Q.out Q.out.size qw25')
        clear qw25'
        clear R1
        replace C8 := hide C8
        generalize hn8 : L8.length = n8 at *
        replace hn8 := hide hn8
        have X := World.alloc_heap_new w25' (.cells (busL none 0 0 0).toArray 24)
        have zBx8 : w.heap.size < w25'.heap.size := heap_lt B.out
        have O_C_X := hide (off_new (x := w25'.heap.size) C.out (by omega))
        have O_C8_X := hide (off_new (x := w25'.heap.size) C8.out (by omega))
        have zQx8 : w.heap.size ≤ w25'.heap.size := Q.out.size
        obtain ⟨w27', hw27'⟩ : ∃ wx, wx = w25'.alloc (.cells (busL none 0 0 0).toArray 24) := ⟨_, rfl⟩
        have q26' := hide (show Below w25'.heap.size w25' w27' by rw [hw27']; exact (Below.refl _ _).alloc (Nat.le_refl _) _)
        rw [← hw27'] at X
        replace X := hide X
        have Tw28' := hide (show (w25'.alloc (.cells (busL none 0 0 0).toArray 24)).there w25'.heap.size 0 2 by rw [← hw27']; exact there_heap (cs := busL none 0 0 0) X.out)
        go_wp2_with (refine wpList_store_hid (by rfl) 24 (.tmp 8) (.tmp 104) (by rfl) w25'.heap.size 0 (busL A8 n8 c8 now8) (by rfl) (by rfl) (by exact Tw28'.out) (by kernel_rfl) (by simp [Value.oneCell', busL]) ?_)
        intro w28' ew28'
        replace ew28' : Hid (w28' = w27'.setCells w25'.heap.size 0 (busL A8 n8 c8 now8)) := by rw [hw27']; exact ew28'
        replace X := hide (show w28'.heap[w25'.heap.size]? = some (.cells (busL A8 n8 c8 now8).toArray 24 (0, 0)) by rw [ew28'.out]; exact whole_heap (busL A8 n8 c8 now8) (xs := busL none 0 0 0) X.out rfl)
        replace q26' := hide (show Below w25'.heap.size w25' w28' by rw [ew28'.out]; exact q26'.out.trans (below_setCells _ _ _ (by omega)))
        clear ew28' Tw28' hw27'
        replace B := hide (heap_below B.out q26'.out)
        replace C := hide (Rd.next C.out q26'.out q26'.out.size)
        replace C8 := hide (Rd.next C8.out q26'.out q26'.out.size)
        replace Q := hide (below_next Q.out Q.out.size q26'.out)
        clear q26'
        generalize w25'.heap.size = x8 at *
        have R1 := hide (LV.out w28' C.out)
        clear LV
        generalize (lvlB L).toNat = lv at *
        go_wp2_with (refine wpList_load_row rfl 24 (.tmp 2) (by rfl) w.heap.size (by rfl) 24 (busL A6 l.length c6 now).toArray (0, 0) _ (by exact B.out) Tryz.underlying24 (by rfl) (by kernel_rfl) ?_)
        (with_reducible refine (R1.out).mono ?_)
        rintro ew29' w29' ⟨rfl, qw29'⟩
        replace B := hide (heap_below B.out qw29')
        replace X := hide (heap_below X.out qw29')
        replace C := hide (Rd.next C.out qw29' qw29'.size)
        replace C8 := hide (Rd.next C8.out qw29' qw29'.size)
        replace Q := hide (below_next Q.out Q.out.size qw29')
        clear qw29'
        clear R1
        have R1 := hide (ST.out w29' C.out)
        clear ST
        go_wp2_with (refine wpList_load_row rfl 24 (.tmp 2) (by rfl) w.heap.size (by rfl) 24 (busL A6 l.length c6 now).toArray (0, 0) _ (by exact B.out) Tryz.underlying24 (by rfl) (by kernel_rfl) ?_)
        (with_reducible refine (R1.out).mono ?_)
        rintro ew30' w30' ⟨A9, n9, c9, now9, E9, m9, d9, g9, rfl, H9, qw30'⟩
        replace B := hide (heap_below B.out qw30')
        replace X := hide (heap_below X.out qw30')
        replace C := hide (Rd.next C.out qw30' qw30'.size)
        replace C8 := hide (Rd.next C8.out qw30' qw30'.size)
        replace Q := hide (below_next Q.out Q.out.size qw30')
        clear qw30'
        clear R1
        have Y := World.alloc_heap_new w30' (.cells (busL none 0 0 0).toArray 24)
        have zBx12 : w.heap.size < w30'.heap.size := heap_lt B.out
        have zXx12 : x8 < w30'.heap.size := heap_lt X.out
        have O_C_Y := hide (off_new (x := w30'.heap.size) C.out (by omega))
        have O_C8_Y := hide (off_new (x := w30'.heap.size) C8.out (by omega))
        have zQx12 : w.heap.size ≤ w30'.heap.size := Q.out.size
        obtain ⟨w32', hw32'⟩ : ∃ wx, wx = w30'.alloc (.cells (busL none 0 0 0).toArray 24) := ⟨_, rfl⟩
        have q31' := hide (show Below w30'.heap.size w30' w32' by rw [hw32']; exact (Below.refl _ _).alloc (Nat.le_refl _) _)
        rw [← hw32'] at Y
        replace Y := hide Y
        have Tw33' := hide (show (w30'.alloc (.cells (busL none 0 0 0).toArray 24)).there w30'.heap.size 0 2 by rw [← hw32']; exact there_heap (cs := busL none 0 0 0) Y.out)
        go_wp2_with (refine wpList_store_hid (by rfl) 24 (.tmp 12) (.tmp 114) (by rfl) w30'.heap.size 0 (busL A9 n9 c9 now9) (by rfl) (by rfl) (by exact Tw33'.out) (by kernel_rfl) (by simp [Value.oneCell', busL]) ?_)
        intro w33' ew33'
        replace ew33' : Hid (w33' = w32'.setCells w30'.heap.size 0 (busL A9 n9 c9 now9)) := by rw [hw32']; exact ew33'
        replace Y := hide (show w33'.heap[w30'.heap.size]? = some (.cells (busL A9 n9 c9 now9).toArray 24 (0, 0)) by rw [ew33'.out]; exact whole_heap (busL A9 n9 c9 now9) (xs := busL none 0 0 0) Y.out rfl)
        replace q31' := hide (show Below w30'.heap.size w30' w33' by rw [ew33'.out]; exact q31'.out.trans (below_setCells _ _ _ (by omega)))
        clear ew33' Tw33' hw32'
        replace B := hide (heap_below B.out q31'.out)
        replace X := hide (heap_below X.out q31'.out)
        replace C := hide (Rd.next C.out q31'.out q31'.out.size)
        replace C8 := hide (Rd.next C8.out q31'.out q31'.out.size)
        replace Q := hide (below_next Q.out Q.out.size q31'.out)
        clear q31'
        generalize w30'.heap.size = x12 at *
        have R1 := hide (RU.out w33' C.out)
        clear RU
        go_wp2_with (refine wpList_load_row rfl 24 (.tmp 2) (by rfl) w.heap.size (by rfl) 24 (busL A6 l.length c6 now).toArray (0, 0) _ (by exact B.out) Tryz.underlying24 (by rfl) (by kernel_rfl) ?_)
        (with_reducible refine (R1.out).mono ?_)
        rintro ew34' w34' ⟨A10, n10, c10, now10, E10, m10, d10, g10, rfl, H10, qw34'⟩
        replace B := hide (heap_below B.out qw34')
        replace X := hide (heap_below X.out qw34')
        replace Y := hide (heap_below Y.out qw34')
        replace C := hide (Rd.next C.out qw34' qw34'.size)
        replace C8 := hide (Rd.next C8.out qw34' qw34'.size)
        replace Q := hide (below_next Q.out Q.out.size qw34')
        clear qw34'
        clear R1
        have V := World.alloc_heap_new w34' (.cells (busL none 0 0 0).toArray 24)
        have zBx15 : w.heap.size < w34'.heap.size := heap_lt B.out
        have zXx15 : x8 < w34'.heap.size := heap_lt X.out
        have zYx15 : x12 < w34'.heap.size := heap_lt Y.out
        have O_C_V := hide (off_new (x := w34'.heap.size) C.out (by omega))
        have O_C8_V := hide (off_new (x := w34'.heap.size) C8.out (by omega))
        have zQx15 : w.heap.size ≤ w34'.heap.size := Q.out.size
        obtain ⟨w36', hw36'⟩ : ∃ wx, wx = w34'.alloc (.cells (busL none 0 0 0).toArray 24) := ⟨_, rfl⟩
        have q35' := hide (show Below w34'.heap.size w34' w36' by rw [hw36']; exact (Below.refl _ _).alloc (Nat.le_refl _) _)
        rw [← hw36'] at V
        replace V := hide V
        have Tw37' := hide (show (w34'.alloc (.cells (busL none 0 0 0).toArray 24)).there w34'.heap.size 0 2 by rw [← hw36']; exact there_heap (cs := busL none 0 0 0) V.out)
        go_wp2_with (refine wpList_store_hid (by rfl) 24 (.tmp 15) (.tmp 120) (by rfl) w34'.heap.size 0 (busL A10 n10 c10 now10) (by rfl) (by rfl) (by exact Tw37'.out) (by kernel_rfl) (by simp [Value.oneCell', busL]) ?_)
        intro w37' ew37'
        replace ew37' : Hid (w37' = w36'.setCells w34'.heap.size 0 (busL A10 n10 c10 now10)) := by rw [hw36']; exact ew37'
        replace V := hide (show w37'.heap[w34'.heap.size]? = some (.cells (busL A10 n10 c10 now10).toArray 24 (0, 0)) by rw [ew37'.out]; exact whole_heap (busL A10 n10 c10 now10) (xs := busL none 0 0 0) V.out rfl)
        replace q35' := hide (show Below w34'.heap.size w34' w37' by rw [ew37'.out]; exact q35'.out.trans (below_setCells _ _ _ (by omega)))
        clear ew37' Tw37' hw36'
        replace B := hide (heap_below B.out q35'.out)
        replace X := hide (heap_below X.out q35'.out)
        replace Y := hide (heap_below Y.out q35'.out)
        replace C := hide (Rd.next C.out q35'.out q35'.out.size)
        replace C8 := hide (Rd.next C8.out q35'.out q35'.out.size)
        replace Q := hide (below_next Q.out Q.out.size q35'.out)
        clear q35'
        generalize w34'.heap.size = x15 at *
        have R1 := hide (RT.out w37' C.out)
        clear RT
        go_wp2_with (refine wpList_load_row rfl 24 (.tmp 2) (by rfl) w.heap.size (by rfl) 24 (busL A6 l.length c6 now).toArray (0, 0) _ (by exact B.out) Tryz.underlying24 (by rfl) (by kernel_rfl) ?_)
        (with_reducible refine (R1.out).mono ?_)
        rintro ew38' w38' ⟨rfl, qw38'⟩
        replace B := hide (heap_below B.out qw38')
        replace X := hide (heap_below X.out qw38')
        replace Y := hide (heap_below Y.out qw38')
        replace V := hide (heap_below V.out qw38')
        replace C := hide (Rd.next C.out qw38' qw38'.size)
        replace C8 := hide (Rd.next C8.out qw38' qw38'.size)
        replace Q := hide (below_next Q.out Q.out.size qw38')
        clear qw38'
        clear R1
        go_wp2_with fail
        (with_reducible refine (AL.out _).mono ?_)
        rintro ew39' w39' ⟨rfl, qw39'⟩
        replace B := hide (heap_below B.out qw39')
        replace X := hide (heap_below X.out qw39')
        replace Y := hide (heap_below Y.out qw39')
        replace V := hide (heap_below V.out qw39')
        replace C := hide (Rd.next C.out qw39' qw39'.size)
        replace C8 := hide (Rd.next C8.out qw39' qw39'.size)
        replace Q := hide (below_next Q.out Q.out.size qw39')
        clear qw39'
        clear AL
        clear Y V
        obtain ⟨b0, b1⟩ := bus_cells B.out
        go_upto_region 18 with fail
        rcases H9.out with ⟨rfl, i9⟩ | ⟨rfl, i9⟩ <;> rcases H10.out with ⟨rfl, i10⟩ | ⟨rfl, i10⟩
        ·
          clear H9 H10
          go_upto_region 20 with fail
          rcases HX.out with ⟨j1, rfl⟩ | ⟨j1, j2, rfl⟩ | ⟨ka, rfl, hka, hE⟩
          ·
            go_wp2_with fail
            go_ret
            exact ⟨rfl, Q.out⟩
          ·
            rw [HLL.out] at j2
            go_wp2_with fail
            go_ret
            exact ⟨rfl, Q.out⟩
          ·
            rw [HLL.out] at hka
            have ha0 : ¬ (ka : Int) < 0 := by omega
            have ha1 : ¬ (l.length : Int) ≤ (ka : Int) := by omega
            have ha2 : (ka : Int) < (l.length : Int) := by omega
            have hkL : ka < L.length := by rw [HLL.out]; exact hka
            obtain ⟨g, o, hA, -, r1⟩ := ClR.at_ (l := L) C.out (k := ka) hkL
            subst hA
            have hgd : L.getD ka zCl = L[ka] := by rw [List.getD_eq_getElem?_getD, List.getElem?_eq_getElem hkL]; rfl
            rw [← hgd] at r1
            have p8 := r1 8 (.bool (L.getD ka zCl).has) rfl
            clear hgd hkL
            generalize L.getD ka zCl = ca at *
            clear r1
            rcases hE with ⟨hh, rfl⟩ | ⟨hh, rfl, ok8, k1, k2, k3, k4⟩
            ·
              rw [hh] at p8
              clear hh
              go_wp2_with fail
              go_ret
              exact ⟨rfl, Q.out⟩
            ·
              rw [hh] at p8
              have R1 := hide (fun (W : World) (h : Rd W W.heap.size A8 23 (clRows L8)) => show Calls Tryz.prog 10 #[.agg (busL A8 n8 c8 now8).toArray] W fun e w' => e = .returned (.bool true) ∧ Below W.heap.size W w' from by rw [← hn8.out]; exact busRight_ok L8 A8 c8 now8 W h k1 k2 k3 k4 ok8)
              have R2 := hide (R1.out w39' C8.out)
              clear hh ok8 k1 k2 k3 k4 R1
              go_wp2_with (refine wpList_load_rowG (by kernel_rfl) 24 (.tmp 8) (by rfl) x8 (by rfl) 24 (busL A8 n8 c8 now8).toArray (0, 0) _ (by exact X.out) Tryz.underlying24 (by rfl) (by kernel_rfl) ?_)
              (with_reducible refine (R2.out).mono ?_)
              rintro ew40' w40' ⟨rfl, qw40'⟩
              replace B := hide (heap_below B.out qw40')
              replace X := hide (heap_below X.out qw40')
              replace C := hide (Rd.next C.out qw40' qw40'.size)
              replace C8 := hide (Rd.next C8.out qw40' qw40'.size)
              replace Q := hide (below_next Q.out Q.out.size qw40')
              clear qw40'
              clear R2
              go_wp2_with fail
              go_ret
              exact ⟨rfl, Q.out⟩
        ·
          clear H9 H10
          go_upto_region 20 with fail
          rcases HX.out with ⟨j1, rfl⟩ | ⟨j1, j2, rfl⟩ | ⟨ka, rfl, hka, hE⟩
          ·
            go_wp2_with fail
            go_ret
            exact ⟨rfl, Q.out⟩
          ·
            rw [HLL.out] at j2
            go_wp2_with fail
            go_ret
            exact ⟨rfl, Q.out⟩
          ·
            rw [HLL.out] at hka
            have ha0 : ¬ (ka : Int) < 0 := by omega
            have ha1 : ¬ (l.length : Int) ≤ (ka : Int) := by omega
            have ha2 : (ka : Int) < (l.length : Int) := by omega
            have hkL : ka < L.length := by rw [HLL.out]; exact hka
            obtain ⟨g, o, hA, -, r1⟩ := ClR.at_ (l := L) C.out (k := ka) hkL
            subst hA
            have hgd : L.getD ka zCl = L[ka] := by rw [List.getD_eq_getElem?_getD, List.getElem?_eq_getElem hkL]; rfl
            rw [← hgd] at r1
            have p8 := r1 8 (.bool (L.getD ka zCl).has) rfl
            clear hgd hkL
            generalize L.getD ka zCl = ca at *
            clear r1
            rcases hE with ⟨hh, rfl⟩ | ⟨hh, rfl, ok8, k1, k2, k3, k4⟩
            ·
              rw [hh] at p8
              clear hh
              go_wp2_with fail
              go_ret
              exact ⟨rfl, Q.out⟩
            ·
              rw [hh] at p8
              have R1 := hide (fun (W : World) (h : Rd W W.heap.size A8 23 (clRows L8)) => show Calls Tryz.prog 10 #[.agg (busL A8 n8 c8 now8).toArray] W fun e w' => e = .returned (.bool true) ∧ Below W.heap.size W w' from by rw [← hn8.out]; exact busRight_ok L8 A8 c8 now8 W h k1 k2 k3 k4 ok8)
              have R2 := hide (R1.out w39' C8.out)
              clear hh ok8 k1 k2 k3 k4 R1
              go_wp2_with (refine wpList_load_rowG (by kernel_rfl) 24 (.tmp 8) (by rfl) x8 (by rfl) 24 (busL A8 n8 c8 now8).toArray (0, 0) _ (by exact X.out) Tryz.underlying24 (by rfl) (by kernel_rfl) ?_)
              (with_reducible refine (R2.out).mono ?_)
              rintro ew41' w41' ⟨rfl, qw41'⟩
              replace B := hide (heap_below B.out qw41')
              replace X := hide (heap_below X.out qw41')
              replace C := hide (Rd.next C.out qw41' qw41'.size)
              replace C8 := hide (Rd.next C8.out qw41' qw41'.size)
              replace Q := hide (below_next Q.out Q.out.size qw41')
              clear qw41'
              clear R2
              go_wp2_with fail
              go_ret
              exact ⟨rfl, Q.out⟩
        ·
          clear H9 H10
          omega
        ·
          clear H9 H10
          go_upto_region 20 with fail
          rcases HX.out with ⟨j1, rfl⟩ | ⟨j1, j2, rfl⟩ | ⟨ka, rfl, hka, hE⟩
          ·
            go_wp2_with fail
            go_ret
            exact ⟨rfl, Q.out⟩
          ·
            rw [HLL.out] at j2
            go_wp2_with fail
            go_ret
            exact ⟨rfl, Q.out⟩
          ·
            rw [HLL.out] at hka
            have ha0 : ¬ (ka : Int) < 0 := by omega
            have ha1 : ¬ (l.length : Int) ≤ (ka : Int) := by omega
            have ha2 : (ka : Int) < (l.length : Int) := by omega
            have hkL : ka < L.length := by rw [HLL.out]; exact hka
            obtain ⟨g, o, hA, -, r1⟩ := ClR.at_ (l := L) C.out (k := ka) hkL
            subst hA
            have hgd : L.getD ka zCl = L[ka] := by rw [List.getD_eq_getElem?_getD, List.getElem?_eq_getElem hkL]; rfl
            rw [← hgd] at r1
            have p8 := r1 8 (.bool (L.getD ka zCl).has) rfl
            clear hgd hkL
            generalize L.getD ka zCl = ca at *
            clear r1
            rcases hE with ⟨hh, rfl⟩ | ⟨hh, rfl, ok8, k1, k2, k3, k4⟩
            ·
              rw [hh] at p8
              clear hh
              go_wp2_with fail
              go_ret
              exact ⟨rfl, Q.out⟩
            ·
              rw [hh] at p8
              have R1 := hide (fun (W : World) (h : Rd W W.heap.size A8 23 (clRows L8)) => show Calls Tryz.prog 10 #[.agg (busL A8 n8 c8 now8).toArray] W fun e w' => e = .returned (.bool true) ∧ Below W.heap.size W w' from by rw [← hn8.out]; exact busRight_ok L8 A8 c8 now8 W h k1 k2 k3 k4 ok8)
              have R2 := hide (R1.out w39' C8.out)
              clear hh ok8 k1 k2 k3 k4 R1
              go_wp2_with (refine wpList_load_rowG (by kernel_rfl) 24 (.tmp 8) (by rfl) x8 (by rfl) 24 (busL A8 n8 c8 now8).toArray (0, 0) _ (by exact X.out) Tryz.underlying24 (by rfl) (by kernel_rfl) ?_)
              (with_reducible refine (R2.out).mono ?_)
              rintro ew42' w42' ⟨rfl, qw42'⟩
              replace B := hide (heap_below B.out qw42')
              replace X := hide (heap_below X.out qw42')
              replace C := hide (Rd.next C.out qw42' qw42'.size)
              replace C8 := hide (Rd.next C8.out qw42' qw42'.size)
              replace Q := hide (below_next Q.out Q.out.size qw42')
              clear qw42'
              clear R2
              go_wp2_with fail
              go_ret
              exact ⟨rfl, Q.out⟩
end Go.Proofs.YtkfedgjepiljiaaGreatDoor
