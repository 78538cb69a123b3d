/- few of package 09: the first twelve boxes, their data cut. -/
import Derived.Test.YtbdgifngldipcaaBxA
import Derived.Test.YtbdgifngldipcaaPrL
import Derived.Test.YtbdgifngldipcaaOrdL
namespace Go.Proofs.Ytbdgifngldipcaa
open Go.ChangeShapes Go.WideShapes Go.ChangeAt Go.RowKit
open FP (Fr)

def cutBx (x : Bx) : Bx := ⟨x.h, cutF x.f, x.s⟩
def cutBK (l : List Bx) (k : Nat) : List Bx := (l.take k).map cutBx ++ l.drop k
theorem cutBK_zero (l : List Bx) : cutBK l 0 = l := by simp [cutBK]
theorem cutBK_full (l : List Bx) : cutBK l l.length = l.map cutBx := by simp [cutBK]
theorem cutBK_len (l : List Bx) (k : Nat) (h : k ≤ l.length) : (cutBK l k).length = l.length := by simp [cutBK]; omega
theorem cutBK_at (l : List Bx) (k : Nat) (h : k < l.length) : (cutBK l k)[k]? = some l[k] := by
  unfold cutBK
  rw [List.getElem?_append_right (by simp; omega)]
  simp only [List.length_map, List.length_take, List.getElem?_drop]
  rw [show k + (k - min k l.length) = k by omega, List.getElem?_eq_getElem h]
theorem cutBK_succ (l : List Bx) (k : Nat) (h : k < l.length) : cutBK l (k + 1) = (cutBK l k).set k (cutBx l[k]) := by
  unfold cutBK
  rw [List.take_succ_eq_append_getElem h, List.map_append, List.set_append_right _ _ (by simp; omega)]
  simp only [List.length_map, List.length_take, List.map_cons, List.map_nil]
  rw [show k - min k l.length = 0 by omega, List.drop_eq_getElem_cons h, List.set_cons_zero, List.append_assoc]
  rfl
theorem cutBK_rows (l : List Bx) (k : Nat) (h : k < l.length) : ((cutBK l (k + 1)).map bxc).flatten = ((cutBK l k).map bxc).flatten.set (k * 7 + 5) (.string (l[k].f.data.extract 0 (min l[k].f.data.size 12))) := by
  have hk : ((cutBK l k).map bxc)[k]? = some (bxc l[k]) := by rw [List.getElem?_map, cutBK_at l k h]; rfl
  rw [flatten_set _ 7 (bxc_rows _) k 5 _ _ hk (by omega), cutBK_succ l k h, List.map_set]
  rfl

/-- What few leaves. -/
def cutB (l : List Bx) : List Bx := (l.take 12).map cutBx
def FewBV (l : List Bx) (seq cap : Int) (w : World) (e : Ending) (w' : World) : Prop :=
  ∃ A' c', e = .returned (.agg #[.slice A' (cutB l).length c', .int .i64 seq, .int .i64 cap]) ∧ BxR w' w'.heap.size A' (cutB l) ∧ (cutB l).length ≤ c' ∧ Below w.heap.size w w'

structure F9 (w : World) (l : List Bx) (seq cap : Int) (A : Option Addr) (c k : Nat) (W : World) : Prop where
  box : W.heap[w.heap.size]? = some (.cells #[.slice A l.length c, .int .i64 seq, .int .i64 cap] 65 (0, 0))
  res : W.heap[w.heap.size + 1]? = some (.cells #[.slice none 0 0, .int .i64 0, .int .i64 0] 65 (0, 0))
  own : Own W (w.heap.size + 2) 70 7 A c ((cutBK l k).map bxc)
  q : Below w.heap.size w W

theorem three_freeB {W : World} {B : Nat} {a b c : Value} {t : TypeId} (h : W.heap[B]? = some (.cells #[a, b, c] t (0, 0))) : W.there B 0 3 := there_heap (cs := [a, b, c]) h
theorem three_froz {W : World} {B : Nat} {a b c : Value} {t : TypeId} (h : W.heap[B]? = some (.cells #[a, b, c] t (0, 0))) : W.frozen? ⟨B, 0, none⟩ = false := by simp [World.frozen?, h]

set_option maxRecDepth 100000 in
set_option maxHeartbeats 4000000 in
theorem few09_any (l0 : List Bx) (A : Option Addr) (c : Nat) (seq cap : Int) (w : World) (hr0 : BxR w w.heap.size A l0) (hc0 : l0.length ≤ c) (hcm : c ≤ maxLen) (hs : ∀ x ∈ l0, x.f.data.size ≤ maxLen) :
    Calls Try.prog 42 #[.agg #[.slice A l0.length c, .int .i64 seq, .int .i64 cap]] w (FewBV l0 seq cap w) := by
  obtain ⟨l, hl⟩ : ∃ l, l = l0.take 12 := ⟨_, rfl⟩
  have hlen : l.length = min l0.length 12 := by rw [hl, List.length_take]; omega
  have hr : BxR w w.heap.size A l := by rw [hl]; exact BxR.take hr0 12
  have hsl : ∀ x ∈ l, x.f.data.size ≤ maxLen := fun f hf => hs f (by rw [hl] at hf; exact List.mem_of_mem_take hf)
  have HV : FewBV l0 seq cap w = fun e w' => ∃ A' c', e = .returned (.agg #[.slice A' l.length c', .int .i64 seq, .int .i64 cap]) ∧ BxR w' w'.heap.size A' (l.map cutBx) ∧ l.length ≤ c' ∧ Below w.heap.size w w' := by
    unfold FewBV cutB
    rw [← hl, List.length_map]
  rw [HV]
  obtain ⟨m, em, hm⟩ := run_min (P := Try.prog) (l0.length : Int) 12
  have em' : m = (l.length : Int) := by rw [em, hlen]; omega
  have hrun := run_to (P := Try.prog) 63 70 Try.underlying63 7 (fun W => by kernel_rfl) A l0.length c m l.length em' (by omega)
  subst em'
  have hl10 : l.length ≤ 12 := by omega
  clear hl hlen hr0 hs HV em
  have SL := hide hsl
  clear hsl
  have HR := hide hr
  have S1 := hide (show (([] : List (List Value)).length + (l.map bxc).length) * 48 ≤ 140737488355328 by simp; omega)
  have S2 := hide (show ([] : List (List Value)).length + (l.map bxc).length ≤ maxLen by simp [maxLen]; omega)
  have S3 := hide (show l.length = (l.map bxc).length by simp)
  clear hr
  obtain ⟨w1, hw1⟩ : ∃ w1, w1 = ((w.alloc (.cells #[.slice A l0.length c, .int .i64 seq, .int .i64 cap] 65)).alloc (.cells #[.slice none 0 0, .int .i64 0, .int .i64 0] 65)) := ⟨_, rfl⟩
  have e1 : w1.heap.size = w.heap.size + 2 := by rw [hw1]; simp
  have q1 : Below w.heap.size w w1 := by rw [hw1]; exact ((Below.refl _ _).alloc (Nat.le_refl _) _).alloc (by simp) _
  have B1 : w1.heap[w.heap.size]? = some (.cells #[.slice A l0.length c, .int .i64 seq, .int .i64 cap] 65 (0, 0)) := by
    rw [hw1, Below.heap_alloc _ _ _ (by simp)]; exact World.alloc_heap_new w _
  have B2 : w1.heap[w.heap.size + 1]? = some (.cells #[.slice none 0 0, .int .i64 0, .int .i64 0] 65 (0, 0)) := by
    have := World.alloc_heap_new (w.alloc (.cells #[.slice A l0.length c, .int .i64 seq, .int .i64 cap] 65)) (.cells #[.slice none 0 0, .int .i64 0, .int .i64 0] 65)
    rw [hw1]; simpa using this
  have O0 := hide (Own.lit w1 (w.heap.size + 2) 70 7 [] (by omega) (by simp) (by simp))
  rw [e1] at O0
  have q2 : Below w1.heap.size w1 (w1.alloc (.cells #[] 70)) := (Below.refl _ _).alloc (Nat.le_refl _) _
  have R0 := hide (Rd.next HR.out (below_next q1 q1.size q2) (below_next q1 q1.size q2).size)
  have C1 := hide (heap_below B1 q2)
  have C2 := hide (heap_below B2 q2)
  have Q2 := hide (below_next q1 q1.size q2)
  obtain ⟨x0, x1, x2⟩ := three_cells B1
  clear B1 B2 q1 q2 HR
  have hx0 : ((w.alloc (.cells #[.slice A l0.length c, .int .i64 seq, .int .i64 cap] 65)).alloc (.cells #[.slice none 0 0, .int .i64 0, .int .i64 0] 65)) = w1 := hw1.symm
  clear hw1
  go_enter Try.func42, Try.ntmps42
  go_wp2_with (at_builtin; refine wpList_append_rows _ rfl _ _ 63 rfl slBox (w.heap.size + 2) _ _ _ [] rfl O0.out _ _ _ (l.map bxc) rfl R0.out (bxc_rows l) (bxc_ones l) S1.out S2.out ?_ rfl S3.out ?_)
  · simp
    omega
  intro A4 n4 w4 o4 g4
  have q4 : Below w.heap.size w w4 := below_append Q2.out g4 O0.out (by omega) Q2.out.size
  have D1 := hide (heapB C1.out (below_own g4 O0.out (by simp; omega)) (by omega : w.heap.size < w.heap.size + 2))
  have D2 := hide (heapB C2.out (below_own g4 O0.out (by simp; omega)) (by omega : w.heap.size + 1 < w.heap.size + 2))
  have O4 : Hid (Own w4 (w.heap.size + 2) 70 7 A4 n4 ((cutBK l 0).map bxc)) := hide (by rw [cutBK_zero]; exact o4)
  clear x0 x1 x2 o4 g4 O0 R0 S1 S2 S3 C1 C2 Q2 hrun hm hx0
  obtain ⟨x0, x1, x2⟩ := three_cells D1.out
  have f0 := three_froz D1.out
  have zz : w.heap.size + 1 < w4.heap.size := heap_lt D2.out
  go_wp2_with fail
  have ST : Hid (F9 w l seq cap A4 n4 0 (w4.setCell ⟨w.heap.size, 0, none⟩ (.slice A4 l.length n4))) := hide ⟨by
      have := heap_setCell_same w4 w.heap.size 0 _ _ (.slice A4 l.length n4) D1.out
      simpa using this, by
      rw [heap_setCell_other w4 ⟨w.heap.size, 0, none⟩ _ _ (by simp)]
      exact D2.out, own_setj O4.out (by omega : w.heap.size < w.heap.size + 2) 0 (.slice A4 l.length n4), q4.setCell (Nat.le_refl _) _⟩
  clear x0 x1 x2 f0 D1 D2 O4 q4
  go_loopw [18] (fun i W => ∃ k : Nat, k ≤ l.length ∧ i = .int .i64 k ∧ Hid (F9 w l seq cap A4 n4 k W)) (fun i _ => l.length - (intOf i).toNat)
  case atStart => exact ⟨0, Nat.zero_le _, rfl, ST⟩
  case round =>
    clear ST zz
    obtain ⟨k, hk, rfl, hS⟩ := hrel
    have zz : w.heap.size + 1 < wr.heap.size := heap_lt hS.out.res
    by_cases hlt : k < l.length
    · obtain ⟨g, cg, hA, hg1, hg2⟩ := World.ownsRow.form hS.out.own (by rw [List.length_map, cutBK_len l k hk]; omega)
      simp only [Value.slice.injEq] at hA
      obtain ⟨rfl, _, rfl⟩ := hA
      have hkr : ((cutBK l k).map bxc)[k]? = some (bxc l[k]) := by rw [List.getElem?_map, cutBK_at l k hlt]; rfl
      have c0 := own_at hS.out.own (bxc_rows _) hkr (j := 0) rfl
      have c1 := own_at hS.out.own (bxc_rows _) hkr (j := 1) rfl
      have c2 := own_at hS.out.own (bxc_rows _) hkr (j := 2) rfl
      have c3 := own_at hS.out.own (bxc_rows _) hkr (j := 3) rfl
      have c4 := own_at hS.out.own (bxc_rows _) hkr (j := 4) rfl
      have c5 := own_at hS.out.own (bxc_rows _) hkr (j := 5) rfl
      have c6 := own_at hS.out.own (bxc_rows _) hkr (j := 6) rfl
      rw [Nat.add_zero] at c0
      have hsz := SL.out l[k] (List.getElem_mem hlt)
      have RW := hide (cutBK_rows l k hlt)
      have LK := hide (show ((cutBK l (k + 1)).map bxc).length = ((cutBK l k).map bxc).length by rw [List.length_map, List.length_map, cutBK_len l k hk, cutBK_len l (k + 1) (by omega)])
      have HKR := hide hkr
      clear hkr
      generalize l[k] = y at *
      obtain ⟨h, ⟨id, ext, rem, dlc, data⟩, s⟩ := y
      dsimp only at *
      unfold maxLen at hsz
      obtain ⟨m2, em2, hm2⟩ := run_min (P := Try.prog) (data.size : Int) 12
      obtain ⟨k2, hk2⟩ : ∃ k2 : Nat, k2 = min data.size 12 := ⟨_, rfl⟩
      have hmk : m2 = k2 := by omega
      subst hmk
      have hkl : k2 ≤ data.size := by omega
      rw [← hk2] at RW
      clear hk2 em2
      have hi1 : (k : Int) < (l.length : Int) := by omega
      go_wp2_with fail
      have qa : Below wr.heap.size wr (wr.alloc (.cells #[.int .i64 h, .int .u32 id, .bool ext, .bool rem, .int .i64 dlc, .string data, .int .i64 s] 70)) := (Below.refl _ _).alloc (Nat.le_refl _) _
      have H1 : Hid ((wr.alloc (.cells #[.int .i64 h, .int .u32 id, .bool ext, .bool rem, .int .i64 dlc, .string data, .int .i64 s] 70)).drew.heap[w.heap.size]? = _) := hide (heap_below hS.out.box qa.drew)
      have H4 : Hid ((wr.alloc (.cells #[.int .i64 h, .int .u32 id, .bool ext, .bool rem, .int .i64 dlc, .string data, .int .i64 s] 70)).drew.heap[wr.heap.size]? = _) := hide (World.alloc_heap_new wr (.cells #[.int .i64 h, .int .u32 id, .bool ext, .bool rem, .int .i64 dlc, .string data, .int .i64 s] 70))
      have H2 : Hid ((wr.alloc (.cells #[.int .i64 h, .int .u32 id, .bool ext, .bool rem, .int .i64 dlc, .string data, .int .i64 s] 70)).drew.heap[w.heap.size + 1]? = _) := hide (heap_below hS.out.res qa.drew)
      have OW : Hid (Own (wr.alloc (.cells #[.int .i64 h, .int .u32 id, .bool ext, .bool rem, .int .i64 dlc, .string data, .int .i64 s] 70)).drew _ _ _ _ _ _) := hide (hS.out.own.alloc (.cells #[.int .i64 h, .int .u32 id, .bool ext, .bool rem, .int .i64 dlc, .string data, .int .i64 s] 70)).drew
      have QW : Hid (Below w.heap.size w (wr.alloc (.cells #[.int .i64 h, .int .u32 id, .bool ext, .bool rem, .int .i64 dlc, .string data, .int .i64 s] 70)).drew) := hide (below_next hS.out.q hS.out.q.size qa).drew
      clear c0 c1 c2 c3 c4 c5 c6 hS qa
      refine wp_region_L [0, 1, 2, 3, 4, 5, 6, 7, 8, 9, 10, 11, 12, 13, 14] [(1, fun W => W.heap[w.heap.size]? = some (.cells #[.slice (some ⟨g, 0, none⟩) l.length n4, .int .i64 seq, .int .i64 cap] 65 (0, 0))), (5, fun W => W.heap[wr.heap.size]? = some (.cells #[.int .i64 h, .int .u32 id, .bool ext, .bool rem, .int .i64 dlc, .string data, .int .i64 s] 70 (0, 0))), (8, fun W => W.heap[wr.heap.size]? = some (.cells #[.int .i64 h, .int .u32 id, .bool ext, .bool rem, .int .i64 dlc, .string data, .int .i64 s] 70 (0, 0)))] (by kernel_rfl) ?_
      generalize (wr.alloc (.cells #[.int .i64 h, .int .u32 id, .bool ext, .bool rem, .int .i64 dlc, .string data, .int .i64 s] 70)).drew = W6 at *
      refine wpAnyL_pure (i := 0) (v := .pointer (some ⟨w.heap.size, 0, none⟩)) rfl rfl (by kernel_rfl) (by kernel_rfl) (by kernel_rfl) (by kernel_rfl) (by kernel_rfl) (fun _ _ _ h => h) rfl (fun W => by go_simp) ?_
      go_simp
      refine wpAnyL_load (i := 1) (v := .slice (some ⟨g, 0, none⟩) l.length n4) rfl rfl (by kernel_rfl) (by kernel_rfl) (by kernel_rfl) (by kernel_rfl) (by kernel_rfl) (fun _ _ _ h => h) rfl (fun W h => by (have hc0 : W.cell? ⟨w.heap.size, 0, none⟩ = some (.slice (some ⟨g, 0, none⟩) l.length n4) := by simp [World.cell?, h]); clear h; go_simp) (H1.out) ?_
      go_simp
      refine wpAnyL_pure (i := 2) (v := .int .i64 k) rfl rfl (by kernel_rfl) (by kernel_rfl) (by kernel_rfl) (by kernel_rfl) (by kernel_rfl) (fun _ _ _ h => h) rfl (fun W => by go_simp) ?_
      go_simp
      refine wpAnyL_pure (i := 3) (v := .pointer (some ⟨wr.heap.size, 1, none⟩)) rfl rfl (by kernel_rfl) (by kernel_rfl) (by kernel_rfl) (by kernel_rfl) (by kernel_rfl) (fun _ _ _ h => h) rfl (fun W => by go_simp) ?_
      go_simp
      refine wpAnyL_pure (i := 4) (v := .pointer (some ⟨wr.heap.size, 5, none⟩)) rfl rfl (by kernel_rfl) (by kernel_rfl) (by kernel_rfl) (by kernel_rfl) (by kernel_rfl) (fun _ _ _ h => h) rfl (fun W => by go_simp) ?_
      go_simp
      refine wpAnyL_load (i := 5) (v := .string data) rfl rfl (by kernel_rfl) (by kernel_rfl) (by kernel_rfl) (by kernel_rfl) (by kernel_rfl) (fun _ _ _ h => h) rfl (fun W h => by (have hc0 : W.cell? ⟨wr.heap.size, 5, none⟩ = some (.string data) := by simp [World.cell?, h]); clear h; go_simp) (H4.out) ?_
      go_simp
      refine wpAnyL_pure (i := 6) (v := .pointer (some ⟨wr.heap.size, 1, none⟩)) rfl rfl (by kernel_rfl) (by kernel_rfl) (by kernel_rfl) (by kernel_rfl) (by kernel_rfl) (fun _ _ _ h => h) rfl (fun W => by go_simp) ?_
      go_simp
      refine wpAnyL_pure (i := 7) (v := .pointer (some ⟨wr.heap.size, 5, none⟩)) rfl rfl (by kernel_rfl) (by kernel_rfl) (by kernel_rfl) (by kernel_rfl) (by kernel_rfl) (fun _ _ _ h => h) rfl (fun W => by go_simp) ?_
      go_simp
      refine wpAnyL_load (i := 8) (v := .string data) rfl rfl (by kernel_rfl) (by kernel_rfl) (by kernel_rfl) (by kernel_rfl) (by kernel_rfl) (fun _ _ _ h => h) rfl (fun W h => by (have hc0 : W.cell? ⟨wr.heap.size, 5, none⟩ = some (.string data) := by simp [World.cell?, h]); clear h; go_simp) (H4.out) ?_
      go_simp
      refine wpAnyL_pure (i := 9) (v := .int .i64 data.size) rfl rfl (by kernel_rfl) (by kernel_rfl) (by kernel_rfl) (by kernel_rfl) (by kernel_rfl) (fun _ _ _ h => h) rfl (fun W => by go_simp) ?_
      go_simp
      refine wpAnyL_pure (i := 10) (v := .int .i64 k2) rfl rfl (by kernel_rfl) (by kernel_rfl) (by kernel_rfl) (by kernel_rfl) (by kernel_rfl) (fun _ _ _ h => h) rfl (fun W => by go_simp) ?_
      go_simp
      refine wpAnyL_pure (i := 11) (v := .string (data.extract 0 k2)) rfl rfl (by kernel_rfl) (by kernel_rfl) (by kernel_rfl) (by kernel_rfl) (by kernel_rfl) (fun _ _ _ h => h) rfl (fun W => by go_simp) ?_
      go_simp
      refine wpAnyL_pure (i := 12) (v := .pointer (some ⟨g, k * 7, none⟩)) rfl rfl (by kernel_rfl) (by kernel_rfl) (by kernel_rfl) (by kernel_rfl) (by kernel_rfl) (fun _ _ _ h => h) rfl (fun W => by go_simp) ?_
      go_simp
      refine wpAnyL_pure (i := 13) (v := .pointer (some ⟨g, k * 7 + 1, none⟩)) rfl rfl (by kernel_rfl) (by kernel_rfl) (by kernel_rfl) (by kernel_rfl) (by kernel_rfl) (fun _ _ _ h => h) rfl (fun W => by go_simp) ?_
      go_simp
      refine wpAnyL_pure (i := 14) (v := .pointer (some ⟨g, k * 7 + 5, none⟩)) rfl rfl (by kernel_rfl) (by kernel_rfl) (by kernel_rfl) (by kernel_rfl) (by kernel_rfl) (fun _ _ _ h => h) rfl (fun W => by go_simp) ?_
      go_simp
      have z4 := World.ownsRow.frozenAt OW.out (k * 7 + 5)
      have hkr : ((cutBK l k).map bxc)[k]? = some (bxc ⟨h, ⟨id, ext, rem, dlc, data⟩, s⟩) := HKR.out
      have z5 := own_at OW.out (bxc_rows _) hkr (j := 5) rfl
      clear hkr
      refine wpAnyL_one (i := 15) (by kernel_rfl) ?_
      refine wpOp_do rfl rfl ?_
      go_simp
      have FIN : Hid (F9 w l seq cap (some ⟨g, 0, none⟩) n4 (k + 1) (W6.setCell ⟨g, k * 7 + 5, none⟩ (.string (data.extract 0 k2)))) := hide (by
        obtain ⟨s1, s2⟩ := World.ownsRow.stored OW.out (k * 7 + 5) (.string (data.extract 0 k2))
        rw [← RW.out] at s1
        exact ⟨by rw [heap_setCell_other _ _ _ _ (by simp; omega)]; exact H1.out, by rw [heap_setCell_other _ _ _ _ (by simp; omega)]; exact H2.out, by unfold Own; rw [LK.out]; exact s1, QW.out.setCell (by simp; omega) _⟩)
      clear z4 z5 H1 H2 H4 OW QW
      refine ⟨keepsL_all (by kernel_rfl) (by kernel_rfl), ?_⟩
      refine wpAnyL_done (by kernel_rfl) ?_ _
      go_wp2
      go_roundw
      case rel => exact ⟨k + 1, by omega, by go_num, FIN⟩
      case measure => simp [intOf]; omega
    · obtain rfl : k = l.length := by omega
      have R4 := hS.out.own.rd (bxc_rows _)
      rw [cutBK_full] at R4
      have R4 := hide R4
      have hle : l.length ≤ n4 := by have := hS.out.own.le; rw [List.length_map, cutBK_len l _ hk] at this; exact this
      obtain ⟨x0, x1, x2⟩ := three_cells hS.out.box
      go_wp2_with (refine wpList_store_hid (by rfl) 65 (.tmp 2) (.tmp 39) (by rfl) (w.heap.size + 1) 0 [.slice A4 l.length n4, .int .i64 seq, .int .i64 cap] (by rfl) (by rfl) (by exact three_freeB hS.out.res) (by kernel_rfl) (by simp [Value.oneCell']) ?_)
      intro W7 e7
      have C7 := whole_heap [.slice A4 l.length n4, .int .i64 seq, .int .i64 cap] (xs := [_, _, _]) hS.out.res rfl
      have o7 := own_setCells (x := w.heap.size + 1) (by omega) [.slice A4 l.length n4, .int .i64 seq, .int .i64 cap] 0 _ hS.out.own
      have q7 := hS.out.q.trans (below_setCells (g := w.heap.size + 1) [.slice A4 l.length n4, .int .i64 seq, .int .i64 cap] 0 wr (by omega))
      rw [← e7.out] at C7 o7 q7
      rw [cutBK_full] at o7
      have O7 := hide o7
      obtain ⟨y0, y1, y2⟩ := three_cells C7
      clear e7 x0 x1 x2 R4 hS C7 o7
      go_wp2
      refine bodyPost_ret (v := .agg #[.slice A4 l.length n4, .int .i64 seq, .int .i64 cap]) (by simp [results, Try.results42, go_sem, y0, y1, y2]) rfl ⟨A4, n4, rfl, O7.out.rd (bxc_rows _), hle, q7⟩
end Go.Proofs.Ytbdgifngldipcaa
