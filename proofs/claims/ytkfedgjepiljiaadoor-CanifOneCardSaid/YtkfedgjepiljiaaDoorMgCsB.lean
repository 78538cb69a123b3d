/- The walk of ctl.read. -/
import Derived.Test.YtkfedgjepiljiaaDoorMgRdD
import Derived.Test.YtkfedgjepiljiaaDoorMgRdF
import Derived.Test.YtkfedgjepiljiaaDoorRdQ
namespace Go.Proofs.YtkfedgjepiljiaaDoor
open Go.ChangeShapes Go.WideShapes Go.ChangeAt Go.RowKit
open FP (uN uK RS rsStep rs0 rsOf)

/-- What read holds: its result's block, what stuffing knows, the row. -/
structure RkM (w : World) (last : UInt8) (n : Nat) (got : List UInt8) (A : Option Addr) (c : Nat) (W : World) : Prop where
  q : Below w.heap.size w W
  r : W.heap[w.heap.size]? = some (.cells #[.int .u8 0, .int .i64 0] 38 (0, 0))
  x : W.heap[w.heap.size + 1]? = some (.cells #[.int .u8 last.toNat, .int .i64 n] 38 (0, 0))
  o : Own W (w.heap.size + 2) 5 1 A c (byRow got)
theorem RkM.lt {w W : World} {last : UInt8} {n : Nat} {got : List UInt8} {A : Option Addr} {c : Nat} (h : RkM w last n got A c W) : w.heap.size + 1 < W.heap.size := heap_lt h.x
theorem RkM.below {w W W' : World} {last : UInt8} {n : Nat} {got : List UInt8} {A : Option Addr} {c : Nat} (h : RkM w last n got A c W) (q : Below W.heap.size W W') : RkM w last n got A c W' :=
  ⟨below_next h.q h.q.size q, heap_below h.r q, heap_below h.x q, h.o.grown q⟩
theorem RkM.set {w W : World} {last : UInt8} {n : Nat} {got : List UInt8} {A : Option Addr} {c : Nat} (h : RkM w last n got A c W) (last' : UInt8) (n' : Nat) : RkM w last' n' got A c (W.setCells (w.heap.size + 1) 0 [.int .u8 last'.toNat, .int .i64 n']) :=
  ⟨h.q.trans (below_setCells _ 0 W (by omega)), other_heap (by omega) _ _ _ h.r, whole_heap _ (xs := [.int .u8 last.toNat, .int .i64 n]) h.x rfl, own_setCells (by omega) _ _ _ h.o⟩
theorem RkM.drew {w W : World} {last : UInt8} {n : Nat} {got : List UInt8} {A : Option Addr} {c : Nat} (h : RkM w last n got A c W) : RkM w last n got A c W.drew := ⟨h.q.drew, h.r, h.x, h.o.drew⟩
theorem RkM.new (w : World) : RkM w 0 0 [] none 0 ((w.alloc (.cells #[.int .u8 0, .int .i64 0] 38)).alloc (.cells #[.int .u8 0, .int .i64 0] 38)) := by
  refine ⟨((Below.refl _ _).alloc (Nat.le_refl _) _).alloc (by simp) _, (two_new _ _ _).1, (two_new _ _ _).2, ?_⟩
  exact Own.nil

set_option maxRecDepth 100000 in
set_option maxHeartbeats 8000000 in
theorem ctlRead_any (s : ByteArray) (w : World) (hb : ∀ c ∈ s.data.toList, c = 48 ∨ c = 49) (hs : s.size ≤ 4000) :
    Calls Tryd.prog 47 #[.string s] w fun e w' => e = .returned (.tuple #[.agg #[.int .u8 (rsOf s.data.toList).last.toNat, .int .i64 ((rsOf s.data.toList).n : Nat)], .string ⟨(rsOf s.data.toList).got.toArray⟩]) ∧ Below w.heap.size w w' := by
  have LS := hide (show s.data.toList.length = s.size from Array.length_toList)
  have BT := hide (fun j (hj : j < s.size) => show s[j] = 48 ∨ s[j] = 49 from hb _ (List.getElem_mem (l := s.data.toList) (by rw [LS.out]; exact hj)))
  have TK := hide (fun j (hj : j < s.size) => show rsOf (s.data.toList.take (j + 1)) = rsStep (rsOf (s.data.toList.take j)) s[j] from by
    rw [List.take_succ_eq_append_getElem (by rw [LS.out]; exact hj), FP.rsOf_snoc]; rfl)
  have E := hide (show s.data.toList.take s.size = s.data.toList from List.take_of_length_le (by rw [LS.out]; exact Nat.le_refl _))
  have M0 := hide (RkM.new w)
  obtain ⟨R, hR0⟩ : ∃ R, R = rsOf s.data.toList := ⟨_, rfl⟩
  rw [← hR0]
  have HR0 := hide hR0
  clear hb hR0
  go_enter Tryd.func47, Tryd.ntmps47
  go_wp2_with fail
  go_loopw [5, 12] (fun vs vi W => ∃ (k : Nat) (A : Option Addr) (c : Nat) (last : UInt8) (n : Nat) (got : List UInt8), k ≤ s.size ∧ vi = .int .i64 k ∧ vs = .slice A got.length c ∧ Hid (rsOf (s.data.toList.take k) = ⟨last, n, got⟩) ∧ Hid (StK last n ∧ got.length ≤ k) ∧ Hid (RkM w last n got A c W)) (fun _ vi _ => s.size - (intOf vi).toNat)
  case atStart => exact ⟨0, none, 0, 0, 0, [], Nat.zero_le _, rfl, rfl, hide rfl, hide ⟨.inl ⟨rfl, rfl⟩, Nat.le_refl _⟩, M0⟩
  case round =>
    clear M0
    obtain ⟨k, A, c, last, n, got, hk, rfl, rfl, hR, hI, hM⟩ := hrel
    by_cases hlt : k < s.size
    · have hc := BT.out k hlt
      have hR2 := TK.out k hlt
      rw [hR.out] at hR2
      have HR2 := hide hR2
      have hI2 := hide (hI.out.1.step hc)
      have hk' : (k : Int) < s.size := by omega
      clear hR hR2
      go_upto_region 6 with fail
      go_cut [7, 8, 9] (fun vy vk vz W => ∃ y, vy = .pointer (some ⟨y, 0, none⟩) ∧ vk = .int .i64 (uK last n s[k] : Nat) ∧ vz = .int .i64 0 ∧ Hid (RkM w last n got A c W) ∧ Hid (W.heap[y]? = some (.cells #[.int .u8 s[k].toNat, .int .i64 (uN last n s[k] : Nat)] 38 (0, 0))))
      case first =>
        have ST := hide (fun W => stStep_any last n s[k] W hI.out.1 hc)
        go_wp2_with fail
        refine wp_region_L [0, 1, 2, 3, 5, 6, 7, 8] [(0, fun W => W.heap[w.heap.size + 1]? = some (.cells #[.int .u8 last.toNat, .int .i64 n] 38 (0, 0)))] (by kernel_rfl) ?_
        have hM' := hide (hM.out.drew)
        clear hM
        have hM := hM'
        clear hM' hI HR2 hI2 hc
        generalize wr.drew = w4 at *
        refine wpAnyL_load (i := 0) (v := .agg #[.int .u8 last.toNat, .int .i64 n]) rfl rfl (by kernel_rfl) (by kernel_rfl) (by kernel_rfl) (by kernel_rfl) (by kernel_rfl) (fun _ _ _ h => h) rfl (fun W h => exec_heap W (w.heap.size + 1) 38 _ _ h Tryd.underlying38 rfl (by kernel_rfl) _ _ (.tmp 4) (by rfl) (by rfl)) (hM.out.x) ?_
        go_simp
        refine wpAnyL_pure (i := 1) (v := .string s) rfl rfl (by kernel_rfl) (by kernel_rfl) (by kernel_rfl) (by kernel_rfl) (by kernel_rfl) (fun _ _ _ h => h) rfl (fun W => by go_simp) ?_
        go_simp
        refine wpAnyL_pure (i := 2) (v := .int .i64 k) rfl rfl (by kernel_rfl) (by kernel_rfl) (by kernel_rfl) (by kernel_rfl) (by kernel_rfl) (fun _ _ _ h => h) rfl (fun W => by go_simp) ?_
        go_simp
        refine wpAnyL_pure (i := 3) (v := .int .u8 s[k].toNat) rfl rfl (by kernel_rfl) (by kernel_rfl) (by kernel_rfl) (by kernel_rfl) (by kernel_rfl) (fun _ _ _ h => h) rfl (fun W => by go_simp) ?_
        go_simp
        refine wpAnyL_two (i := 4) (k := 9) (by kernel_rfl) ?_ ?_
        · refine wpOp_do rfl rfl ?_
          go_simp
          (with_reducible refine (ST.out _).mono ?_)
          rintro e5 w5 ⟨rfl, q5⟩
          have M5 := hide (hM.out.below q5)
          clear q5 hM
          go_simp
          refine ⟨keepsL_mk (by kernel_rfl) (.cons M5.out.x .nil), ?_⟩
          refine wpAnyL_pure (i := 5) (v := .tuple #[.agg #[.int .u8 s[k].toNat, .int .i64 (uN last n s[k] : Nat)], .int .i64 (uK last n s[k] : Nat), .int .i64 0]) rfl rfl (by kernel_rfl) (by kernel_rfl) (by kernel_rfl) (by kernel_rfl) (by kernel_rfl) (fun _ _ _ h => h) rfl (fun W => by go_simp) ?_
          go_simp
          refine wpAnyL_pure (i := 6) (v := .agg #[.int .u8 s[k].toNat, .int .i64 (uN last n s[k] : Nat)]) rfl rfl (by kernel_rfl) (by kernel_rfl) (by kernel_rfl) (by kernel_rfl) (by kernel_rfl) (fun _ _ _ h => h) rfl (fun W => by go_simp) ?_
          go_simp
          refine wpAnyL_pure (i := 7) (v := .int .i64 (uK last n s[k] : Nat)) rfl rfl (by kernel_rfl) (by kernel_rfl) (by kernel_rfl) (by kernel_rfl) (by kernel_rfl) (fun _ _ _ h => h) rfl (fun W => by go_simp) ?_
          go_simp
          refine wpAnyL_pure (i := 8) (v := .int .i64 0) rfl rfl (by kernel_rfl) (by kernel_rfl) (by kernel_rfl) (by kernel_rfl) (by kernel_rfl) (fun _ _ _ h => h) rfl (fun W => by go_simp) ?_
          go_simp
          refine wpAnyL_one (i := 9) (by kernel_rfl) ?_
          refine wpOp_do rfl rfl ?_
          go_simp
          have al := (Below.refl w5.heap.size w5).alloc (Nat.le_refl _) (.cells #[.int .u8 0, .int .i64 0] 38)
          have M6 := hide (M5.out.below al)
          have F6 := hide (World.alloc_heap_new w5 (.cells #[.int .u8 0, .int .i64 0] 38))
          refine ⟨keepsL_mk (by kernel_rfl) (.cons M6.out.x .nil), ?_⟩
          refine wpAnyL_one (i := 10) (by kernel_rfl) ?_
          refine wpOp_do rfl rfl ?_
          refine wp_store_as 38 (.tmp 7) (.tmp 21) rfl w5.heap.size 0 [.int .u8 s[k].toNat, .int .i64 (uN last n s[k] : Nat)] (by rfl) (by rfl) (by exact (show World.there _ w5.heap.size 0 2 from there_heap (cs := [_, _]) F6.out)) (by kernel_rfl) (by simp [Value.oneCell']) ?_
          intro W7 e7
          have F7 := whole_heap [.int .u8 s[k].toNat, .int .i64 (uN last n s[k] : Nat)] (xs := [_, _]) F6.out rfl
          have M7 := M5.out.below (al.trans (below_setCells (g := w5.heap.size) [.int .u8 s[k].toNat, .int .i64 (uN last n s[k] : Nat)] 0 _ (Nat.le_refl _)))
          rw [← e7] at F7 M7
          have F8 := hide F7
          have M8 := hide M7
          clear F7 M7 e7 F6 M6
          refine ⟨keepsL_all (by kernel_rfl) (by kernel_rfl), ?_⟩
          refine wpAnyL_one (i := 11) (by kernel_rfl) ?_
          refine wpOp_do rfl rfl ?_
          go_simp
          refine ⟨keepsL_all (by kernel_rfl) (by kernel_rfl), ?_⟩
          refine wpAnyL_one (i := 12) (by kernel_rfl) ?_
          refine wpOp_do rfl rfl ?_
          go_simp
          refine ⟨keepsL_all (by kernel_rfl) (by kernel_rfl), ?_⟩
          refine wpAnyL_done (by kernel_rfl) ?_ _
          go_wp2_with fail
          go_meet
          exact ⟨w5.heap.size, rfl, rfl, rfl, M8, F8⟩
        · refine wpOp_do rfl rfl ?_
          go_simp
          have al := (Below.refl w4.heap.size w4).alloc (Nat.le_refl _) (.cells #[.int .u8 0, .int .i64 0] 38)
          have M5 := hide (hM.out.below al)
          have F5 := hide (World.alloc_heap_new w4 (.cells #[.int .u8 0, .int .i64 0] 38))
          refine ⟨keepsL_mk (by kernel_rfl) (.cons M5.out.x .nil), ?_⟩
          refine wpAnyL_one (i := 4) (by kernel_rfl) ?_
          refine wpOp_do rfl rfl ?_
          go_simp
          (with_reducible refine (ST.out _).mono ?_)
          rintro e6 w6 ⟨rfl, q6⟩
          have M6 := hide (M5.out.below q6)
          have F6 := hide (heap_below F5.out q6)
          have ch := hide (al.trans (q6.mono (by simp)))
          clear q6 M5 F5 al
          go_simp
          refine ⟨keepsL_mk (by kernel_rfl) (.cons M6.out.x .nil), ?_⟩
          refine wpAnyL_pure (i := 5) (v := .tuple #[.agg #[.int .u8 s[k].toNat, .int .i64 (uN last n s[k] : Nat)], .int .i64 (uK last n s[k] : Nat), .int .i64 0]) rfl rfl (by kernel_rfl) (by kernel_rfl) (by kernel_rfl) (by kernel_rfl) (by kernel_rfl) (fun _ _ _ h => h) rfl (fun W => by go_simp) ?_
          go_simp
          refine wpAnyL_pure (i := 6) (v := .agg #[.int .u8 s[k].toNat, .int .i64 (uN last n s[k] : Nat)]) rfl rfl (by kernel_rfl) (by kernel_rfl) (by kernel_rfl) (by kernel_rfl) (by kernel_rfl) (fun _ _ _ h => h) rfl (fun W => by go_simp) ?_
          go_simp
          refine wpAnyL_pure (i := 7) (v := .int .i64 (uK last n s[k] : Nat)) rfl rfl (by kernel_rfl) (by kernel_rfl) (by kernel_rfl) (by kernel_rfl) (by kernel_rfl) (fun _ _ _ h => h) rfl (fun W => by go_simp) ?_
          go_simp
          refine wpAnyL_pure (i := 8) (v := .int .i64 0) rfl rfl (by kernel_rfl) (by kernel_rfl) (by kernel_rfl) (by kernel_rfl) (by kernel_rfl) (fun _ _ _ h => h) rfl (fun W => by go_simp) ?_
          go_simp
          refine wpAnyL_one (i := 10) (by kernel_rfl) ?_
          refine wpOp_do rfl rfl ?_
          refine wp_store_as 38 (.tmp 7) (.tmp 21) rfl w4.heap.size 0 [.int .u8 s[k].toNat, .int .i64 (uN last n s[k] : Nat)] (by rfl) (by rfl) (by exact (show World.there _ w4.heap.size 0 2 from there_heap (cs := [_, _]) F6.out)) (by kernel_rfl) (by simp [Value.oneCell']) ?_
          intro W7 e7
          have F7 := whole_heap [.int .u8 s[k].toNat, .int .i64 (uN last n s[k] : Nat)] (xs := [_, _]) F6.out rfl
          have M7 := hM.out.below (ch.out.trans (below_setCells (g := w4.heap.size) [.int .u8 s[k].toNat, .int .i64 (uN last n s[k] : Nat)] 0 _ (Nat.le_refl _)))
          rw [← e7] at F7 M7
          have F8 := hide F7
          have M8 := hide M7
          clear F7 M7 e7 F6 M6
          refine ⟨keepsL_all (by kernel_rfl) (by kernel_rfl), ?_⟩
          refine wpAnyL_one (i := 11) (by kernel_rfl) ?_
          refine wpOp_do rfl rfl ?_
          go_simp
          refine ⟨keepsL_all (by kernel_rfl) (by kernel_rfl), ?_⟩
          refine wpAnyL_one (i := 12) (by kernel_rfl) ?_
          refine wpOp_do rfl rfl ?_
          go_simp
          refine ⟨keepsL_all (by kernel_rfl) (by kernel_rfl), ?_⟩
          refine wpAnyL_done (by kernel_rfl) ?_ _
          go_wp2_with fail
          go_meet
          exact ⟨w4.heap.size, rfl, rfl, rfl, M8, F8⟩
      case rest =>
      clear hM
      obtain ⟨y, rfl, rfl, rfl, hM, hY⟩ := hcut
      obtain ⟨y0, y1, _⟩ := two_st hY.out
      go_wp2_with (refine wpList_store_hid (by rfl) 38 (.tmp 4) (.tmp 24) (by rfl) (w.heap.size + 1) 0 [.int .u8 s[k].toNat, .int .i64 (uN last n s[k] : Nat)] (by rfl) (by rfl) (by exact (show World.there _ (w.heap.size + 1) 0 2 from there_heap (cs := [_, _]) hM.out.x)) (by kernel_rfl) (by simp [Value.oneCell']) ?_)
      intro W2 e2
      have M2 := hM.out.set s[k] (uN last n s[k])
      rw [← e2.out] at M2
      replace M2 := hide M2
      clear e2 hM hY y0 y1
      have hl2 := hI.out.2
      by_cases hk1 : uK last n s[k] = 1
      · have HR3 : Hid (rsOf (s.data.toList.take (k + 1)) = ⟨s[k], uN last n s[k], got ++ [s[k]]⟩) := by
          have := HR2.out
          unfold rsStep at this
          dsimp only at this
          rw [hk1, if_pos rfl] at this
          exact hide this
        rw [hk1]
        have OA := hide (M2.out.o.alloc (.cells #[.int .u8 s[k].toNat] 5))
        have R6 := hide (fun t => rd_row (cs := [.int .u8 s[k].toNat]) (World.alloc_heap_new W2 (.cells #[.int .u8 s[k].toNat] t)))
        have E1 := hide (show ((byRow got).length + [([.int .u8 s[k].toNat] : List Value)].length) * 1 ≤ 140737488355328 by rw [byRow_len]; simp; omega)
        have E2 := hide (show (byRow got).length + [([.int .u8 s[k].toNat] : List Value)].length ≤ maxLen by rw [byRow_len]; simp [maxLen]; omega)
        have E3 := hide (show got.length = (byRow got).length by rw [byRow_len])
        have hm2 := M2.out.lt
        clear HR2 hI
        go_wp2_with (at_builtin; refine wpList_append_rows _ rfl _ _ 108 rfl slByte (w.heap.size + 2) _ _ _ (byRow got) (by rfl) (by exact OA.out) _ _ _ [[.int .u8 s[k].toNat]] (by rfl) (by simpa using R6.out _) (by simp) (by simp [Value.oneCell']) (by exact E1.out) (by exact E2.out) (by simp; omega) (by exact E3.out) (by rfl) ?_)
        intro A6 c6 W6 o6 g6
        have M6 : Hid (RkM w s[k] (uN last n s[k]) (got ++ [s[k]]) A6 c6 W6) := by
          have key : ∀ z, (Value.slice A got.length c).ownBlock = some z → w.heap.size + 2 ≤ z := fun z hz => by
            have hz' : (Value.slice A (byRow got).length c).ownBlock = some z := by rw [← hz]; cases A <;> rfl
            exact (World.ownsRow.lt OA.out z hz').1
          have up : ∀ {z o}, W2.heap[z]? = some o → (W2.alloc (.cells #[.int .u8 s[k].toNat] 5)).heap[z]? = some o := fun h => heap_below h ((Below.refl _ _).alloc (Nat.le_refl _) _)
          exact hide ⟨below_append (M2.out.q.alloc (by omega) (.cells #[.int .u8 s[k].toNat] 5)) g6 OA.out (show w.heap.size ≤ w.heap.size + 2 by omega) (by simp; omega), heap_grownB (up M2.out.r) g6 (fun h => absurd (key _ h) (by omega)), heap_grownB (up M2.out.x) g6 (fun h => absurd (key _ h) (by omega)), by rw [byRow_snoc]; exact o6⟩
        clear o6 g6 OA R6 E1 E2 E3 M2
        go_wp2_with fail
        go_roundw
        case rel => exact ⟨k + 1, A6, c6, s[k], uN last n s[k], got ++ [s[k]], by omega, by go_num, by simp, HR3, hide ⟨hI2.out, by simp; omega⟩, M6⟩
        case measure => simp [intOf]; omega
      · have HR3 : Hid (rsOf (s.data.toList.take (k + 1)) = ⟨s[k], uN last n s[k], got⟩) := by
          have := HR2.out
          unfold rsStep at this
          dsimp only at this
          rw [if_neg hk1] at this
          exact hide this
        have hk2 : ((uK last n s[k] : Int) == 1) = false := by rw [beq_eq_false_iff_ne]; omega
        clear HR2 hI hk1
        go_wp2_with fail
        go_roundw
        case rel => exact ⟨k + 1, A, c, s[k], uN last n s[k], got, by omega, by go_num, rfl, HR3, hide ⟨hI2.out, by omega⟩, M2⟩
        case measure => simp [intOf]; omega
    · obtain rfl : k = s.size := by omega
      rw [E.out] at hR
      have HRR := hide (HR0.out.trans hR.out)
      clear hR TK HR0
      go_wp2_with fail
      refine wp_region_L [0, 1, 2] [(0, fun W => W.heap[w.heap.size + 1]? = some (.cells #[.int .u8 last.toNat, .int .i64 n] 38 (0, 0))), (2, fun W => Own W (w.heap.size + 2) 5 1 A c (byRow got))] (by kernel_rfl) ?_
      have hM' := hide (hM.out.drew)
      clear hM
      have hM := hM'
      clear hM'
      generalize wr.drew = w4 at *
      refine wpAnyL_load (i := 0) (v := .agg #[.int .u8 last.toNat, .int .i64 n]) rfl rfl (by kernel_rfl) (by kernel_rfl) (by kernel_rfl) (by kernel_rfl) (by kernel_rfl) (fun _ _ _ h => h) rfl (fun W h => exec_heap W (w.heap.size + 1) 38 _ _ h Tryd.underlying38 rfl (by kernel_rfl) _ _ (.tmp 4) (by rfl) (by rfl)) (hM.out.x) ?_
      go_simp
      refine wpAnyL_pure (i := 1) (v := .slice A got.length c) rfl rfl (by kernel_rfl) (by kernel_rfl) (by kernel_rfl) (by kernel_rfl) (by kernel_rfl) (fun _ _ _ h => h) rfl (fun W => by go_simp) ?_
      go_simp
      refine wpAnyL_load (i := 2) (v := .string ⟨got.toArray⟩) rfl rfl (by kernel_rfl) (by kernel_rfl) (by kernel_rfl) (by kernel_rfl) (by kernel_rfl) (fun _ _ _ h => h) rfl (fun W h => by (have hcv := run_bytes_own (P := Tryd.prog) W 108 9 5 Tryd.underlying108 Tryd.underlying5 Tryd.underlying9 h got.length rfl; clear h; go_simp)) (hM.out.o) ?_
      go_simp
      refine wpAnyL_one (i := 3) (by kernel_rfl) ?_
      refine wpOp_do rfl rfl ?_
      refine wp_store_as 38 (.tmp 2) (.tmp 34) rfl w.heap.size 0 [.int .u8 last.toNat, .int .i64 n] (by rfl) (by rfl) (by exact (show World.there _ w.heap.size 0 2 from there_heap (cs := [_, _]) hM.out.r)) (by kernel_rfl) (by simp [Value.oneCell']) ?_
      intro W7 e7
      have F7 := hide (show W7.heap[w.heap.size]? = some (.cells #[.int .u8 last.toNat, .int .i64 n] 38 (0, 0)) by rw [e7]; exact whole_heap [.int .u8 last.toNat, .int .i64 n] (xs := [_, _]) hM.out.r rfl)
      have Q7 := hide (show Below w.heap.size w W7 by rw [e7]; exact hM.out.q.trans (below_setCells _ _ _ (Nat.le_refl _)))
      have O7 := hide (show Own W7 (w.heap.size + 2) 5 1 A c (byRow got) by rw [e7]; exact own_setCells (by omega) _ _ _ hM.out.o)
      clear e7
      refine ⟨keepsL_mk (by kernel_rfl) (.past (by kernel_rfl) (.cons O7.out .nil)), ?_⟩
      go_simp
      refine wpAnyL_one (i := 4) (by kernel_rfl) ?_
      refine wpOp_do rfl rfl ?_
      go_simp
      refine ⟨keepsL_all (by kernel_rfl) (by kernel_rfl), ?_⟩
      refine wpAnyL_done (by kernel_rfl) ?_ _
      go_wp2_with fail
      refine bodyPost_ret (results_cell_tmp (by rfl) _ W7 w.heap.size 38 #[.int .u8 last.toNat, .int .i64 n] (0, 0) _ (.string ⟨got.toArray⟩) (by rfl) (by rfl) F7.out Tryd.underlying38 (by rfl) (by kernel_rfl)) rfl ⟨by rw [HRR.out], Q7.out⟩
end Go.Proofs.YtkfedgjepiljiaaDoor

/- Plain laws of frames and their bits: back and forth, broken off, turned. -/
namespace Go.Proofs.YtkfedgjepiljiaaDoor.FP

/-- A row with a bit turned. -/
def turnF (l : List UInt8) (i : Nat) : List UInt8 := l.take i ++ (if l[i]? = some 48 then 49 else 48) :: l.drop (i + 1)
theorem turn_len {l : List UInt8} {i : Nat} (h : i < l.length) : (turnF l i).length = l.length := by
  unfold turnF; simp; omega
theorem turn_at {l : List UInt8} {i : Nat} (h : i < l.length) : (turnF l i)[i]? = some (if l[i]? = some 48 then 49 else 48) := by
  unfold turnF
  rw [List.getElem?_append_right (by rw [List.length_take]; omega), List.length_take, show i - min i l.length = 0 by omega]
  rfl
theorem turn_app {a : List UInt8} (r : List UInt8) (i : Nat) : turnF (a ++ r) (a.length + i) = a ++ turnF r i := by
  unfold turnF
  rw [List.take_append, List.getElem?_append_right (by omega), List.drop_append, List.take_of_length_le (by omega), show a.length + i - a.length = i by omega,
    List.drop_of_length_le (by omega), show a.length + i + 1 - a.length = i + 1 by omega]
  simp
theorem turn_bits {l : List UInt8} {i : Nat} (hl : ∀ c ∈ l, c = 48 ∨ c = 49) : ∀ c ∈ turnF l i, c = 48 ∨ c = 49 := by
  intro c hc
  unfold turnF at hc
  rw [List.mem_append, List.mem_cons] at hc
  rcases hc with hc | rfl | hc
  · exact hl c (List.mem_of_mem_take hc)
  · split <;> simp
  · exact hl c (List.mem_of_mem_drop hc)

theorem tail_shift (a r : List UInt8) : ∀ j, tailE (a ++ r) a.length j = tailE r 0 j
  | 0 => rfl
  | j + 1 => by
    unfold tailE
    rw [List.length_append, List.getElem?_append_right (by omega), show a.length + (9 - j) - a.length = 9 - j by omega, Nat.zero_add, tail_shift a r j]
    have : (a.length + r.length ≤ a.length + (9 - j)) = (r.length ≤ 9 - j) := by rw [eq_iff_iff]; omega
    simp only [this]

/-- The ten bits behind the stuffed ones; where it is told that the frame came, too. -/
def tenT (came : Bool) : List UInt8 := [49, if came then 48 else 49, 49, 49, 49, 49, 49, 49, 49, 49]
theorem tenT_ok (came : Bool) (b : List UInt8) : tailE (tenT came ++ b) 0 10 = 0 := by
  have h : ∀ i, i < 10 → (tenT came ++ b)[i]? = (tenT came)[i]? := fun i hi => List.getElem?_append_left (by simpa [tenT] using hi)
  have hl : (tenT came ++ b).length = 10 + b.length := by simp [tenT]; omega
  cases came <;> simp [tailE, h, hl, tenT] <;> omega
theorem tenF_T : tenF = tenT false := rfl
theorem ten_cut : ∀ i : Fin 10, tailE (tenF.take i.val) 0 10 = 3 := by decide
theorem ten_turned : ∀ i : Fin 8, tailE (turnF tenF (2 + i.val)) 0 10 = 12 := by decide

theorem bits_split (f : Fr) : bitsF f = stuffF (sumF (headF f)) ++ tenF := rfl
theorem bits_bits (f : Fr) : ∀ c ∈ bitsF f, c = 48 ∨ c = 49 := by
  intro c hc
  rw [bits_split, List.mem_append] at hc
  rcases hc with hc | hc
  · exact (stuff_inv _ (sum_bits (head_bits f))).all c hc
  · revert hc; unfold tenF; intro hc; simp at hc; exact .inr hc

/-- A frame's bits, told to have come or not, whatever stands behind them. -/
theorem parse_back {f : Fr} (hr : rightB f = true) (came : Bool) (b : List UInt8) : parseF (stuffF (sumF (headF f)) ++ (tenT came ++ b)) = ⟨0, f, (bitsF f).length⟩ := by
  rw [parse_stuffed hr, tail_shift, tenT_ok, if_neg (by simp)]
  rw [bits_split, List.length_append]
  rfl
theorem parse_short {f : Fr} (hr : rightB f = true) {cut : Nat} (hc : cut < (bitsF f).length) : parseF ((bitsF f).take cut) = ⟨3, fr0, 0⟩ := by
  rw [bits_split] at hc ⊢
  by_cases h : cut < (stuffF (sumF (headF f))).length
  · rw [List.take_append_of_le_length (by omega)]
    exact parse_cut hr cut h
  · rw [List.length_append] at hc
    have h10 : tenF.length = 10 := rfl
    rw [List.take_append, List.take_of_length_le (by omega), parse_stuffed hr, tail_shift]
    have := ten_cut ⟨cut - (stuffF (sumF (headF f))).length, by omega⟩
    simp only at this
    rw [this]
    simp
theorem parse_form {f : Fr} (hr : rightB f = true) {k : Nat} (hk : k < 8) : parseF (turnF (bitsF f) ((bitsF f).length - 8 + k)) = ⟨12, fr0, 0⟩ := by
  have e : (bitsF f).length - 8 + k = (stuffF (sumF (headF f))).length + (2 + k) := by
    rw [bits_split, List.length_append]
    have h10 : tenF.length = 10 := rfl
    omega
  rw [e, bits_split, turn_app, parse_stuffed hr, tail_shift]
  have := ten_turned ⟨k, hk⟩
  simp only at this
  rw [this]
  simp
theorem parse_turned {f : Fr} (hr : rightB f = true) {i : Nat} (hi : i < (bitsF f).length - 10) (he : (parseF (turnF (bitsF f) i)).e = 0) : (parseF (turnF (bitsF f) i)).f ≠ f := by
  intro hf
  have hb := turn_bits (i := i) (bits_bits f)
  obtain ⟨n, hn⟩ := parse_ok hb he
  rw [hf] at hn
  have hlen : (bitsF f).length = (stuffF (sumF (headF f))).length + 10 := (bits_len hr).2.2
  have h1 : (turnF (bitsF f) i)[i]? = some (if (bitsF f)[i]? = some 48 then 49 else 48) := turn_at (by omega)
  have h2 : (bitsF f)[i]? = (stuffF (sumF (headF f)))[i]? := by rw [bits_split, List.getElem?_append_left (by omega)]
  rw [← hn] at h2
  have hin : i < n := by
    have := congrArg List.length hn
    rw [List.length_take] at this
    omega
  rw [List.getElem?_take_of_lt hin, h1] at h2
  rw [h2] at h1
  by_cases h48 : (if (bitsF f)[i]? = some 48 then (49 : UInt8) else 48) = 48
  · rw [h48] at h2
    rw [h2] at h48
    exact absurd h48 (by decide)
  · have h49 : (bitsF f)[i]? ≠ some 48 := by
      rw [h2]; intro e; exact h48 (Option.some.inj e)
    rw [if_neg h49] at h48
    exact h48 rfl
end Go.Proofs.YtkfedgjepiljiaaDoor.FP
