/- PrioContests: the front: few of the row, few of either frame; which way ever. -/
import Derived.Test.YtbdgifngldipcaaPoF
namespace Go.Proofs.Ytbdgifngldipcaa
open Go.ChangeShapes Go.WideShapes Go.ChangeAt Go.RowKit
open FP (Fr)

set_option maxRecDepth 1000000 in
set_option maxHeartbeats 8000000 in
theorem prioContests_walk (l0 : List Fr) (A : Option Addr) (c : Nat) (f0 g0 : Fr) (w : World) (hr0 : FrR w w.heap.size A l0) (hc0 : l0.length ≤ c) (hcm : c ≤ maxLen) (hs : ∀ f ∈ l0, f.data.size ≤ maxLen) (hi0 : ∀ f ∈ l0, f.id < 4294967296) (hif : f0.id < 4294967296) (hig : g0.id < 4294967296) (hsf : f0.data.size ≤ maxLen) (hsg : g0.data.size ≤ maxLen) :
    Calls Try.prog 9 #[.slice A l0.length c, .agg #[.int .u32 f0.id, .bool f0.ext, .bool f0.rem, .int .i64 f0.dlc, .string f0.data], .agg #[.int .u32 g0.id, .bool g0.ext, .bool g0.rem, .int .i64 g0.dlc, .string g0.data]] w fun e w' => e = .returned (.bool true) ∧ Below w.heap.size w w' := by
  have FW := hide (fun W (q : Below w.heap.size w W) => few05_own l0 A c W (FrR.next hr0 q q.size) hc0 hcm hs)
  have q0 : Below w.heap.size w ((w.alloc (.cells #[.int .u32 f0.id, .bool f0.ext, .bool f0.rem, .int .i64 f0.dlc, .string f0.data] 39)).alloc (.cells #[.int .u32 g0.id, .bool g0.ext, .bool g0.rem, .int .i64 g0.dlc, .string g0.data] 39)) := ((Below.refl _ _).alloc (Nat.le_refl _) _).alloc (by simp) _
  have B4 := hide (new2a w #[.int .u32 f0.id, .bool f0.ext, .bool f0.rem, .int .i64 f0.dlc, .string f0.data] #[.int .u32 g0.id, .bool g0.ext, .bool g0.rem, .int .i64 g0.dlc, .string g0.data] 39 39)
  have B5 := hide (new2b w #[.int .u32 f0.id, .bool f0.ext, .bool f0.rem, .int .i64 f0.dlc, .string f0.data] #[.int .u32 g0.id, .bool g0.ext, .bool g0.rem, .int .i64 g0.dlc, .string g0.data] 39 39)
  have hz : ((w.alloc (.cells #[.int .u32 f0.id, .bool f0.ext, .bool f0.rem, .int .i64 f0.dlc, .string f0.data] 39)).alloc (.cells #[.int .u32 g0.id, .bool g0.ext, .bool g0.rem, .int .i64 g0.dlc, .string g0.data] 39)).heap.size = w.heap.size + 2 := by simp
  have HID := hide (cutL_id hi0)
  have H10 := hide (cutL_len l0)
  clear hr0 hs hi0
  go_enter Try.func9, Try.ntmps9
  go_wp2_with fail
  (with_reducible refine (FW.out _ q0).mono ?_)
  rintro e1 w1 ⟨A1, c1, rfl, o1, q1⟩
  rw [hz] at o1
  have S := hide (show CtS w f0 g0 A1 c1 ((cutL l0).map frc) w1.drew from CtS.drew ⟨by have := q1.size; omega, heap_below B4.out q1, heap_below B5.out q1, o1, below_next q0 q0.size q1⟩)
  clear FW q0 B4 B5 hz o1 q1
  obtain ⟨n1, hn1⟩ : ∃ n, n = (cutL l0).length := ⟨_, rfl⟩
  rw [← hn1]
  have HN := hide hn1
  clear hn1
  go_upto_region 2 with fail
  go_cut [30] from 21 (fun _ W => Hid (CtS w (cutF f0) (cutF g0) A1 c1 ((cutL l0).map frc) W))
  case first =>
    refine wp_region_L [0, 3, 5, 8] [(0, fun W => W.heap[w.heap.size]? = some (.cells #[.int .u32 f0.id, .bool f0.ext, .bool f0.rem, .int .i64 f0.dlc, .string f0.data] 39 (0, 0))), (5, fun W => W.heap[w.heap.size + 1]? = some (.cells #[.int .u32 g0.id, .bool g0.ext, .bool g0.rem, .int .i64 g0.dlc, .string g0.data] 39 (0, 0)))] (by kernel_rfl) ?_
    generalize w1.drew = V0 at *
    refine wpAnyL_load (i := 0) (v := .agg #[.int .u32 f0.id, .bool f0.ext, .bool f0.rem, .int .i64 f0.dlc, .string f0.data]) rfl rfl (by kernel_rfl) (by kernel_rfl) (by kernel_rfl) (by kernel_rfl) (by kernel_rfl) (fun _ _ _ h => h) rfl (fun W h => by obtain ⟨y0, y1, y2, y3, y4⟩ := fr_cellsx h; clear h; go_simp) (S.out.b4) ?_
    go_simp
    refine wpAnyL_load (i := 5) (v := .agg #[.int .u32 g0.id, .bool g0.ext, .bool g0.rem, .int .i64 g0.dlc, .string g0.data]) rfl rfl (by kernel_rfl) (by kernel_rfl) (by kernel_rfl) (by kernel_rfl) (by kernel_rfl) (fun _ _ _ h => h) rfl (fun W h => by obtain ⟨y0, y1, y2, y3, y4⟩ := fr_cellsx h; clear h; go_simp) (S.out.b5) ?_
    go_simp
    refine wpAnyL_two (i := 1) (k := 6) (by kernel_rfl) ?_ ?_
    · refine wpOp_do rfl rfl ?_
      go_simp
      have qa : Below V0.heap.size V0 (V0.alloc (.cells #[.int .u32 f0.id, .bool f0.ext, .bool f0.rem, .int .i64 f0.dlc, .string f0.data] 39)) := (Below.refl _ _).alloc (Nat.le_refl _) _
      have X1 := hide (World.alloc_heap_new V0 (.cells #[.int .u32 f0.id, .bool f0.ext, .bool f0.rem, .int .i64 f0.dlc, .string f0.data] 39))
      replace S := hide (S.out.below qa)
      clear qa
      generalize V0.heap.size = x1 at *
      generalize V0.alloc (.cells #[.int .u32 f0.id, .bool f0.ext, .bool f0.rem, .int .i64 f0.dlc, .string f0.data] 39) = V1 at *
      refine ⟨keepsL_mk (by kernel_rfl) (.cons S.out.b4 (.cons S.out.b5 .nil)), ?_⟩
      go_simp
      refine wpAnyL_two (i := 2) (k := 6) (by kernel_rfl) ?_ ?_
      · refine wpOp_do rfl rfl ?_
        go_simp
        (with_reducible refine (few1_any f0 x1 _ hsf X1.out).mono ?_)
        rintro e1 V2 ⟨g1, c1, rfl, hg1, zg1, hr1, qa⟩
        have R1 := hide hr1
        clear hr1 X1
        have hz1 : w.heap.size + 1 < g1 := by have := S.out.z5; omega
        replace S := hide (S.out.below qa)
        clear qa hg1
        go_simp
        refine ⟨keepsL_mk (by kernel_rfl) (.cons S.out.b4 (.cons S.out.b5 .nil)), ?_⟩
        go_simp
        refine wpAnyL_pure (i := 3) (v := .pointer (some ⟨g1, 0, none⟩)) rfl rfl (by kernel_rfl) (by kernel_rfl) (by kernel_rfl) (by kernel_rfl) (by kernel_rfl) (fun _ _ _ h => h) rfl (fun W => by go_simp) ?_
        go_simp
        refine wpAnyL_two (i := 4) (k := 6) (by kernel_rfl) ?_ ?_
        · refine wpOp_do rfl rfl ?_
          obtain ⟨y0, y1, y2, y3, y4⟩ := range_cells R1.out
          go_simp
          clear y0 y1 y2 y3 y4 R1 zg1
          refine ⟨keepsL_mk (by kernel_rfl) (.cons S.out.b4 (.cons S.out.b5 .nil)), ?_⟩
          go_simp
          refine wpAnyL_one (i := 6) (by kernel_rfl) ?_
          refine wpOp_do rfl rfl ?_
          go_simp
          have qa : Below V2.heap.size V2 (V2.alloc (.cells #[.int .u32 g0.id, .bool g0.ext, .bool g0.rem, .int .i64 g0.dlc, .string g0.data] 39)) := (Below.refl _ _).alloc (Nat.le_refl _) _
          have X6 := hide (World.alloc_heap_new V2 (.cells #[.int .u32 g0.id, .bool g0.ext, .bool g0.rem, .int .i64 g0.dlc, .string g0.data] 39))
          replace S := hide (S.out.below qa)
          clear qa
          generalize V2.heap.size = x6 at *
          generalize V2.alloc (.cells #[.int .u32 g0.id, .bool g0.ext, .bool g0.rem, .int .i64 g0.dlc, .string g0.data] 39) = V4 at *
          refine ⟨keepsL_mk (by kernel_rfl) (.cons S.out.b4 (.cons S.out.b5 .nil)), ?_⟩
          go_simp
          refine wpAnyL_one (i := 7) (by kernel_rfl) ?_
          refine wpOp_do rfl rfl ?_
          go_simp
          (with_reducible refine (few1_any g0 x6 _ hsg X6.out).mono ?_)
          rintro e7 V5 ⟨g7, c7, rfl, hg7, zg7, hr7, qa⟩
          have R7 := hide hr7
          clear hr7 X6
          have hz7 : w.heap.size + 1 < g7 := by have := S.out.z5; omega
          replace S := hide (S.out.below qa)
          clear qa hg7
          go_simp
          refine ⟨keepsL_mk (by kernel_rfl) (.cons S.out.b4 (.cons S.out.b5 .nil)), ?_⟩
          go_simp
          refine wpAnyL_pure (i := 8) (v := .pointer (some ⟨g7, 0, none⟩)) rfl rfl (by kernel_rfl) (by kernel_rfl) (by kernel_rfl) (by kernel_rfl) (by kernel_rfl) (fun _ _ _ h => h) rfl (fun W => by go_simp) ?_
          go_simp
          refine wpAnyL_two (i := 9) (k := 10) (by kernel_rfl) ?_ ?_
          · refine wpOp_do rfl rfl ?_
            obtain ⟨y0, y1, y2, y3, y4⟩ := range_cells R7.out
            go_simp
            clear y0 y1 y2 y3 y4 R7 zg7
            refine ⟨keepsL_mk (by kernel_rfl) (.cons S.out.b4 (.cons S.out.b5 .nil)), ?_⟩
            go_simp
            refine wpAnyL_one (i := 10) (by kernel_rfl) ?_
            refine wpOp_do rfl rfl ?_
            refine wp_store_as 39 (.tmp 4) (.tmp 25) rfl w.heap.size 0 (frc (cutF f0)) (by rfl) (by rfl) (fr_there S.out.b4) (by kernel_rfl) (by simp [frc, Value.oneCell']) ?_
            intro V7 e10
            replace S := hide (S.out.store4 e10)
            clear e10
            refine ⟨keepsL_mk (by kernel_rfl) (.past (by kernel_rfl) (.cons S.out.b5 .nil)), ?_⟩
            go_simp
            refine wpAnyL_one (i := 11) (by kernel_rfl) ?_
            refine wpOp_do rfl rfl ?_
            refine wp_store_as 39 (.tmp 5) (.tmp 30) rfl (w.heap.size + 1) 0 (frc (cutF g0)) (by rfl) (by rfl) (fr_there S.out.b5) (by kernel_rfl) (by simp [frc, Value.oneCell']) ?_
            intro V8 e11
            replace S := hide (S.out.store5 e11)
            clear e11
            refine ⟨keepsL_all (by kernel_rfl) (by kernel_rfl), ?_⟩
            refine wpAnyL_done (by kernel_rfl) ?_ _
            go_wp2_with fail
            go_meet
            exact S
          · refine wpOp_do rfl rfl ?_
            refine wp_store_as 39 (.tmp 4) (.tmp 25) rfl w.heap.size 0 (frc (cutF f0)) (by rfl) (by rfl) (fr_there S.out.b4) (by kernel_rfl) (by simp [frc, Value.oneCell']) ?_
            intro V9 e10
            replace S := hide (S.out.store4 e10)
            replace R7 := hide (range_set (by omega) e10 R7.out)
            replace zg7 := size_set e10 zg7
            clear e10
            refine ⟨keepsL_mk (by kernel_rfl) (.past (by kernel_rfl) (.cons S.out.b5 .nil)), ?_⟩
            go_simp
            refine wpAnyL_one (i := 9) (by kernel_rfl) ?_
            refine wpOp_do rfl rfl ?_
            obtain ⟨y0, y1, y2, y3, y4⟩ := range_cells R7.out
            go_simp
            clear y0 y1 y2 y3 y4 R7 zg7
            refine ⟨keepsL_mk (by kernel_rfl) (.past (by kernel_rfl) (.cons S.out.b5 .nil)), ?_⟩
            go_simp
            refine wpAnyL_one (i := 11) (by kernel_rfl) ?_
            refine wpOp_do rfl rfl ?_
            refine wp_store_as 39 (.tmp 5) (.tmp 30) rfl (w.heap.size + 1) 0 (frc (cutF g0)) (by rfl) (by rfl) (fr_there S.out.b5) (by kernel_rfl) (by simp [frc, Value.oneCell']) ?_
            intro V11 e11
            replace S := hide (S.out.store5 e11)
            clear e11
            refine ⟨keepsL_all (by kernel_rfl) (by kernel_rfl), ?_⟩
            refine wpAnyL_done (by kernel_rfl) ?_ _
            go_wp2_with fail
            go_meet
            exact S
        · refine wpOp_do rfl rfl ?_
          go_simp
          have qa : Below V2.heap.size V2 (V2.alloc (.cells #[.int .u32 g0.id, .bool g0.ext, .bool g0.rem, .int .i64 g0.dlc, .string g0.data] 39)) := (Below.refl _ _).alloc (Nat.le_refl _) _
          replace R1 := hide (range_below R1.out zg1 qa)
          replace zg1 := Nat.lt_of_lt_of_le zg1 qa.size
          have X6 := hide (World.alloc_heap_new V2 (.cells #[.int .u32 g0.id, .bool g0.ext, .bool g0.rem, .int .i64 g0.dlc, .string g0.data] 39))
          replace S := hide (S.out.below qa)
          clear qa
          generalize V2.heap.size = x6 at *
          generalize V2.alloc (.cells #[.int .u32 g0.id, .bool g0.ext, .bool g0.rem, .int .i64 g0.dlc, .string g0.data] 39) = V12 at *
          refine ⟨keepsL_mk (by kernel_rfl) (.cons S.out.b4 (.cons S.out.b5 .nil)), ?_⟩
          go_simp
          refine wpAnyL_two (i := 4) (k := 7) (by kernel_rfl) ?_ ?_
          · refine wpOp_do rfl rfl ?_
            obtain ⟨y0, y1, y2, y3, y4⟩ := range_cells R1.out
            go_simp
            clear y0 y1 y2 y3 y4 R1 zg1
            refine ⟨keepsL_mk (by kernel_rfl) (.cons S.out.b4 (.cons S.out.b5 .nil)), ?_⟩
            go_simp
            refine wpAnyL_one (i := 7) (by kernel_rfl) ?_
            refine wpOp_do rfl rfl ?_
            go_simp
            (with_reducible refine (few1_any g0 x6 _ hsg X6.out).mono ?_)
            rintro e7 V14 ⟨g7, c7, rfl, hg7, zg7, hr7, qa⟩
            have R7 := hide hr7
            clear hr7 X6
            have hz7 : w.heap.size + 1 < g7 := by have := S.out.z5; omega
            replace S := hide (S.out.below qa)
            clear qa hg7
            go_simp
            refine ⟨keepsL_mk (by kernel_rfl) (.cons S.out.b4 (.cons S.out.b5 .nil)), ?_⟩
            go_simp
            refine wpAnyL_pure (i := 8) (v := .pointer (some ⟨g7, 0, none⟩)) rfl rfl (by kernel_rfl) (by kernel_rfl) (by kernel_rfl) (by kernel_rfl) (by kernel_rfl) (fun _ _ _ h => h) rfl (fun W => by go_simp) ?_
            go_simp
            refine wpAnyL_two (i := 9) (k := 10) (by kernel_rfl) ?_ ?_
            · refine wpOp_do rfl rfl ?_
              obtain ⟨y0, y1, y2, y3, y4⟩ := range_cells R7.out
              go_simp
              clear y0 y1 y2 y3 y4 R7 zg7
              refine ⟨keepsL_mk (by kernel_rfl) (.cons S.out.b4 (.cons S.out.b5 .nil)), ?_⟩
              go_simp
              refine wpAnyL_one (i := 10) (by kernel_rfl) ?_
              refine wpOp_do rfl rfl ?_
              refine wp_store_as 39 (.tmp 4) (.tmp 25) rfl w.heap.size 0 (frc (cutF f0)) (by rfl) (by rfl) (fr_there S.out.b4) (by kernel_rfl) (by simp [frc, Value.oneCell']) ?_
              intro V16 e10
              replace S := hide (S.out.store4 e10)
              clear e10
              refine ⟨keepsL_mk (by kernel_rfl) (.past (by kernel_rfl) (.cons S.out.b5 .nil)), ?_⟩
              go_simp
              refine wpAnyL_one (i := 11) (by kernel_rfl) ?_
              refine wpOp_do rfl rfl ?_
              refine wp_store_as 39 (.tmp 5) (.tmp 30) rfl (w.heap.size + 1) 0 (frc (cutF g0)) (by rfl) (by rfl) (fr_there S.out.b5) (by kernel_rfl) (by simp [frc, Value.oneCell']) ?_
              intro V17 e11
              replace S := hide (S.out.store5 e11)
              clear e11
              refine ⟨keepsL_all (by kernel_rfl) (by kernel_rfl), ?_⟩
              refine wpAnyL_done (by kernel_rfl) ?_ _
              go_wp2_with fail
              go_meet
              exact S
            · refine wpOp_do rfl rfl ?_
              refine wp_store_as 39 (.tmp 4) (.tmp 25) rfl w.heap.size 0 (frc (cutF f0)) (by rfl) (by rfl) (fr_there S.out.b4) (by kernel_rfl) (by simp [frc, Value.oneCell']) ?_
              intro V18 e10
              replace S := hide (S.out.store4 e10)
              replace R7 := hide (range_set (by omega) e10 R7.out)
              replace zg7 := size_set e10 zg7
              clear e10
              refine ⟨keepsL_mk (by kernel_rfl) (.past (by kernel_rfl) (.cons S.out.b5 .nil)), ?_⟩
              go_simp
              refine wpAnyL_one (i := 9) (by kernel_rfl) ?_
              refine wpOp_do rfl rfl ?_
              obtain ⟨y0, y1, y2, y3, y4⟩ := range_cells R7.out
              go_simp
              clear y0 y1 y2 y3 y4 R7 zg7
              refine ⟨keepsL_mk (by kernel_rfl) (.past (by kernel_rfl) (.cons S.out.b5 .nil)), ?_⟩
              go_simp
              refine wpAnyL_one (i := 11) (by kernel_rfl) ?_
              refine wpOp_do rfl rfl ?_
              refine wp_store_as 39 (.tmp 5) (.tmp 30) rfl (w.heap.size + 1) 0 (frc (cutF g0)) (by rfl) (by rfl) (fr_there S.out.b5) (by kernel_rfl) (by simp [frc, Value.oneCell']) ?_
              intro V20 e11
              replace S := hide (S.out.store5 e11)
              clear e11
              refine ⟨keepsL_all (by kernel_rfl) (by kernel_rfl), ?_⟩
              refine wpAnyL_done (by kernel_rfl) ?_ _
              go_wp2_with fail
              go_meet
              exact S
          · refine wpOp_do rfl rfl ?_
            go_simp
            (with_reducible refine (few1_any g0 x6 _ hsg X6.out).mono ?_)
            rintro e7 V21 ⟨g7, c7, rfl, hg7, zg7, hr7, qa⟩
            have R7 := hide hr7
            clear hr7 X6
            replace R1 := hide (range_below R1.out zg1 qa)
            replace zg1 := Nat.lt_of_lt_of_le zg1 qa.size
            have hz7 : w.heap.size + 1 < g7 := by have := S.out.z5; omega
            replace S := hide (S.out.below qa)
            clear qa hg7
            go_simp
            refine ⟨keepsL_mk (by kernel_rfl) (.cons S.out.b4 (.cons S.out.b5 .nil)), ?_⟩
            go_simp
            refine wpAnyL_pure (i := 8) (v := .pointer (some ⟨g7, 0, none⟩)) rfl rfl (by kernel_rfl) (by kernel_rfl) (by kernel_rfl) (by kernel_rfl) (by kernel_rfl) (fun _ _ _ h => h) rfl (fun W => by go_simp) ?_
            go_simp
            refine wpAnyL_two (i := 4) (k := 9) (by kernel_rfl) ?_ ?_
            · refine wpOp_do rfl rfl ?_
              obtain ⟨y0, y1, y2, y3, y4⟩ := range_cells R1.out
              go_simp
              clear y0 y1 y2 y3 y4 R1 zg1
              refine ⟨keepsL_mk (by kernel_rfl) (.cons S.out.b4 (.cons S.out.b5 .nil)), ?_⟩
              go_simp
              refine wpAnyL_two (i := 9) (k := 10) (by kernel_rfl) ?_ ?_
              · refine wpOp_do rfl rfl ?_
                obtain ⟨y0, y1, y2, y3, y4⟩ := range_cells R7.out
                go_simp
                clear y0 y1 y2 y3 y4 R7 zg7
                refine ⟨keepsL_mk (by kernel_rfl) (.cons S.out.b4 (.cons S.out.b5 .nil)), ?_⟩
                go_simp
                refine wpAnyL_one (i := 10) (by kernel_rfl) ?_
                refine wpOp_do rfl rfl ?_
                refine wp_store_as 39 (.tmp 4) (.tmp 25) rfl w.heap.size 0 (frc (cutF f0)) (by rfl) (by rfl) (fr_there S.out.b4) (by kernel_rfl) (by simp [frc, Value.oneCell']) ?_
                intro V24 e10
                replace S := hide (S.out.store4 e10)
                clear e10
                refine ⟨keepsL_mk (by kernel_rfl) (.past (by kernel_rfl) (.cons S.out.b5 .nil)), ?_⟩
                go_simp
                refine wpAnyL_one (i := 11) (by kernel_rfl) ?_
                refine wpOp_do rfl rfl ?_
                refine wp_store_as 39 (.tmp 5) (.tmp 30) rfl (w.heap.size + 1) 0 (frc (cutF g0)) (by rfl) (by rfl) (fr_there S.out.b5) (by kernel_rfl) (by simp [frc, Value.oneCell']) ?_
                intro V25 e11
                replace S := hide (S.out.store5 e11)
                clear e11
                refine ⟨keepsL_all (by kernel_rfl) (by kernel_rfl), ?_⟩
                refine wpAnyL_done (by kernel_rfl) ?_ _
                go_wp2_with fail
                go_meet
                exact S
              · refine wpOp_do rfl rfl ?_
                refine wp_store_as 39 (.tmp 4) (.tmp 25) rfl w.heap.size 0 (frc (cutF f0)) (by rfl) (by rfl) (fr_there S.out.b4) (by kernel_rfl) (by simp [frc, Value.oneCell']) ?_
                intro V26 e10
                replace S := hide (S.out.store4 e10)
                replace R7 := hide (range_set (by omega) e10 R7.out)
                replace zg7 := size_set e10 zg7
                clear e10
                refine ⟨keepsL_mk (by kernel_rfl) (.past (by kernel_rfl) (.cons S.out.b5 .nil)), ?_⟩
                go_simp
                refine wpAnyL_one (i := 9) (by kernel_rfl) ?_
                refine wpOp_do rfl rfl ?_
                obtain ⟨y0, y1, y2, y3, y4⟩ := range_cells R7.out
                go_simp
                clear y0 y1 y2 y3 y4 R7 zg7
                refine ⟨keepsL_mk (by kernel_rfl) (.past (by kernel_rfl) (.cons S.out.b5 .nil)), ?_⟩
                go_simp
                refine wpAnyL_one (i := 11) (by kernel_rfl) ?_
                refine wpOp_do rfl rfl ?_
                refine wp_store_as 39 (.tmp 5) (.tmp 30) rfl (w.heap.size + 1) 0 (frc (cutF g0)) (by rfl) (by rfl) (fr_there S.out.b5) (by kernel_rfl) (by simp [frc, Value.oneCell']) ?_
                intro V28 e11
                replace S := hide (S.out.store5 e11)
                clear e11
                refine ⟨keepsL_all (by kernel_rfl) (by kernel_rfl), ?_⟩
                refine wpAnyL_done (by kernel_rfl) ?_ _
                go_wp2_with fail
                go_meet
                exact S
            · refine wpOp_do rfl rfl ?_
              obtain ⟨y0, y1, y2, y3, y4⟩ := range_cells R7.out
              go_simp
              clear y0 y1 y2 y3 y4 R7 zg7
              refine ⟨keepsL_mk (by kernel_rfl) (.cons S.out.b4 (.cons S.out.b5 .nil)), ?_⟩
              go_simp
              refine wpAnyL_one (i := 4) (by kernel_rfl) ?_
              refine wpOp_do rfl rfl ?_
              obtain ⟨y0, y1, y2, y3, y4⟩ := range_cells R1.out
              go_simp
              clear y0 y1 y2 y3 y4 R1 zg1
              refine ⟨keepsL_mk (by kernel_rfl) (.cons S.out.b4 (.cons S.out.b5 .nil)), ?_⟩
              go_simp
              refine wpAnyL_one (i := 10) (by kernel_rfl) ?_
              refine wpOp_do rfl rfl ?_
              refine wp_store_as 39 (.tmp 4) (.tmp 25) rfl w.heap.size 0 (frc (cutF f0)) (by rfl) (by rfl) (fr_there S.out.b4) (by kernel_rfl) (by simp [frc, Value.oneCell']) ?_
              intro V31 e10
              replace S := hide (S.out.store4 e10)
              clear e10
              refine ⟨keepsL_mk (by kernel_rfl) (.past (by kernel_rfl) (.cons S.out.b5 .nil)), ?_⟩
              go_simp
              refine wpAnyL_one (i := 11) (by kernel_rfl) ?_
              refine wpOp_do rfl rfl ?_
              refine wp_store_as 39 (.tmp 5) (.tmp 30) rfl (w.heap.size + 1) 0 (frc (cutF g0)) (by rfl) (by rfl) (fr_there S.out.b5) (by kernel_rfl) (by simp [frc, Value.oneCell']) ?_
              intro V32 e11
              replace S := hide (S.out.store5 e11)
              clear e11
              refine ⟨keepsL_all (by kernel_rfl) (by kernel_rfl), ?_⟩
              refine wpAnyL_done (by kernel_rfl) ?_ _
              go_wp2_with fail
              go_meet
              exact S
      · refine wpOp_do rfl rfl ?_
        go_simp
        have qa : Below V1.heap.size V1 (V1.alloc (.cells #[.int .u32 g0.id, .bool g0.ext, .bool g0.rem, .int .i64 g0.dlc, .string g0.data] 39)) := (Below.refl _ _).alloc (Nat.le_refl _) _
        replace X1 := hide (heap_below X1.out qa)
        have X6 := hide (World.alloc_heap_new V1 (.cells #[.int .u32 g0.id, .bool g0.ext, .bool g0.rem, .int .i64 g0.dlc, .string g0.data] 39))
        replace S := hide (S.out.below qa)
        clear qa
        generalize V1.heap.size = x6 at *
        generalize V1.alloc (.cells #[.int .u32 g0.id, .bool g0.ext, .bool g0.rem, .int .i64 g0.dlc, .string g0.data] 39) = V33 at *
        refine ⟨keepsL_mk (by kernel_rfl) (.cons S.out.b4 (.cons S.out.b5 .nil)), ?_⟩
        go_simp
        refine wpAnyL_one (i := 2) (by kernel_rfl) ?_
        refine wpOp_do rfl rfl ?_
        go_simp
        (with_reducible refine (few1_any f0 x1 _ hsf X1.out).mono ?_)
        rintro e1 V34 ⟨g1, c1, rfl, hg1, zg1, hr1, qa⟩
        have R1 := hide hr1
        clear hr1 X1
        replace X6 := hide (heap_below X6.out qa)
        have hz1 : w.heap.size + 1 < g1 := by have := S.out.z5; omega
        replace S := hide (S.out.below qa)
        clear qa hg1
        go_simp
        refine ⟨keepsL_mk (by kernel_rfl) (.cons S.out.b4 (.cons S.out.b5 .nil)), ?_⟩
        go_simp
        refine wpAnyL_pure (i := 3) (v := .pointer (some ⟨g1, 0, none⟩)) rfl rfl (by kernel_rfl) (by kernel_rfl) (by kernel_rfl) (by kernel_rfl) (by kernel_rfl) (fun _ _ _ h => h) rfl (fun W => by go_simp) ?_
        go_simp
        refine wpAnyL_two (i := 4) (k := 7) (by kernel_rfl) ?_ ?_
        · refine wpOp_do rfl rfl ?_
          obtain ⟨y0, y1, y2, y3, y4⟩ := range_cells R1.out
          go_simp
          clear y0 y1 y2 y3 y4 R1 zg1
          refine ⟨keepsL_mk (by kernel_rfl) (.cons S.out.b4 (.cons S.out.b5 .nil)), ?_⟩
          go_simp
          refine wpAnyL_one (i := 7) (by kernel_rfl) ?_
          refine wpOp_do rfl rfl ?_
          go_simp
          (with_reducible refine (few1_any g0 x6 _ hsg X6.out).mono ?_)
          rintro e7 V36 ⟨g7, c7, rfl, hg7, zg7, hr7, qa⟩
          have R7 := hide hr7
          clear hr7 X6
          have hz7 : w.heap.size + 1 < g7 := by have := S.out.z5; omega
          replace S := hide (S.out.below qa)
          clear qa hg7
          go_simp
          refine ⟨keepsL_mk (by kernel_rfl) (.cons S.out.b4 (.cons S.out.b5 .nil)), ?_⟩
          go_simp
          refine wpAnyL_pure (i := 8) (v := .pointer (some ⟨g7, 0, none⟩)) rfl rfl (by kernel_rfl) (by kernel_rfl) (by kernel_rfl) (by kernel_rfl) (by kernel_rfl) (fun _ _ _ h => h) rfl (fun W => by go_simp) ?_
          go_simp
          refine wpAnyL_two (i := 9) (k := 10) (by kernel_rfl) ?_ ?_
          · refine wpOp_do rfl rfl ?_
            obtain ⟨y0, y1, y2, y3, y4⟩ := range_cells R7.out
            go_simp
            clear y0 y1 y2 y3 y4 R7 zg7
            refine ⟨keepsL_mk (by kernel_rfl) (.cons S.out.b4 (.cons S.out.b5 .nil)), ?_⟩
            go_simp
            refine wpAnyL_one (i := 10) (by kernel_rfl) ?_
            refine wpOp_do rfl rfl ?_
            refine wp_store_as 39 (.tmp 4) (.tmp 25) rfl w.heap.size 0 (frc (cutF f0)) (by rfl) (by rfl) (fr_there S.out.b4) (by kernel_rfl) (by simp [frc, Value.oneCell']) ?_
            intro V38 e10
            replace S := hide (S.out.store4 e10)
            clear e10
            refine ⟨keepsL_mk (by kernel_rfl) (.past (by kernel_rfl) (.cons S.out.b5 .nil)), ?_⟩
            go_simp
            refine wpAnyL_one (i := 11) (by kernel_rfl) ?_
            refine wpOp_do rfl rfl ?_
            refine wp_store_as 39 (.tmp 5) (.tmp 30) rfl (w.heap.size + 1) 0 (frc (cutF g0)) (by rfl) (by rfl) (fr_there S.out.b5) (by kernel_rfl) (by simp [frc, Value.oneCell']) ?_
            intro V39 e11
            replace S := hide (S.out.store5 e11)
            clear e11
            refine ⟨keepsL_all (by kernel_rfl) (by kernel_rfl), ?_⟩
            refine wpAnyL_done (by kernel_rfl) ?_ _
            go_wp2_with fail
            go_meet
            exact S
          · refine wpOp_do rfl rfl ?_
            refine wp_store_as 39 (.tmp 4) (.tmp 25) rfl w.heap.size 0 (frc (cutF f0)) (by rfl) (by rfl) (fr_there S.out.b4) (by kernel_rfl) (by simp [frc, Value.oneCell']) ?_
            intro V40 e10
            replace S := hide (S.out.store4 e10)
            replace R7 := hide (range_set (by omega) e10 R7.out)
            replace zg7 := size_set e10 zg7
            clear e10
            refine ⟨keepsL_mk (by kernel_rfl) (.past (by kernel_rfl) (.cons S.out.b5 .nil)), ?_⟩
            go_simp
            refine wpAnyL_one (i := 9) (by kernel_rfl) ?_
            refine wpOp_do rfl rfl ?_
            obtain ⟨y0, y1, y2, y3, y4⟩ := range_cells R7.out
            go_simp
            clear y0 y1 y2 y3 y4 R7 zg7
            refine ⟨keepsL_mk (by kernel_rfl) (.past (by kernel_rfl) (.cons S.out.b5 .nil)), ?_⟩
            go_simp
            refine wpAnyL_one (i := 11) (by kernel_rfl) ?_
            refine wpOp_do rfl rfl ?_
            refine wp_store_as 39 (.tmp 5) (.tmp 30) rfl (w.heap.size + 1) 0 (frc (cutF g0)) (by rfl) (by rfl) (fr_there S.out.b5) (by kernel_rfl) (by simp [frc, Value.oneCell']) ?_
            intro V42 e11
            replace S := hide (S.out.store5 e11)
            clear e11
            refine ⟨keepsL_all (by kernel_rfl) (by kernel_rfl), ?_⟩
            refine wpAnyL_done (by kernel_rfl) ?_ _
            go_wp2_with fail
            go_meet
            exact S
        · refine wpOp_do rfl rfl ?_
          go_simp
          (with_reducible refine (few1_any g0 x6 _ hsg X6.out).mono ?_)
          rintro e7 V43 ⟨g7, c7, rfl, hg7, zg7, hr7, qa⟩
          have R7 := hide hr7
          clear hr7 X6
          replace R1 := hide (range_below R1.out zg1 qa)
          replace zg1 := Nat.lt_of_lt_of_le zg1 qa.size
          have hz7 : w.heap.size + 1 < g7 := by have := S.out.z5; omega
          replace S := hide (S.out.below qa)
          clear qa hg7
          go_simp
          refine ⟨keepsL_mk (by kernel_rfl) (.cons S.out.b4 (.cons S.out.b5 .nil)), ?_⟩
          go_simp
          refine wpAnyL_pure (i := 8) (v := .pointer (some ⟨g7, 0, none⟩)) rfl rfl (by kernel_rfl) (by kernel_rfl) (by kernel_rfl) (by kernel_rfl) (by kernel_rfl) (fun _ _ _ h => h) rfl (fun W => by go_simp) ?_
          go_simp
          refine wpAnyL_two (i := 4) (k := 9) (by kernel_rfl) ?_ ?_
          · refine wpOp_do rfl rfl ?_
            obtain ⟨y0, y1, y2, y3, y4⟩ := range_cells R1.out
            go_simp
            clear y0 y1 y2 y3 y4 R1 zg1
            refine ⟨keepsL_mk (by kernel_rfl) (.cons S.out.b4 (.cons S.out.b5 .nil)), ?_⟩
            go_simp
            refine wpAnyL_two (i := 9) (k := 10) (by kernel_rfl) ?_ ?_
            · refine wpOp_do rfl rfl ?_
              obtain ⟨y0, y1, y2, y3, y4⟩ := range_cells R7.out
              go_simp
              clear y0 y1 y2 y3 y4 R7 zg7
              refine ⟨keepsL_mk (by kernel_rfl) (.cons S.out.b4 (.cons S.out.b5 .nil)), ?_⟩
              go_simp
              refine wpAnyL_one (i := 10) (by kernel_rfl) ?_
              refine wpOp_do rfl rfl ?_
              refine wp_store_as 39 (.tmp 4) (.tmp 25) rfl w.heap.size 0 (frc (cutF f0)) (by rfl) (by rfl) (fr_there S.out.b4) (by kernel_rfl) (by simp [frc, Value.oneCell']) ?_
              intro V46 e10
              replace S := hide (S.out.store4 e10)
              clear e10
              refine ⟨keepsL_mk (by kernel_rfl) (.past (by kernel_rfl) (.cons S.out.b5 .nil)), ?_⟩
              go_simp
              refine wpAnyL_one (i := 11) (by kernel_rfl) ?_
              refine wpOp_do rfl rfl ?_
              refine wp_store_as 39 (.tmp 5) (.tmp 30) rfl (w.heap.size + 1) 0 (frc (cutF g0)) (by rfl) (by rfl) (fr_there S.out.b5) (by kernel_rfl) (by simp [frc, Value.oneCell']) ?_
              intro V47 e11
              replace S := hide (S.out.store5 e11)
              clear e11
              refine ⟨keepsL_all (by kernel_rfl) (by kernel_rfl), ?_⟩
              refine wpAnyL_done (by kernel_rfl) ?_ _
              go_wp2_with fail
              go_meet
              exact S
            · refine wpOp_do rfl rfl ?_
              refine wp_store_as 39 (.tmp 4) (.tmp 25) rfl w.heap.size 0 (frc (cutF f0)) (by rfl) (by rfl) (fr_there S.out.b4) (by kernel_rfl) (by simp [frc, Value.oneCell']) ?_
              intro V48 e10
              replace S := hide (S.out.store4 e10)
              replace R7 := hide (range_set (by omega) e10 R7.out)
              replace zg7 := size_set e10 zg7
              clear e10
              refine ⟨keepsL_mk (by kernel_rfl) (.past (by kernel_rfl) (.cons S.out.b5 .nil)), ?_⟩
              go_simp
              refine wpAnyL_one (i := 9) (by kernel_rfl) ?_
              refine wpOp_do rfl rfl ?_
              obtain ⟨y0, y1, y2, y3, y4⟩ := range_cells R7.out
              go_simp
              clear y0 y1 y2 y3 y4 R7 zg7
              refine ⟨keepsL_mk (by kernel_rfl) (.past (by kernel_rfl) (.cons S.out.b5 .nil)), ?_⟩
              go_simp
              refine wpAnyL_one (i := 11) (by kernel_rfl) ?_
              refine wpOp_do rfl rfl ?_
              refine wp_store_as 39 (.tmp 5) (.tmp 30) rfl (w.heap.size + 1) 0 (frc (cutF g0)) (by rfl) (by rfl) (fr_there S.out.b5) (by kernel_rfl) (by simp [frc, Value.oneCell']) ?_
              intro V50 e11
              replace S := hide (S.out.store5 e11)
              clear e11
              refine ⟨keepsL_all (by kernel_rfl) (by kernel_rfl), ?_⟩
              refine wpAnyL_done (by kernel_rfl) ?_ _
              go_wp2_with fail
              go_meet
              exact S
          · refine wpOp_do rfl rfl ?_
            obtain ⟨y0, y1, y2, y3, y4⟩ := range_cells R7.out
            go_simp
            clear y0 y1 y2 y3 y4 R7 zg7
            refine ⟨keepsL_mk (by kernel_rfl) (.cons S.out.b4 (.cons S.out.b5 .nil)), ?_⟩
            go_simp
            refine wpAnyL_one (i := 4) (by kernel_rfl) ?_
            refine wpOp_do rfl rfl ?_
            obtain ⟨y0, y1, y2, y3, y4⟩ := range_cells R1.out
            go_simp
            clear y0 y1 y2 y3 y4 R1 zg1
            refine ⟨keepsL_mk (by kernel_rfl) (.cons S.out.b4 (.cons S.out.b5 .nil)), ?_⟩
            go_simp
            refine wpAnyL_one (i := 10) (by kernel_rfl) ?_
            refine wpOp_do rfl rfl ?_
            refine wp_store_as 39 (.tmp 4) (.tmp 25) rfl w.heap.size 0 (frc (cutF f0)) (by rfl) (by rfl) (fr_there S.out.b4) (by kernel_rfl) (by simp [frc, Value.oneCell']) ?_
            intro V53 e10
            replace S := hide (S.out.store4 e10)
            clear e10
            refine ⟨keepsL_mk (by kernel_rfl) (.past (by kernel_rfl) (.cons S.out.b5 .nil)), ?_⟩
            go_simp
            refine wpAnyL_one (i := 11) (by kernel_rfl) ?_
            refine wpOp_do rfl rfl ?_
            refine wp_store_as 39 (.tmp 5) (.tmp 30) rfl (w.heap.size + 1) 0 (frc (cutF g0)) (by rfl) (by rfl) (fr_there S.out.b5) (by kernel_rfl) (by simp [frc, Value.oneCell']) ?_
            intro V54 e11
            replace S := hide (S.out.store5 e11)
            clear e11
            refine ⟨keepsL_all (by kernel_rfl) (by kernel_rfl), ?_⟩
            refine wpAnyL_done (by kernel_rfl) ?_ _
            go_wp2_with fail
            go_meet
            exact S
    · refine wpOp_do rfl rfl ?_
      go_simp
      have qa : Below V0.heap.size V0 (V0.alloc (.cells #[.int .u32 g0.id, .bool g0.ext, .bool g0.rem, .int .i64 g0.dlc, .string g0.data] 39)) := (Below.refl _ _).alloc (Nat.le_refl _) _
      have X6 := hide (World.alloc_heap_new V0 (.cells #[.int .u32 g0.id, .bool g0.ext, .bool g0.rem, .int .i64 g0.dlc, .string g0.data] 39))
      replace S := hide (S.out.below qa)
      clear qa
      generalize V0.heap.size = x6 at *
      generalize V0.alloc (.cells #[.int .u32 g0.id, .bool g0.ext, .bool g0.rem, .int .i64 g0.dlc, .string g0.data] 39) = V55 at *
      refine ⟨keepsL_mk (by kernel_rfl) (.cons S.out.b4 (.cons S.out.b5 .nil)), ?_⟩
      go_simp
      refine wpAnyL_one (i := 1) (by kernel_rfl) ?_
      refine wpOp_do rfl rfl ?_
      go_simp
      have qa : Below V55.heap.size V55 (V55.alloc (.cells #[.int .u32 f0.id, .bool f0.ext, .bool f0.rem, .int .i64 f0.dlc, .string f0.data] 39)) := (Below.refl _ _).alloc (Nat.le_refl _) _
      replace X6 := hide (heap_below X6.out qa)
      have X1 := hide (World.alloc_heap_new V55 (.cells #[.int .u32 f0.id, .bool f0.ext, .bool f0.rem, .int .i64 f0.dlc, .string f0.data] 39))
      replace S := hide (S.out.below qa)
      clear qa
      generalize V55.heap.size = x1 at *
      generalize V55.alloc (.cells #[.int .u32 f0.id, .bool f0.ext, .bool f0.rem, .int .i64 f0.dlc, .string f0.data] 39) = V56 at *
      refine ⟨keepsL_mk (by kernel_rfl) (.cons S.out.b4 (.cons S.out.b5 .nil)), ?_⟩
      go_simp
      refine wpAnyL_one (i := 2) (by kernel_rfl) ?_
      refine wpOp_do rfl rfl ?_
      go_simp
      (with_reducible refine (few1_any f0 x1 _ hsf X1.out).mono ?_)
      rintro e1 V57 ⟨g1, c1, rfl, hg1, zg1, hr1, qa⟩
      have R1 := hide hr1
      clear hr1 X1
      replace X6 := hide (heap_below X6.out qa)
      have hz1 : w.heap.size + 1 < g1 := by have := S.out.z5; omega
      replace S := hide (S.out.below qa)
      clear qa hg1
      go_simp
      refine ⟨keepsL_mk (by kernel_rfl) (.cons S.out.b4 (.cons S.out.b5 .nil)), ?_⟩
      go_simp
      refine wpAnyL_pure (i := 3) (v := .pointer (some ⟨g1, 0, none⟩)) rfl rfl (by kernel_rfl) (by kernel_rfl) (by kernel_rfl) (by kernel_rfl) (by kernel_rfl) (fun _ _ _ h => h) rfl (fun W => by go_simp) ?_
      go_simp
      refine wpAnyL_two (i := 4) (k := 7) (by kernel_rfl) ?_ ?_
      · refine wpOp_do rfl rfl ?_
        obtain ⟨y0, y1, y2, y3, y4⟩ := range_cells R1.out
        go_simp
        clear y0 y1 y2 y3 y4 R1 zg1
        refine ⟨keepsL_mk (by kernel_rfl) (.cons S.out.b4 (.cons S.out.b5 .nil)), ?_⟩
        go_simp
        refine wpAnyL_one (i := 7) (by kernel_rfl) ?_
        refine wpOp_do rfl rfl ?_
        go_simp
        (with_reducible refine (few1_any g0 x6 _ hsg X6.out).mono ?_)
        rintro e7 V59 ⟨g7, c7, rfl, hg7, zg7, hr7, qa⟩
        have R7 := hide hr7
        clear hr7 X6
        have hz7 : w.heap.size + 1 < g7 := by have := S.out.z5; omega
        replace S := hide (S.out.below qa)
        clear qa hg7
        go_simp
        refine ⟨keepsL_mk (by kernel_rfl) (.cons S.out.b4 (.cons S.out.b5 .nil)), ?_⟩
        go_simp
        refine wpAnyL_pure (i := 8) (v := .pointer (some ⟨g7, 0, none⟩)) rfl rfl (by kernel_rfl) (by kernel_rfl) (by kernel_rfl) (by kernel_rfl) (by kernel_rfl) (fun _ _ _ h => h) rfl (fun W => by go_simp) ?_
        go_simp
        refine wpAnyL_two (i := 9) (k := 10) (by kernel_rfl) ?_ ?_
        · refine wpOp_do rfl rfl ?_
          obtain ⟨y0, y1, y2, y3, y4⟩ := range_cells R7.out
          go_simp
          clear y0 y1 y2 y3 y4 R7 zg7
          refine ⟨keepsL_mk (by kernel_rfl) (.cons S.out.b4 (.cons S.out.b5 .nil)), ?_⟩
          go_simp
          refine wpAnyL_one (i := 10) (by kernel_rfl) ?_
          refine wpOp_do rfl rfl ?_
          refine wp_store_as 39 (.tmp 4) (.tmp 25) rfl w.heap.size 0 (frc (cutF f0)) (by rfl) (by rfl) (fr_there S.out.b4) (by kernel_rfl) (by simp [frc, Value.oneCell']) ?_
          intro V61 e10
          replace S := hide (S.out.store4 e10)
          clear e10
          refine ⟨keepsL_mk (by kernel_rfl) (.past (by kernel_rfl) (.cons S.out.b5 .nil)), ?_⟩
          go_simp
          refine wpAnyL_one (i := 11) (by kernel_rfl) ?_
          refine wpOp_do rfl rfl ?_
          refine wp_store_as 39 (.tmp 5) (.tmp 30) rfl (w.heap.size + 1) 0 (frc (cutF g0)) (by rfl) (by rfl) (fr_there S.out.b5) (by kernel_rfl) (by simp [frc, Value.oneCell']) ?_
          intro V62 e11
          replace S := hide (S.out.store5 e11)
          clear e11
          refine ⟨keepsL_all (by kernel_rfl) (by kernel_rfl), ?_⟩
          refine wpAnyL_done (by kernel_rfl) ?_ _
          go_wp2_with fail
          go_meet
          exact S
        · refine wpOp_do rfl rfl ?_
          refine wp_store_as 39 (.tmp 4) (.tmp 25) rfl w.heap.size 0 (frc (cutF f0)) (by rfl) (by rfl) (fr_there S.out.b4) (by kernel_rfl) (by simp [frc, Value.oneCell']) ?_
          intro V63 e10
          replace S := hide (S.out.store4 e10)
          replace R7 := hide (range_set (by omega) e10 R7.out)
          replace zg7 := size_set e10 zg7
          clear e10
          refine ⟨keepsL_mk (by kernel_rfl) (.past (by kernel_rfl) (.cons S.out.b5 .nil)), ?_⟩
          go_simp
          refine wpAnyL_one (i := 9) (by kernel_rfl) ?_
          refine wpOp_do rfl rfl ?_
          obtain ⟨y0, y1, y2, y3, y4⟩ := range_cells R7.out
          go_simp
          clear y0 y1 y2 y3 y4 R7 zg7
          refine ⟨keepsL_mk (by kernel_rfl) (.past (by kernel_rfl) (.cons S.out.b5 .nil)), ?_⟩
          go_simp
          refine wpAnyL_one (i := 11) (by kernel_rfl) ?_
          refine wpOp_do rfl rfl ?_
          refine wp_store_as 39 (.tmp 5) (.tmp 30) rfl (w.heap.size + 1) 0 (frc (cutF g0)) (by rfl) (by rfl) (fr_there S.out.b5) (by kernel_rfl) (by simp [frc, Value.oneCell']) ?_
          intro V65 e11
          replace S := hide (S.out.store5 e11)
          clear e11
          refine ⟨keepsL_all (by kernel_rfl) (by kernel_rfl), ?_⟩
          refine wpAnyL_done (by kernel_rfl) ?_ _
          go_wp2_with fail
          go_meet
          exact S
      · refine wpOp_do rfl rfl ?_
        go_simp
        (with_reducible refine (few1_any g0 x6 _ hsg X6.out).mono ?_)
        rintro e7 V66 ⟨g7, c7, rfl, hg7, zg7, hr7, qa⟩
        have R7 := hide hr7
        clear hr7 X6
        replace R1 := hide (range_below R1.out zg1 qa)
        replace zg1 := Nat.lt_of_lt_of_le zg1 qa.size
        have hz7 : w.heap.size + 1 < g7 := by have := S.out.z5; omega
        replace S := hide (S.out.below qa)
        clear qa hg7
        go_simp
        refine ⟨keepsL_mk (by kernel_rfl) (.cons S.out.b4 (.cons S.out.b5 .nil)), ?_⟩
        go_simp
        refine wpAnyL_pure (i := 8) (v := .pointer (some ⟨g7, 0, none⟩)) rfl rfl (by kernel_rfl) (by kernel_rfl) (by kernel_rfl) (by kernel_rfl) (by kernel_rfl) (fun _ _ _ h => h) rfl (fun W => by go_simp) ?_
        go_simp
        refine wpAnyL_two (i := 4) (k := 9) (by kernel_rfl) ?_ ?_
        · refine wpOp_do rfl rfl ?_
          obtain ⟨y0, y1, y2, y3, y4⟩ := range_cells R1.out
          go_simp
          clear y0 y1 y2 y3 y4 R1 zg1
          refine ⟨keepsL_mk (by kernel_rfl) (.cons S.out.b4 (.cons S.out.b5 .nil)), ?_⟩
          go_simp
          refine wpAnyL_two (i := 9) (k := 10) (by kernel_rfl) ?_ ?_
          · refine wpOp_do rfl rfl ?_
            obtain ⟨y0, y1, y2, y3, y4⟩ := range_cells R7.out
            go_simp
            clear y0 y1 y2 y3 y4 R7 zg7
            refine ⟨keepsL_mk (by kernel_rfl) (.cons S.out.b4 (.cons S.out.b5 .nil)), ?_⟩
            go_simp
            refine wpAnyL_one (i := 10) (by kernel_rfl) ?_
            refine wpOp_do rfl rfl ?_
            refine wp_store_as 39 (.tmp 4) (.tmp 25) rfl w.heap.size 0 (frc (cutF f0)) (by rfl) (by rfl) (fr_there S.out.b4) (by kernel_rfl) (by simp [frc, Value.oneCell']) ?_
            intro V69 e10
            replace S := hide (S.out.store4 e10)
            clear e10
            refine ⟨keepsL_mk (by kernel_rfl) (.past (by kernel_rfl) (.cons S.out.b5 .nil)), ?_⟩
            go_simp
            refine wpAnyL_one (i := 11) (by kernel_rfl) ?_
            refine wpOp_do rfl rfl ?_
            refine wp_store_as 39 (.tmp 5) (.tmp 30) rfl (w.heap.size + 1) 0 (frc (cutF g0)) (by rfl) (by rfl) (fr_there S.out.b5) (by kernel_rfl) (by simp [frc, Value.oneCell']) ?_
            intro V70 e11
            replace S := hide (S.out.store5 e11)
            clear e11
            refine ⟨keepsL_all (by kernel_rfl) (by kernel_rfl), ?_⟩
            refine wpAnyL_done (by kernel_rfl) ?_ _
            go_wp2_with fail
            go_meet
            exact S
          · refine wpOp_do rfl rfl ?_
            refine wp_store_as 39 (.tmp 4) (.tmp 25) rfl w.heap.size 0 (frc (cutF f0)) (by rfl) (by rfl) (fr_there S.out.b4) (by kernel_rfl) (by simp [frc, Value.oneCell']) ?_
            intro V71 e10
            replace S := hide (S.out.store4 e10)
            replace R7 := hide (range_set (by omega) e10 R7.out)
            replace zg7 := size_set e10 zg7
            clear e10
            refine ⟨keepsL_mk (by kernel_rfl) (.past (by kernel_rfl) (.cons S.out.b5 .nil)), ?_⟩
            go_simp
            refine wpAnyL_one (i := 9) (by kernel_rfl) ?_
            refine wpOp_do rfl rfl ?_
            obtain ⟨y0, y1, y2, y3, y4⟩ := range_cells R7.out
            go_simp
            clear y0 y1 y2 y3 y4 R7 zg7
            refine ⟨keepsL_mk (by kernel_rfl) (.past (by kernel_rfl) (.cons S.out.b5 .nil)), ?_⟩
            go_simp
            refine wpAnyL_one (i := 11) (by kernel_rfl) ?_
            refine wpOp_do rfl rfl ?_
            refine wp_store_as 39 (.tmp 5) (.tmp 30) rfl (w.heap.size + 1) 0 (frc (cutF g0)) (by rfl) (by rfl) (fr_there S.out.b5) (by kernel_rfl) (by simp [frc, Value.oneCell']) ?_
            intro V73 e11
            replace S := hide (S.out.store5 e11)
            clear e11
            refine ⟨keepsL_all (by kernel_rfl) (by kernel_rfl), ?_⟩
            refine wpAnyL_done (by kernel_rfl) ?_ _
            go_wp2_with fail
            go_meet
            exact S
        · refine wpOp_do rfl rfl ?_
          obtain ⟨y0, y1, y2, y3, y4⟩ := range_cells R7.out
          go_simp
          clear y0 y1 y2 y3 y4 R7 zg7
          refine ⟨keepsL_mk (by kernel_rfl) (.cons S.out.b4 (.cons S.out.b5 .nil)), ?_⟩
          go_simp
          refine wpAnyL_one (i := 4) (by kernel_rfl) ?_
          refine wpOp_do rfl rfl ?_
          obtain ⟨y0, y1, y2, y3, y4⟩ := range_cells R1.out
          go_simp
          clear y0 y1 y2 y3 y4 R1 zg1
          refine ⟨keepsL_mk (by kernel_rfl) (.cons S.out.b4 (.cons S.out.b5 .nil)), ?_⟩
          go_simp
          refine wpAnyL_one (i := 10) (by kernel_rfl) ?_
          refine wpOp_do rfl rfl ?_
          refine wp_store_as 39 (.tmp 4) (.tmp 25) rfl w.heap.size 0 (frc (cutF f0)) (by rfl) (by rfl) (fr_there S.out.b4) (by kernel_rfl) (by simp [frc, Value.oneCell']) ?_
          intro V76 e10
          replace S := hide (S.out.store4 e10)
          clear e10
          refine ⟨keepsL_mk (by kernel_rfl) (.past (by kernel_rfl) (.cons S.out.b5 .nil)), ?_⟩
          go_simp
          refine wpAnyL_one (i := 11) (by kernel_rfl) ?_
          refine wpOp_do rfl rfl ?_
          refine wp_store_as 39 (.tmp 5) (.tmp 30) rfl (w.heap.size + 1) 0 (frc (cutF g0)) (by rfl) (by rfl) (fr_there S.out.b5) (by kernel_rfl) (by simp [frc, Value.oneCell']) ?_
          intro V77 e11
          replace S := hide (S.out.store5 e11)
          clear e11
          refine ⟨keepsL_all (by kernel_rfl) (by kernel_rfl), ?_⟩
          refine wpAnyL_done (by kernel_rfl) ?_ _
          go_wp2_with fail
          go_meet
          exact S
  case rest =>
    rename_i hK
    refine hK _ _ ?_
    exact ctTail2_walk w wc (cutF f0) (cutF g0) (cutL l0) A1 c1 n1 _ _ _ _ _ _ _ _ _ _ _ _ _ _ _ _ _ _ _ _ _ _ _ _ _ _ _ _ _ _ _ _ _ _ _ _ _ _ _ _ _ _ _ _ _ _ _ _ _ _ _ _ _ _ _ _ _ _ _ _ _ _ _ _ _ _ _ _ _ _ _ _ _ _ _ _ _ _ _ _ _ _ _ _ _ _ _ _ _ _ _ _ _ _ _ _ _ _ _ _ _ _ _ _ _ _ _ _ _ _ _ _ _ _ _ _ _ _ _ _ _ _ _ _ _ _ _ _ _ _ _ _ _ _ _ _ _ _ _ _ _ _ _ _ _ _ _ _ _ _ _ _ _ _ _ _ _ _ _ _ _ _ _ _ _ _ _ _ _ _ _ _ _ _ _ _ _ _ _ _ _ _ _ hcut.out HN.out H10.out HID.out hif hig
end Go.Proofs.Ytbdgifngldipcaa
