/- The walk of campanilelaw08.BusOrder. -/
import Derived.Test.YtjfgapljfbkfiaaGreatDoorMgRfP
import Derived.Test.YtjfgapljfbkfiaaGreatDoorBuAW
import Derived.Test.YtjfgapljfbkfiaaGreatDoorMgFrB
namespace Go.Proofs.YtjfgapljfbkfiaaGreatDoor
open Go.ChangeShapes Go.WideShapes Go.ChangeAt Go.RowKit
open FP (Fr)
open OP (atF bestTo orderF)

theorem fr_at {W : World} {B : Nat} {A : Option Addr} {l : List Fr} (h : Rd W B A 5 (l.map frc)) {k : Nat} (hk : k < l.length) : ∃ g off, A = some ⟨g, off, none⟩ ∧ g < B ∧ W.rangeAt g (off + k * 5) (frc l[k]) := by
  obtain ⟨g, off, e, hb, hr⟩ := rd_range h (k := k) (by rw [List.length_map]; exact hk)
  rw [List.getElem_map] at hr
  exact ⟨g, off, e, hb, hr⟩
theorem sn_fr {W : World} {x : Nat} {y : Sn} {t : TypeId} {fz : Nat × Nat} (h : W.heap[x]? = some (.cells (sncs y).toArray t fz)) : W.rangeAt x 3 (frc y.ef) := fun j v hj => by
  have hr := range_heap h (3 + j) v
  rw [Nat.zero_add] at hr
  refine hr ?_
  have hj5 : j < 5 := (List.getElem?_eq_some_iff.1 hj).1
  obtain rfl | rfl | rfl | rfl | rfl : j = 0 ∨ j = 1 ∨ j = 2 ∨ j = 3 ∨ j = 4 := by omega
  all_goals exact hj
theorem idl_count {c : Cl} (h : Idl c) : c.tc = 0 ∧ c.rc = 0 ∧ c.off = false ∧ c.rs = 0 := by
  have ho : c.off = false := by rw [h.ok.offs, h.st]; rfl
  exact ⟨h.tc, h.rc, ho, (cnt_on h.ok.cnt ho).1⟩
theorem ob_ne {W : World} {base : Nat} {e : TypeId} {sz : Nat} {A : Option Addr} {c n x : Nat} {R : List (List Value)} (h : Own W base e sz A c R) (hx : ∀ g off, A = some ⟨g, off, none⟩ → g < x) : (Value.slice A n c).ownBlock ≠ some x := by
  rcases own_form h with rfl | ⟨g, rfl⟩
  · simp [Value.ownBlock]
  · have := hx g 0 rfl
    simp [Value.ownBlock]
    omega
theorem cut_take (l : List Fr) {k : Nat} (hk : k < l.length) : (l.take (k + 1)).map cut8 = (l.take k).map cut8 ++ [cut8 l[k]] := by
  rw [List.take_succ_eq_append_getElem hk, List.map_append]
  rfl

set_option maxRecDepth 100000 in
set_option maxHeartbeats 64000000 in
theorem busOrder_walk (n : Int) (l : List Fr) (A : Option Addr) (c : Nat) (w : World) (hr : FrR w w.heap.size A l) (hc : l.length ≤ c) (hcm : c ≤ maxLen) (hf : ∀ f ∈ l, f.id < 4294967296 ∧ f.data.size ≤ maxLen) :
    Calls Tryz.prog 3 #[.int .i64 n, .slice A l.length c] w fun e w' => e = .returned (.bool true) ∧ Below w.heap.size w w' := by
  have HR := hide hr
  have HF := hide hf
  have hlm : l.length ≤ 9223372036854775807 := by unfold maxLen at hcm; omega
  obtain ⟨M, hM⟩ : ∃ M, M = manyN n := ⟨_, rfl⟩
  have hm := many_le n
  have RY := hide (fun W => ready08_any n W)
  rw [← hM] at hm RY
  have hm2 := hm.1
  have hm4 := hm.2
  rw [← gave_nil] at RY
  clear hM hm hr hc hcm hf
  have AL := hide (fun W => alive08_any W)
  have Q := hide (Below.refl w.heap.size w)
  go_enter Tryz.func3, Tryz.ntmps3
  go_wp2_with fail
  (with_reducible refine (RY.out _).mono ?_)
  rintro ew1' w1' ⟨A1, c1, rfl, C, FC, qw1'⟩
  replace Q := hide (below_next Q.out Q.out.size qw1')
  clear qw1'
  replace C := hide (show Rd w1' w1'.heap.size A1 23 (clRows (gaveL M [])) from C)
  replace FC := hide FC
  clear RY
  have B := World.alloc_heap_new w1' (.cells (busL none 0 0 0).toArray 25)
  have O_C_B := hide (off_new (x := w1'.heap.size) C.out (by omega))
  have zQy : w.heap.size ≤ w1'.heap.size := Q.out.size
  obtain ⟨w3', hw3'⟩ : ∃ wx, wx = w1'.alloc (.cells (busL none 0 0 0).toArray 25) := ⟨_, rfl⟩
  have q2' := hide (show Below w1'.heap.size w1' w3' by rw [hw3']; exact (Below.refl _ _).alloc (Nat.le_refl _) _)
  rw [← hw3'] at B
  replace B := hide B
  have Tw4' := hide (show (w1'.alloc (.cells (busL none 0 0 0).toArray 25)).there w1'.heap.size 0 2 by rw [← hw3']; exact there_heap (cs := busL none 0 0 0) B.out)
  go_wp2_with (refine wpList_store_hid (by rfl) 25 (.tmp 5) (.tmp 25) (by rfl) w1'.heap.size 0 (busL A1 M c1 11) (by rfl) (by rfl) (by exact Tw4'.out) (by kernel_rfl) (by simp [Value.oneCell', busL]) ?_)
  intro w4' ew4'
  replace ew4' : Hid (w4' = w3'.setCells w1'.heap.size 0 (busL A1 M c1 11)) := by rw [hw3']; exact ew4'
  replace B := hide (show w4'.heap[w1'.heap.size]? = some (.cells (busL A1 M c1 11).toArray 25 (0, 0)) by rw [ew4'.out]; exact whole_heap (busL A1 M c1 11) (xs := busL none 0 0 0) B.out rfl)
  replace q2' := hide (show Below w1'.heap.size w1' w4' by rw [ew4'.out]; exact q2'.out.trans (below_setCells _ _ _ (by omega)))
  clear ew4' Tw4' hw3'
  replace C := hide (Rd.next C.out q2'.out q2'.out.size)
  replace Q := hide (below_next Q.out Q.out.size q2'.out)
  clear q2'
  generalize w1'.heap.size = y at *
  go_wp2_with fail
  (with_reducible refine (AL.out _).mono ?_)
  rintro ew5' w5' ⟨rfl, qw5'⟩
  replace B := hide (heap_below B.out qw5')
  replace C := hide (Rd.next C.out qw5' qw5'.size)
  replace Q := hide (below_next Q.out Q.out.size qw5')
  clear qw5'
  clear AL
  obtain ⟨b0, b1⟩ := bus_cells B.out
  have zy0 := heap_lt B.out
  have zwy : w.heap.size ≤ y := by omega
  go_upto_block 0 with fail
  clear b0 b1
  go_cut [7] (fun v7 W => ∃ (fs : List Fr) (Aw : Option Addr) (cw : Nat) (A2 : Option Addr) (c2 : Nat), fs.length ≤ M ∧ v7 = .slice Aw fs.length cw ∧ Hid ((∀ f ∈ fs, FP.rightB f = true ∧ f.id < 4294967296) ∧ (fs).Pairwise fun a b => fieldF a ≠ fieldF b) ∧ Hid (Own W (y + 1) 31 5 Aw cw ((fs).map frc)) ∧ Hid (W.heap[y]? = some (.cells (busL A2 M c2 11).toArray 25 (0, 0))) ∧ Hid (Rd W W.heap.size A2 23 (clRows (gaveL M (fs)))) ∧ Hid (Off A2 (clRows (gaveL M (fs))).length y) ∧ Hid (Below w.heap.size w W))
  case first =>
    go_wp2_with fail
    go_loopw [38, 7] (fun vi v7 W => ∃ (k : Nat) (Aw : Option Addr) (cw : Nat) (A2 : Option Addr) (c2 : Nat), k ≤ l.length ∧ k ≤ M ∧ vi = .int .i64 k ∧ v7 = .slice Aw k cw ∧ Hid ((∀ f ∈ (l.take k).map cut8, FP.rightB f = true ∧ f.id < 4294967296) ∧ ((l.take k).map cut8).Pairwise fun a b => fieldF a ≠ fieldF b) ∧ Hid (Own W (y + 1) 31 5 Aw cw (((l.take k).map cut8).map frc)) ∧ Hid (W.heap[y]? = some (.cells (busL A2 M c2 11).toArray 25 (0, 0))) ∧ Hid (Rd W W.heap.size A2 23 (clRows (gaveL M ((l.take k).map cut8)))) ∧ Hid (Off A2 (clRows (gaveL M ((l.take k).map cut8))).length y) ∧ Hid (Below w.heap.size w W)) (fun vi _ _ => l.length - (intOf vi).toNat)
    case atStart => exact ⟨0, none, 0, A1, c1, Nat.zero_le _, Nat.zero_le _, rfl, rfl, hide (by simp), hide Own.nil, B, C, O_C_B, Q⟩
    case round =>
      clear B C O_C_B Q
      obtain ⟨k, Aw, cw, A2, c2, hkl, hkM, rfl, rfl, HG, OW, B, C, O_C_B, Q⟩ := hrel
      by_cases hlt : k < l.length
      · have hki : (k : Int) < (l.length : Int) := by omega
        have hk0 : ¬ (k : Int) < 0 := by omega
        obtain ⟨g, off, hA, hgB, hra⟩ := fr_at HR.out hlt
        subst hA
        have PA := hide (show wr.rangeAt g (off + k * 5) (frc l[k]) from fun j v hj => cellBelow Q.out hgB (hra j v hj))
        have FW := hide (fun W => few08_any l[k] W (HF.out _ (List.getElem_mem hlt)).2)
        have hid2 : (cut8 l[k]).id < 4294967296 := (HF.out _ (List.getElem_mem hlt)).1
        have CT := hide (cut_take l hlt)
        generalize cut8 l[k] = f at *
        generalize l[k] = f0 at *
        have HFL := hide (show ((l.take k).map cut8).length = k by rw [List.length_map, List.length_take]; omega)
        generalize (l.take k).map cut8 = fs at *
        clear hra hgB
        have QQ := Q
        replace Q := hide (Below.refl wr.heap.size wr)
        have X := World.alloc_heap_new wr (.cells (frc zFr).toArray 31)
        have zQx9 : wr.heap.size ≤ wr.heap.size := Q.out.size
        obtain ⟨w52', hw52'⟩ : ∃ wx, wx = wr.alloc (.cells (frc zFr).toArray 31) := ⟨_, rfl⟩
        have q51' := hide (show Below wr.heap.size wr w52' by rw [hw52']; exact (Below.refl _ _).alloc (Nat.le_refl _) _)
        rw [← hw52'] at X
        replace X := hide X
        have Tw53' := hide (show (wr.alloc (.cells (frc zFr).toArray 31)).there wr.heap.size 0 5 by rw [← hw52']; exact there_heap (cs := frc zFr) X.out)
        go_wp2_with (first | (refine wpList_load_mid rfl 31 (.tmp 41) (by rfl) g (off + k * 5) (by rfl) (frc f0) _ (by exact PA.out) Tryz.underlying31 (by rfl) (by kernel_rfl) ?_) | (refine wpList_store_hid (by rfl) 31 (.tmp 9) (.tmp 42) (by rfl) wr.heap.size 0 (frc f0) (by rfl) (by rfl) (by exact Tw53'.out) (by kernel_rfl) (by simp [Value.oneCell', frc]) ?_))
        intro w53' ew53'
        replace ew53' : Hid (w53' = w52'.setCells wr.heap.size 0 (frc f0)) := by rw [hw52']; exact ew53'
        replace X := hide (show w53'.heap[wr.heap.size]? = some (.cells (frc f0).toArray 31 (0, 0)) by rw [ew53'.out]; exact whole_heap (frc f0) (xs := frc zFr) X.out rfl)
        replace q51' := hide (show Below wr.heap.size wr w53' by rw [ew53'.out]; exact q51'.out.trans (below_setCells _ _ _ (by omega)))
        clear ew53' Tw53' hw52'
        replace Q := hide (below_next Q.out Q.out.size q51'.out)
        clear q51'
        clear PA
        go_wp2_with (refine wpList_load_row rfl 31 (.tmp 9) (by rfl) wr.heap.size (by rfl) 31 (frc f0).toArray (0, 0) _ (by exact X.out) Tryz.underlying31 (by rfl) (by kernel_rfl) ?_)
        (with_reducible refine (FW.out _).mono ?_)
        rintro ew54' w54' ⟨rfl, qw54'⟩
        replace X := hide (heap_below X.out qw54')
        replace Q := hide (below_next Q.out Q.out.size qw54')
        clear qw54'
        clear FW
        have Tw55' := hide (show World.there _ wr.heap.size 0 5 from there_heap (cs := frc f0) X.out)
        go_wp2_with (refine wpList_store_hid (by rfl) 31 (.tmp 9) (.tmp 44) (by rfl) wr.heap.size 0 (frc f) (by rfl) (by rfl) (by exact Tw55'.out) (by kernel_rfl) (by simp [Value.oneCell', frc]) ?_)
        intro w55' ew55'
        replace Q := hide (show Below wr.heap.size wr w55' by rw [ew55'.out]; exact Q.out.trans (below_setCells _ _ _ (by have := Q.out.size; omega)))
        replace X := hide (show w55'.heap[wr.heap.size]? = some (.cells (frc f).toArray 31 (0, 0)) by rw [ew55'.out]; exact whole_heap (frc f) (xs := frc f0) X.out rfl)
        clear ew55' Tw55'
        have q9 := Q.out
        replace Q := QQ
        clear QQ
        have zyr := heap_lt B.out
        have O_C_X := hide (off_new (x := wr.heap.size) C.out (Nat.le_refl _))
        have OWN := hide (show ∀ g off, Aw = some ⟨g, off, none⟩ → g < wr.heap.size from own_lt OW.out)
        replace B := hide (heap_below B.out q9)
        replace OW := hide (OW.out.grown q9)
        replace C := hide (Rd.next C.out q9 q9.size)
        replace Q := hide (below_next Q.out Q.out.size q9)
        clear q9
        generalize wr.heap.size = x9 at *
        by_cases hkM : k < M
        case neg =>
          obtain rfl : M = k := by omega
          clear OWN
          go_wp2_with fail
          go_meet
          exact ⟨fs, Aw, cw, A2, c2, by rw [HFL.out]; exact Nat.le_refl _, by rw [HFL.out], HG, OW, B, C, O_C_B, Q⟩
        case pos =>
        have hkM2 : (k : Int) < (M : Int) := by omega
        have RR := hide (fun W => show Calls Tryz.prog 10 #[.agg (frc f).toArray] W fun e w' => e = .returned (.bool (FP.rightB f)) ∧ Below W.heap.size W w' from refRight04_any f W hid2)
        go_wp2_with (refine wpList_load_row rfl 31 (.tmp 9) (by rfl) x9 (by rfl) 31 (frc f).toArray (0, 0) _ (by exact X.out) Tryz.underlying31 (by rfl) (by kernel_rfl) ?_)
        (with_reducible refine (RR.out _).mono ?_)
        rintro ew6' w6' ⟨rfl, qw6'⟩
        replace B := hide (heap_below B.out qw6')
        replace X := hide (heap_below X.out qw6')
        replace OW := hide (OW.out.grown qw6')
        replace C := hide (Rd.next C.out qw6' qw6'.size)
        replace Q := hide (below_next Q.out Q.out.size qw6')
        clear qw6'
        clear RR
        rcases Bool.eq_false_or_eq_true (FP.rightB f) with hrf | hrf
        case inr =>
          rw [hrf]
          go_wp2_with fail
          go_ret
          exact ⟨rfl, Q.out⟩
        case inl =>
        rw [hrf]
        have HRF := hide hrf
        clear hrf
        go_upto_block 2 with fail
        go_cut [7] (fun v7 W => v7 = .slice Aw k cw ∧ Hid (∀ g ∈ fs, fieldF g ≠ fieldF f) ∧ Hid (Own W (y + 1) 31 5 Aw cw (fs.map frc)) ∧ Hid (W.heap[y]? = some (.cells (busL A2 M c2 11).toArray 25 (0, 0))) ∧ Hid (W.heap[x9]? = some (.cells (frc f).toArray 31 (0, 0))) ∧ Hid (Rd W W.heap.size A2 23 (clRows (gaveL M fs))) ∧ Hid (Below w.heap.size w W))
        case first =>
          go_wp2_with fail
          go_loopw [53] (fun vi W => ∃ j : Nat, j ≤ k ∧ vi = .int .i64 j ∧ Hid (∀ g ∈ fs.take j, fieldF g ≠ fieldF f) ∧ Hid (Own W (y + 1) 31 5 Aw cw (fs.map frc)) ∧ Hid (W.heap[y]? = some (.cells (busL A2 M c2 11).toArray 25 (0, 0))) ∧ Hid (W.heap[x9]? = some (.cells (frc f).toArray 31 (0, 0))) ∧ Hid (Rd W W.heap.size A2 23 (clRows (gaveL M fs))) ∧ Hid (Below w.heap.size w W)) (fun vi _ => k - (intOf vi).toNat)
          case atStart => exact ⟨0, Nat.zero_le _, rfl, hide (by simp), OW, B, X, C, Q⟩
          case round =>
            clear OW B X C Q
            obtain ⟨j, hj, rfl, HJ, OW, B, X, C, Q⟩ := hrel
            by_cases hjk : j < k
            · have hji : (j : Int) < (k : Int) := by omega
              have hj0 : ¬ (j : Int) < 0 := by omega
              have hjf : j < fs.length := by have := HFL.out; omega
              obtain ⟨g2, o2, hA2, -, r2⟩ := fr_at (OW.out.rd (frc_rows _)) hjf
              have PA := hide r2
              have HJ2 := hide (show fieldF fs[j] ≠ fieldF f → ∀ g ∈ fs.take (j + 1), fieldF g ≠ fieldF f from fun h g hg => by
                rw [List.take_succ_eq_append_getElem hjf] at hg
                rcases List.mem_append.1 hg with hg | hg
                · exact HJ.out g hg
                · rw [List.mem_singleton.1 hg]; exact h)
              have F1 := hide (fun W => show Calls Tryz.prog 11 #[.agg (frc f).toArray] W fun e w' => e = .returned (.string (fstr f)) ∧ Below W.heap.size W w' from refField_any f W HRF.out)
              have F2 := hide (fun W => show Calls Tryz.prog 11 #[.agg (frc fs[j]).toArray] W fun e w' => e = .returned (.string (fstr fs[j])) ∧ Below W.heap.size W w' from refField_any fs[j] W (HG.out.1 _ (List.getElem_mem hjf)).1)
              have HEQ := hide (show fieldF fs[j] = fieldF f → (fstr f).toList = (fstr fs[j]).toList from fun h => by unfold fstr; rw [h])
              have HNE := hide (show (fstr f).toList = (fstr fs[j]).toList → fieldF fs[j] = fieldF f from fun h => by
                unfold fstr at h
                rw [Lib.toList_data, Lib.toList_data] at h
                simpa using h.symm)
              generalize fs[j] = g at *
              generalize fstr f = S1 at *
              generalize fstr g = S2 at *
              clear r2
              subst hA2
              have OWr := OW
              have G := World.alloc_heap_new wr (.cells (frc zFr).toArray 31)
              have zBx11 : y < wr.heap.size := heap_lt B.out
              have zXx11 : x9 < wr.heap.size := heap_lt X.out
              have O_C_G := hide (off_new (x := wr.heap.size) C.out (by omega))
              have zQx11 : w.heap.size ≤ wr.heap.size := Q.out.size
              obtain ⟨w8', hw8'⟩ : ∃ wx, wx = wr.alloc (.cells (frc zFr).toArray 31) := ⟨_, rfl⟩
              have q7' := hide (show Below wr.heap.size wr w8' by rw [hw8']; exact (Below.refl _ _).alloc (Nat.le_refl _) _)
              rw [← hw8'] at G
              replace G := hide G
              have Tw9' := hide (show (wr.alloc (.cells (frc zFr).toArray 31)).there wr.heap.size 0 5 by rw [← hw8']; exact there_heap (cs := frc zFr) G.out)
              go_wp2_with (first | (refine wpList_load_mid rfl 31 (.tmp 55) (by rfl) g2 (o2 + j * 5) (by rfl) (frc g) _ (by exact PA.out) Tryz.underlying31 (by rfl) (by kernel_rfl) ?_) | (refine wpList_store_hid (by rfl) 31 (.tmp 11) (.tmp 56) (by rfl) wr.heap.size 0 (frc g) (by rfl) (by rfl) (by exact Tw9'.out) (by kernel_rfl) (by simp [Value.oneCell', frc]) ?_))
              intro w9' ew9'
              replace ew9' : Hid (w9' = w8'.setCells wr.heap.size 0 (frc g)) := by rw [hw8']; exact ew9'
              replace G := hide (show w9'.heap[wr.heap.size]? = some (.cells (frc g).toArray 31 (0, 0)) by rw [ew9'.out]; exact whole_heap (frc g) (xs := frc zFr) G.out rfl)
              replace q7' := hide (show Below wr.heap.size wr w9' by rw [ew9'.out]; exact q7'.out.trans (below_setCells _ _ _ (by omega)))
              clear ew9' Tw9' hw8'
              replace B := hide (heap_below B.out q7'.out)
              replace X := hide (heap_below X.out q7'.out)
              replace OW := hide (OW.out.grown q7'.out)
              replace C := hide (Rd.next C.out q7'.out q7'.out.size)
              replace Q := hide (below_next Q.out Q.out.size q7'.out)
              clear q7'
              generalize wr.heap.size = x11 at *
              clear PA OWr
              go_upto_region 16 with fail
              refine wp_region_L [0, 2] [(0, fun W => W.heap[x9]? = some (.cells (frc f).toArray 31 (0, 0))), (2, fun W => W.heap[x11]? = some (.cells (frc g).toArray 31 (0, 0)))] (by kernel_rfl) ?_
              replace OW := hide (show Own w9'.drew (y + 1) 31 5 (some ⟨g2, o2, none⟩) cw (fs.map frc) from OW.out.drew)
              replace B := hide (show w9'.drew.heap[y]? = some (.cells (busL A2 M c2 11).toArray 25 (0, 0)) from B.out)
              replace X := hide (show w9'.drew.heap[x9]? = some (.cells (frc f).toArray 31 (0, 0)) from X.out)
              replace G := hide (show w9'.drew.heap[x11]? = some (.cells (frc g).toArray 31 (0, 0)) from G.out)
              replace C := hide (show Rd (w9'.drew) (w9'.drew).heap.size A2 23 (clRows (gaveL M fs)) from C.out)
              replace Q := hide (show Below w.heap.size w w9'.drew from Q.out.drew)
              generalize w9'.drew = w10' at *
              refine wpAnyL_load (i := 0) (v := .agg (frc f).toArray) rfl rfl (by kernel_rfl) (by kernel_rfl) (by kernel_rfl) (by kernel_rfl) (by kernel_rfl) (fun _ _ _ h => h) rfl (fun W h => exec_heap W x9 31 (frc f) _ h Tryz.underlying31 rfl (by kernel_rfl) _ _ (.tmp 9) (by rfl) (by rfl)) (X.out) ?_
              go_simp
              refine wpAnyL_load (i := 2) (v := .agg (frc g).toArray) rfl rfl (by kernel_rfl) (by kernel_rfl) (by kernel_rfl) (by kernel_rfl) (by kernel_rfl) (fun _ _ _ h => h) rfl (fun W h => exec_heap W x11 31 (frc g) _ h Tryz.underlying31 rfl (by kernel_rfl) _ _ (.tmp 11) (by rfl) (by rfl)) (G.out) ?_
              go_simp
              refine wpAnyL_one (i := 1) (by kernel_rfl) ?_
              refine wpOp_do rfl rfl ?_
              go_simp
              (with_reducible refine (F1.out _).mono ?_)
              rintro ew11' w11' ⟨rfl, qw11'⟩
              replace B := hide (heap_below B.out qw11')
              replace X := hide (heap_below X.out qw11')
              replace G := hide (heap_below G.out qw11')
              replace OW := hide (OW.out.grown qw11')
              replace C := hide (Rd.next C.out qw11' qw11'.size)
              replace Q := hide (below_next Q.out Q.out.size qw11')
              clear qw11'
              go_simp
              refine ⟨keepsL_mk (by kernel_rfl) (.cons X.out (.cons G.out .nil)), ?_⟩
              go_simp
              refine wpAnyL_one (i := 3) (by kernel_rfl) ?_
              refine wpOp_do rfl rfl ?_
              go_simp
              (with_reducible refine (F2.out _).mono ?_)
              rintro ew12' w12' ⟨rfl, qw12'⟩
              replace B := hide (heap_below B.out qw12')
              replace X := hide (heap_below X.out qw12')
              replace G := hide (heap_below G.out qw12')
              replace OW := hide (OW.out.grown qw12')
              replace C := hide (Rd.next C.out qw12' qw12'.size)
              replace Q := hide (below_next Q.out Q.out.size qw12')
              clear qw12'
              go_simp
              refine ⟨keepsL_mk (by kernel_rfl) (.cons X.out (.cons G.out .nil)), ?_⟩
              go_simp
              rcases Classical.em (fieldF g = fieldF f) with hE | hE
              case inl =>
                have hs := HEQ.out hE
                have hs2 : (S1.toList == S2.toList) = true := by rw [hs]; exact beq_self_eq_true _
                clear hE
                refine wpAnyL_one (i := 4) (by kernel_rfl) ?_
                refine wpOp_do rfl rfl ?_
                go_simp
                refine ⟨keepsL_all (by kernel_rfl) (by kernel_rfl), ?_⟩
                go_simp
                refine wpAnyL_done (by kernel_rfl) ?_ _
                clear hs
                go_wp2_with fail
                go_ret
                exact ⟨rfl, Q.out⟩
              case inr =>
                have hs2 : (S1.toList == S2.toList) = false := by rw [beq_eq_false_iff_ne]; exact fun h => hE (HNE.out h)
                have hs3 : ¬ S1.toList = S2.toList := fun h => hE (HNE.out h)
                have HJ3 := hide (HJ2.out hE)
                clear hE HJ2 HEQ HNE HJ
                refine wpAnyL_one (i := 4) (by kernel_rfl) ?_
                refine wpOp_do rfl rfl ?_
                go_simp
                refine ⟨keepsL_all (by kernel_rfl) (by kernel_rfl), ?_⟩
                go_simp
                refine wpAnyL_done (by kernel_rfl) ?_ _
                go_wp2_with fail
                go_roundw
                case rel => exact ⟨j + 1, by omega, by go_num, HJ3, OW, B, X, C, Q⟩
                case measure => simp [intOf]; omega
            · obtain rfl : k = j := by omega
              have hfl : fs.take k = fs := List.take_of_length_le (by rw [HFL.out]; exact Nat.le_refl _)
              rw [hfl] at HJ
              clear hfl
              go_wp2_with fail
              go_meet
              exact ⟨rfl, HJ, OW, B, X, C, Q⟩
        case rest =>
        clear OW B X C Q
        obtain ⟨rfl, HP, OW, B, X, C, Q⟩ := hcut
        have SU := hide (fun (W : World) (hr' : Rd W W.heap.size A2 23 (clRows (gaveL M fs))) => show Calls Tryz.prog 12 #[.agg (busL A2 M c2 11).toArray, .int .i64 k, .agg (frc f).toArray] W fun e w' => ∃ A' c', e = .returned (.tuple #[.agg (busL A' M c' 11).toArray, .int .i64 0]) ∧ ClR w' w'.heap.size A' (gaveL M (fs ++ [f])) ∧ Fresh W.heap.size A' ∧ Below W.heap.size W w' from by
          have hfk : fs.length = k := HFL.out
          have hlen := gave_len (m := M) (fs := fs) (by omega)
          obtain ⟨g1, g2⟩ := gave_sub (m := M) (fs := fs) (by omega) HRF.out
          have h := busSubmit_in (gaveL M fs) A2 c2 11 k f W hr' (by rw [hlen]; exact hkM) (by omega) (by omega) (by omega) (gave_ok (fun x hx => (HG.out.1 x hx).1)) hid2
          rw [hlen] at h
          refine h.mono ?_
          rintro e w' ⟨⟨_, A', c', rfl, h2, h3⟩ | ⟨h4, _⟩, q⟩
          · rw [← hfk, g1] at h2
            rw [hlen]
            exact ⟨A', c', rfl, h2, h3, q⟩
          · rw [← hfk] at h4
            exact absurd g2 h4)
        have R1 := hide (SU.out wc C.out)
        clear SU
        have zOW := own_lt OW.out
        go_wp2_with (first | (refine wpList_load_row rfl 25 (.tmp 5) (by rfl) y (by rfl) 25 (busL A2 M c2 11).toArray (0, 0) _ (by exact B.out) Tryz.underlying25 (by rfl) (by kernel_rfl) ?_) | (refine wpList_load_row rfl 31 (.tmp 9) (by rfl) x9 (by rfl) 31 (frc f).toArray (0, 0) _ (by exact X.out) Tryz.underlying31 (by rfl) (by kernel_rfl) ?_))
        have P_C3 := hide (fun (A' : Option Addr) (h : Fresh wc.heap.size A') => offB_new (m := (clRows (gaveL M (fs ++ [f]))).length) (n := k) h OW.out (Nat.le_refl _))
        (with_reducible refine (R1.out).mono ?_)
        rintro ew13' w13' ⟨A3, c3, rfl, C3, FC3, qw13'⟩
        have O_C3_B := hide (show Off A3 (clRows (gaveL M (fs ++ [f]))).length y from off_fresh FC3 (heap_lt B.out))
        have O_C3_X := hide (show Off A3 (clRows (gaveL M (fs ++ [f]))).length x9 from off_fresh FC3 (heap_lt X.out))
        replace B := hide (heap_below B.out qw13')
        replace X := hide (heap_below X.out qw13')
        replace OW := hide (OW.out.grown qw13')
        replace C := hide (Rd.next C.out qw13' qw13'.size)
        replace Q := hide (below_next Q.out Q.out.size qw13')
        clear qw13'
        replace C3 := hide (show Rd w13' w13'.heap.size A3 23 (clRows (gaveL M (fs ++ [f]))) from C3)
        replace FC3 := hide FC3
        clear R1 zOW
        replace P_C3 := hide (P_C3.out A3 FC3.out)
        clear FC3
        clear C O_C_B
        have Z := World.alloc_heap_new w13' (.cells (busL none 0 0 0).toArray 25)
        have zBx12 : y < w13'.heap.size := heap_lt B.out
        have zXx12 : x9 < w13'.heap.size := heap_lt X.out
        have O_C3_Z := hide (off_new (x := w13'.heap.size) C3.out (by omega))
        have zQx12 : w.heap.size ≤ w13'.heap.size := Q.out.size
        obtain ⟨w15', hw15'⟩ : ∃ wx, wx = w13'.alloc (.cells (busL none 0 0 0).toArray 25) := ⟨_, rfl⟩
        have q14' := hide (show Below w13'.heap.size w13' w15' by rw [hw15']; exact (Below.refl _ _).alloc (Nat.le_refl _) _)
        rw [← hw15'] at Z
        replace Z := hide Z
        have Tw16' := hide (show (w13'.alloc (.cells (busL none 0 0 0).toArray 25)).there w13'.heap.size 0 2 by rw [← hw15']; exact there_heap (cs := busL none 0 0 0) Z.out)
        go_wp2_with (refine wpList_store_hid (by rfl) 25 (.tmp 12) (.tmp 68) (by rfl) w13'.heap.size 0 (busL A3 M c3 11) (by rfl) (by rfl) (by exact Tw16'.out) (by kernel_rfl) (by simp [Value.oneCell', busL]) ?_)
        intro w16' ew16'
        replace ew16' : Hid (w16' = w15'.setCells w13'.heap.size 0 (busL A3 M c3 11)) := by rw [hw15']; exact ew16'
        replace Z := hide (show w16'.heap[w13'.heap.size]? = some (.cells (busL A3 M c3 11).toArray 25 (0, 0)) by rw [ew16'.out]; exact whole_heap (busL A3 M c3 11) (xs := busL none 0 0 0) Z.out rfl)
        replace q14' := hide (show Below w13'.heap.size w13' w16' by rw [ew16'.out]; exact q14'.out.trans (below_setCells _ _ _ (by omega)))
        clear ew16' Tw16' hw15'
        replace B := hide (heap_below B.out q14'.out)
        replace X := hide (heap_below X.out q14'.out)
        replace OW := hide (OW.out.grown q14'.out)
        replace C3 := hide (Rd.next C3.out q14'.out q14'.out.size)
        replace Q := hide (below_next Q.out Q.out.size q14'.out)
        clear q14'
        generalize w13'.heap.size = x12 at *
        go_upto_region 22 with fail
        refine wp_region_L [0, 1, 2] [(0, fun W => W.heap[x12]? = some (.cells (busL A3 M c3 11).toArray 25 (0, 0))), (2, fun W => W.heap[x9]? = some (.cells (frc f).toArray 31 (0, 0)))] (by kernel_rfl) ?_
        replace OW := hide (show Own w16'.drew (y + 1) 31 5 Aw cw (fs.map frc) from OW.out.drew)
        replace B := hide (show w16'.drew.heap[y]? = some (.cells (busL A2 M c2 11).toArray 25 (0, 0)) from B.out)
        replace X := hide (show w16'.drew.heap[x9]? = some (.cells (frc f).toArray 31 (0, 0)) from X.out)
        replace Z := hide (show w16'.drew.heap[x12]? = some (.cells (busL A3 M c3 11).toArray 25 (0, 0)) from Z.out)
        replace C3 := hide (show Rd (w16'.drew) (w16'.drew).heap.size A3 23 (clRows (gaveL M (fs ++ [f]))) from C3.out)
        replace Q := hide (show Below w.heap.size w w16'.drew from Q.out.drew)
        generalize w16'.drew = w17' at *
        refine wpAnyL_load (i := 0) (v := .agg (busL A3 M c3 11).toArray) rfl rfl (by kernel_rfl) (by kernel_rfl) (by kernel_rfl) (by kernel_rfl) (by kernel_rfl) (fun _ _ _ h => h) rfl (fun W h => exec_heap W x12 25 (busL A3 M c3 11) _ h Tryz.underlying25 rfl (by kernel_rfl) _ _ (.tmp 12) (by rfl) (by rfl)) (Z.out) ?_
        go_simp
        refine wpAnyL_pure (i := 1) (v := .slice Aw k cw) rfl rfl (by kernel_rfl) (by kernel_rfl) (by kernel_rfl) (by kernel_rfl) (by kernel_rfl) (fun _ _ _ h => h) rfl (fun W => by go_simp) ?_
        go_simp
        refine wpAnyL_load (i := 2) (v := .agg (frc f).toArray) rfl rfl (by kernel_rfl) (by kernel_rfl) (by kernel_rfl) (by kernel_rfl) (by kernel_rfl) (fun _ _ _ h => h) rfl (fun W h => exec_heap W x9 31 (frc f) _ h Tryz.underlying31 rfl (by kernel_rfl) _ _ (.tmp 9) (by rfl) (by rfl)) (X.out) ?_
        go_simp
        refine wpAnyL_one (i := 3) (by kernel_rfl) ?_
        refine wpOp_do rfl rfl ?_
        go_simp
        have q : Below w17'.heap.size w17' (w17'.alloc (.cells (frc f).toArray 31)) := (Below.refl _ _).alloc (Nat.le_refl _) _
        have N2 := hide (World.alloc_heap_new w17' (.cells (frc f).toArray 31))
        replace B := hide (heap_below B.out q)
        replace X := hide (heap_below X.out q)
        replace Z := hide (heap_below Z.out q)
        replace OW := hide (OW.out.grown q)
        replace C3 := hide (Rd.next C3.out q q.size)
        replace Q := hide (below_next Q.out Q.out.size q)
        clear q
        try rw [splat_any _ _ (by rfl)]
        refine ⟨keepsL_mk (by kernel_rfl) (.cons (by exact Z.out) (.cons (by exact X.out) .nil)), ?_⟩
        change wpAnyL _ _ _ _ _ _ _ _ _ (w17'.alloc (.cells (frc f).toArray 31))
        generalize w17'.alloc (.cells (frc f).toArray 31) = w18' at *
        generalize w17'.heap.size = xn at *
        go_simp
        refine wpAnyL_one (i := 4) (by kernel_rfl) ?_
        refine wpOp_do rfl rfl ?_
        have zy2 : y < w18'.heap.size := heap_lt B.out
        have HK := HFL.out
        refine wp_append_rows _ _ _ 22 rfl slFrame (y + 1) _ _ _ (fs.map frc) (by rfl) OW.out _ 1 1 [frc f] (by rfl) (rd_row (cs := frc f) N2.out) (by simp [frc]) (by simp [frc, Value.oneCell']) (by rw [List.length_map, HK]; simp; omega) (by rw [List.length_map, HK]; unfold maxLen; simp; omega) (by omega) (by rw [List.length_map]; exact HK.symm) rfl ?_
        intro Aw' cw' w19' oN gN
        replace B := hide (heap_grownB B.out gN (own_not OW.out (by omega)))
        replace Z := hide (heap_grown Z.out (by decide) OW.out gN)
        replace C3 := hide (rd_grown2 C3.out gN P_C3.out)
        replace Q := hide (below_append Q.out gN OW.out (by omega) (by omega))
        replace OW := hide (show Own w19' (y + 1) 31 5 Aw' cw' ((fs ++ [f]).map frc) by rw [List.map_append]; exact oN)
        clear oN gN N2 zy2 HK X P_C3
        refine ⟨keepsL_mk (by kernel_rfl) (.cons (by exact Z.out) (.past (by kernel_rfl) .nil)), ?_⟩
        go_simp
        refine wpAnyL_one (i := 5) (by kernel_rfl) ?_
        refine wpOp_do rfl rfl ?_
        have TB := hide (show World.there _ y 0 2 from there_heap (cs := busL A2 M c2 11) B.out)
        refine wp_store_as 25 (.tmp 5) (.tmp 72) rfl y 0 (busL A3 M c3 11) (by rfl) (by rfl) (by exact TB.out) (by kernel_rfl) (by simp [Value.oneCell', busL]) ?_
        intro w20' es
        replace OW := hide (show Own w20' (y + 1) 31 5 Aw' cw' ((fs ++ [f]).map frc) by rw [es]; exact own_setCells (by omega) _ _ _ OW.out)
        replace C3 := hide (show Rd w20' w20'.heap.size A3 23 (clRows (gaveL M (fs ++ [f]))) by rw [es]; exact off_set C3.out O_C3_B.out _ _)
        replace Q := hide (show Below w.heap.size w w20' by rw [es]; exact Q.out.trans (below_setCells _ _ _ (by omega)))
        replace B := hide (show w20'.heap[y]? = some (.cells (busL A3 M c3 11).toArray 25 (0, 0)) by rw [es]; exact whole_heap (busL A3 M c3 11) (xs := busL A2 M c2 11) B.out rfl)
        clear es TB Z
        refine ⟨keepsL_all (by kernel_rfl) (by kernel_rfl), ?_⟩
        go_simp
        refine wpAnyL_one (i := 6) (by kernel_rfl) ?_
        refine wpOp_do rfl rfl ?_
        go_simp
        refine ⟨keepsL_all (by kernel_rfl) (by kernel_rfl), ?_⟩
        go_simp
        refine wpAnyL_done (by kernel_rfl) ?_ _
        have HG2 := hide (show (∀ x ∈ fs ++ [f], FP.rightB x = true ∧ x.id < 4294967296) ∧ (fs ++ [f]).Pairwise (fun a b => fieldF a ≠ fieldF b) from ⟨fun x hx => by
          rcases List.mem_append.1 hx with hx | hx
          · exact HG.out.1 x hx
          · rw [List.mem_singleton.1 hx]; exact ⟨HRF.out, hid2⟩, List.pairwise_append.2 ⟨HG.out.2, by simp, fun a ha b hb => by rw [List.mem_singleton.1 hb]; exact HP.out a ha⟩⟩)
        go_wp2_with fail
        go_roundw
        case rel => exact ⟨k + 1, Aw', cw', A3, c3, by omega, by omega, by go_num, rfl, by rw [CT.out]; exact HG2, by rw [CT.out]; exact OW, B, by rw [CT.out]; exact C3, by rw [CT.out]; exact O_C3_B, Q⟩
        case measure => simp [intOf]; omega
      · obtain rfl : k = l.length := by omega
        go_wp2_with fail
        go_meet
        exact ⟨(l.take l.length).map cut8, Aw, cw, A2, c2, by rw [List.length_map, List.length_take]; omega, by rw [List.length_map, List.length_take, Nat.min_self], HG, OW, B, C, O_C_B, Q⟩
  case rest =>
  clear B C O_C_B Q
  obtain ⟨fs, Aw, cw, A2, c2, hfM, rfl, HG, OW, B, C, O_C_B, Q⟩ := hcut
  have hfr : ∀ f ∈ fs, FP.rightB f = true := fun f hf => (HG.out.1 f hf).1
  obtain ⟨R1, R2, R3, R4, R5⟩ := gave_run (m := M) (fs := fs) hm2 hfM hfr HG.out.2 11
  obtain ⟨K, hK⟩ : ∃ K, K = 180 * fs.length + 20 := ⟨_, rfl⟩
  rw [← hK] at R1 R2 R3 R4 R5
  have hKi : 180 * (fs.length : Int) + 20 = (K : Int) := by omega
  have hK4 : K ≤ 740 := by omega
  obtain ⟨s, hs⟩ : ∃ s, s = snB (gaveL M fs) 11 K := ⟨_, rfl⟩
  obtain ⟨xs, hxs⟩ : ∃ xs, xs = itB (gaveL M fs) K := ⟨_, rfl⟩
  have hsl : s.length ≤ 3000 := by
    have := sn_le (gaveL M fs) 11 K
    rw [gave_len hfM] at this
    have h5 : K * M ≤ 740 * 4 := Nat.mul_le_mul hK4 hm4
    rw [hs]
    omega
  have hwho : ∀ y ∈ s, 0 ≤ y.who ∧ y.who < M := fun y hy => by
    have := sn_who_lt (gaveL M fs) 11 K y (by rw [← hs]; exact hy)
    rw [gave_len hfM] at this
    exact this
  have RU := hide (fun W (hr' : Rd W W.heap.size A2 23 (clRows (gaveL M fs))) => show Calls Tryz.prog 14 #[.agg (busL A2 M c2 11).toArray, .int .i64 (180 * (fs.length : Int) + 20)] W fun e w' => ∃ A' c' E ec, e = .returned (.tuple #[.agg (busL A' M c' (11 + (K : Int))).toArray, .slice E s.length ec, .int .i64 0]) ∧ ClR w' w'.heap.size A' xs ∧ Rd w' w'.heap.size E 9 (snRows s) ∧ Below W.heap.size W w' from by
    rw [hKi]
    have hlen := gave_len (m := M) (fs := fs) hfM
    have h := busRun_ok (gaveL M fs) A2 c2 11 K W hr' (by omega) (by omega) (by omega) (by omega) (by omega) (gave_ok hfr)
    rw [hlen, ← hs, ← hxs] at h
    refine h.mono ?_
    rintro e w' ⟨A', c', E, ec, rfl, h1, h2, _, h3⟩
    exact ⟨A', c', E, ec, rfl, h1, h2.rd (snRows_rows _), h3⟩)
  rw [← hs] at R1 R2 R3
  rw [← hxs] at R4 R5
  have HGOT := hide R1
  have HSENT := hide R2
  have HKIND := hide R3
  have HIDL := hide R4
  have HXL := hide R5
  have HWHO := hide hwho
  have HFM := hide hfM
  have OR := hide (fun W (q : Below wc.heap.size wc W) => refOrder_any fs Aw cw W ((OW.out.rd (frc_rows fs)).next q q.size) (by omega) HG.out.1)
  have HOL := hide (OP.orderF_len fs)
  have hw1 : IntKind.i64.wrap (180 * (fs.length : Int)) = 180 * (fs.length : Int) := IntWalk.i64_in _ (by omega)
  have hw2 : IntKind.i64.wrap (180 * (fs.length : Int) + 20) = 180 * (fs.length : Int) + 20 := IntWalk.i64_in _ (by omega)
  have O1 := hide (OR.out wc (Below.refl _ _))
  clear R1 R2 R3 R4 R5 hs hxs hwho hfr OR hKi hK
  unfold OrderV at O1
  generalize orderF fs = ord at *
  go_wp2_with fail
  (with_reducible refine (O1.out).mono ?_)
  rintro e1 w1 ⟨Ao, co, rfl, FO, -, -, q⟩
  replace FO := hide (show Rd w1 w1.heap.size Ao 5 (ord.map frc) from FO)
  rw [HOL.out]
  replace B := hide (heap_below B.out q)
  replace C := hide (Rd.next C.out q q.size)
  replace Q := hide (below_next Q.out Q.out.size q)
  clear q
  clear O1 OW O_C_B
  have R1 := hide (RU.out w1 C.out)
  clear RU
  go_wp2_with (refine wpList_load_row rfl 25 (.tmp 5) (by rfl) y (by rfl) 25 (busL A2 M c2 11).toArray (0, 0) _ (by exact B.out) Tryz.underlying25 (by rfl) (by kernel_rfl) ?_)
  (with_reducible refine (R1.out).mono ?_)
  rintro e2 w2 ⟨A3, c3, E3, d3, rfl, C3, S3, q⟩
  replace C3 := hide (show Rd w2 w2.heap.size A3 23 (clRows xs) from C3)
  replace S3 := hide S3
  replace B := hide (heap_below B.out q)
  replace C := hide (Rd.next C.out q q.size)
  replace FO := hide (Rd.next FO.out q q.size)
  replace Q := hide (below_next Q.out Q.out.size q)
  clear q
  clear R1 hw1 hw2 C B
  have X := World.alloc_heap_new w2 (.cells (busL none 0 0 0).toArray 25)
  have O_FO_X := hide (off_new (x := w2.heap.size) FO.out (by omega))
  have O_C3_X := hide (off_new (x := w2.heap.size) C3.out (by omega))
  have O_S3_X := hide (off_new (x := w2.heap.size) S3.out (by omega))
  have zQyx : w.heap.size ≤ w2.heap.size := Q.out.size
  obtain ⟨w22', hw22'⟩ : ∃ wx, wx = w2.alloc (.cells (busL none 0 0 0).toArray 25) := ⟨_, rfl⟩
  have q21' := hide (show Below w2.heap.size w2 w22' by rw [hw22']; exact (Below.refl _ _).alloc (Nat.le_refl _) _)
  rw [← hw22'] at X
  replace X := hide X
  have Tw23' := hide (show (w2.alloc (.cells (busL none 0 0 0).toArray 25)).there w2.heap.size 0 2 by rw [← hw22']; exact there_heap (cs := busL none 0 0 0) X.out)
  go_wp2_with (refine wpList_store_hid (by rfl) 25 (.tmp 14) (.tmp 87) (by rfl) w2.heap.size 0 (busL A3 M c3 (11 + (K : Int))) (by rfl) (by rfl) (by exact Tw23'.out) (by kernel_rfl) (by simp [Value.oneCell', busL]) ?_)
  intro w23' ew23'
  replace ew23' : Hid (w23' = w22'.setCells w2.heap.size 0 (busL A3 M c3 (11 + (K : Int)))) := by rw [hw22']; exact ew23'
  replace X := hide (show w23'.heap[w2.heap.size]? = some (.cells (busL A3 M c3 (11 + (K : Int))).toArray 25 (0, 0)) by rw [ew23'.out]; exact whole_heap (busL A3 M c3 (11 + (K : Int))) (xs := busL none 0 0 0) X.out rfl)
  replace q21' := hide (show Below w2.heap.size w2 w23' by rw [ew23'.out]; exact q21'.out.trans (below_setCells _ _ _ (by omega)))
  clear ew23' Tw23' hw22'
  replace FO := hide (Rd.next FO.out q21'.out q21'.out.size)
  replace C3 := hide (Rd.next C3.out q21'.out q21'.out.size)
  replace S3 := hide (Rd.next S3.out q21'.out q21'.out.size)
  replace Q := hide (below_next Q.out Q.out.size q21'.out)
  clear q21'
  generalize w2.heap.size = yx at *
  have MK := mk_got hm2 hm4
  go_upto_region 29 with fail
  clear MK
  have GS := hide (GotS.new (W := w23') (M := M) rfl)
  have q : Below w23'.heap.size w23' (w23'.alloc (.cells (Array.replicate M (.slice none 0 0)) 22)) := (Below.refl _ _).alloc (Nat.le_refl _) _
  have zxg := heap_lt X.out
  have zwg := Q.out.size
  have OG_FO := hide (off_new (x := w23'.heap.size) FO.out (Nat.le_refl _))
  have LT_FO := hide (rd_lt FO.out)
  have OG_C3 := hide (off_new (x := w23'.heap.size) C3.out (Nat.le_refl _))
  have LT_C3 := hide (rd_lt C3.out)
  have OG_S3 := hide (off_new (x := w23'.heap.size) S3.out (Nat.le_refl _))
  have LT_S3 := hide (rd_lt S3.out)
  replace X := hide (heap_below X.out q)
  replace FO := hide (Rd.next FO.out q q.size)
  replace C3 := hide (Rd.next C3.out q q.size)
  replace S3 := hide (Rd.next S3.out q q.size)
  replace Q := hide (below_next Q.out Q.out.size q)
  clear q
  generalize w23'.alloc (.cells (Array.replicate M (.slice none 0 0)) 22) = w5 at *
  generalize w23'.heap.size = gb at *
  go_wp2_with fail
  go_loopw [96, 18] (fun vi v18 W => ∃ (k : Nat) (GA : Nat → Option Addr) (gc : Nat → Nat), k ≤ s.length ∧ vi = .int .i64 k ∧ v18 = .int .i64 (sentOf (s.take k)) ∧ Hid (GotS W (gb + 1) M gb (fun j => gotOf j (s.take k)) GA gc) ∧ Hid (W.heap[yx]? = some (.cells (busL A3 M c3 (11 + (K : Int))).toArray 25 (0, 0))) ∧ Hid (Rd W W.heap.size Ao 5 (ord.map frc)) ∧ Hid (Rd W W.heap.size A3 23 (clRows xs)) ∧ Hid (Rd W W.heap.size E3 9 (snRows s)) ∧ Hid (Below w.heap.size w W)) (fun vi _ _ => s.length - (intOf vi).toNat)
  case atStart => exact ⟨0, _, _, Nat.zero_le _, rfl, rfl, GS, X, FO, C3, S3, Q⟩
  case round =>
    clear GS X FO C3 S3 Q
    obtain ⟨k, GA, gc, hk, rfl, rfl, GS, X, FO, C3, S3, Q⟩ := hrel
    by_cases hlt : k < s.length
    · have hki : (k : Int) < (s.length : Int) := by omega
      have hk0 : ¬ (k : Int) < 0 := by omega
      obtain ⟨g1, o1, hA1, -, r1⟩ := sn_cells S3.out hlt
      have PA := hide r1
      obtain ⟨hw0, hwM⟩ := HWHO.out _ (List.getElem_mem hlt)
      obtain ⟨p, hp⟩ : ∃ p : Nat, s[k].who = p := ⟨s[k].who.toNat, by omega⟩
      have hpM : p < M := by omega
      have hpi : (p : Int) < (M : Int) := by omega
      have hp0 : ¬ (p : Int) < 0 := by omega
      have HKD := hide (HKIND.out _ (List.getElem_mem hlt))
      obtain ⟨rw0, hrw⟩ : ∃ R : Nat → List Fr, R = fun j => gotOf j (s.take k) := ⟨_, rfl⟩
      rw [← hrw] at GS
      have GU := hide (got_upd2 hrw hlt hp)
      have GE := hide (got_same2 hrw hlt)
      have HLR := hide (got_short hrw hsl)
      have TS := hide (sentOf_take s hlt)
      have HP := hide hp
      have hse : sentOf (s.take k) ≤ 3000 := by unfold sentOf; have := List.length_filter_le (fun y : Sn => decide (y.kind = 1)) (s.take k); rw [List.length_take] at this; omega
      generalize s[k] = v at *
      generalize sentOf (s.take k) = m at *
      clear r1 hw0 hwM hp hrw
      subst hA1
      have zgx := GS.out.le
      have V := World.alloc_heap_new wr (.cells (sncs zSn).toArray 46)
      have zXxv : yx < wr.heap.size := heap_lt X.out
      have O_FO_V := hide (off_new (x := wr.heap.size) FO.out (by omega))
      have O_C3_V := hide (off_new (x := wr.heap.size) C3.out (by omega))
      have O_S3_V := hide (off_new (x := wr.heap.size) S3.out (by omega))
      have zQxv : w.heap.size ≤ wr.heap.size := Q.out.size
      obtain ⟨w25', hw25'⟩ : ∃ wx, wx = wr.alloc (.cells (sncs zSn).toArray 46) := ⟨_, rfl⟩
      have q24' := hide (show Below wr.heap.size wr w25' by rw [hw25']; exact (Below.refl _ _).alloc (Nat.le_refl _) _)
      rw [← hw25'] at V
      replace V := hide V
      have Tw26' := hide (show (wr.alloc (.cells (sncs zSn).toArray 46)).there wr.heap.size 0 9 by rw [← hw25']; exact there_heap (cs := sncs zSn) V.out)
      go_wp2_with (first | (refine wpList_load_mid rfl 46 (.tmp 98) (by rfl) g1 (o1 + k * 9) (by rfl) (sncs v) _ (by exact PA.out) Tryz.underlying46 (by rfl) (by kernel_rfl) ?_) | (refine wpList_store_hid (by rfl) 46 (.tmp 20) (.tmp 99) (by rfl) wr.heap.size 0 (sncs v) (by rfl) (by rfl) (by exact Tw26'.out) (by kernel_rfl) (by simp [Value.oneCell', sncs, evL]) ?_))
      intro w26' ew26'
      replace ew26' : Hid (w26' = w25'.setCells wr.heap.size 0 (sncs v)) := by rw [hw25']; exact ew26'
      replace V := hide (show w26'.heap[wr.heap.size]? = some (.cells (sncs v).toArray 46 (0, 0)) by rw [ew26'.out]; exact whole_heap (sncs v) (xs := sncs zSn) V.out rfl)
      replace q24' := hide (show Below wr.heap.size wr w26' by rw [ew26'.out]; exact q24'.out.trans (below_setCells _ _ _ (by omega)))
      clear ew26' Tw26' hw25'
      replace X := hide (heap_below X.out q24'.out)
      replace GS := hide (GS.out.below q24'.out)
      replace FO := hide (Rd.next FO.out q24'.out q24'.out.size)
      replace C3 := hide (Rd.next C3.out q24'.out q24'.out.size)
      replace S3 := hide (Rd.next S3.out q24'.out q24'.out.size)
      replace Q := hide (below_next Q.out Q.out.size q24'.out)
      clear q24'
      generalize wr.heap.size = xv at *
      clear PA
      obtain ⟨v0, v1, v2, v3⟩ := sn_box V.out
      rcases HKD.out with hk1 | hk1 | hk1
      case inl =>
        rw [hk1] at v2
        replace hk1 := hide hk1
        go_upto_region 37 with fail
        clear v0 v1 v2 v3
        refine wp_region_L [0, 1, 2, 3, 4, 5, 6, 7, 8, 9, 10] [(2, fun W => W.heap[xv]? = some (.cells (sncs v).toArray 46 (0, 0))), (5, fun W => W.heap[xv]? = some (.cells (sncs v).toArray 46 (0, 0))), (7, fun W => W.heap[gb]? = some (.cells (gotC M GA (fun j => (rw0 j).length) gc).toArray 22 (0, 0))), (10, fun W => W.heap[xv]? = some (.cells (sncs v).toArray 46 (0, 0)))] (by kernel_rfl) ?_
        replace GS := hide (show GotS w26'.drew (gb + 1) M gb rw0 GA gc from GS.out.below (Below.refl _ _).drew)
        replace X := hide (show w26'.drew.heap[yx]? = some (.cells (busL A3 M c3 (11 + (K : Int))).toArray 25 (0, 0)) from X.out)
        replace V := hide (show w26'.drew.heap[xv]? = some (.cells (sncs v).toArray 46 (0, 0)) from V.out)
        replace FO := hide (show Rd (w26'.drew) (w26'.drew).heap.size Ao 5 (ord.map frc) from FO.out)
        replace C3 := hide (show Rd (w26'.drew) (w26'.drew).heap.size A3 23 (clRows xs) from C3.out)
        replace S3 := hide (show Rd (w26'.drew) (w26'.drew).heap.size (some ⟨g1, o1, none⟩) 9 (snRows s) from S3.out)
        replace Q := hide (show Below w.heap.size w w26'.drew from Q.out.drew)
        generalize w26'.drew = w27' at *
        refine wpAnyL_pure (i := 0) (v := .slice (some ⟨gb, 0, none⟩) M M) rfl rfl (by kernel_rfl) (by kernel_rfl) (by kernel_rfl) (by kernel_rfl) (by kernel_rfl) (fun _ _ _ h => h) rfl (fun W => by go_simp) ?_
        go_simp
        refine wpAnyL_pure (i := 1) (v := .pointer (some ⟨xv, 1, none⟩)) rfl rfl (by kernel_rfl) (by kernel_rfl) (by kernel_rfl) (by kernel_rfl) (by kernel_rfl) (fun _ _ _ h => h) rfl (fun W => by go_simp) ?_
        go_simp
        refine wpAnyL_load (i := 2) (v := .int .i64 p) rfl rfl (by kernel_rfl) (by kernel_rfl) (by kernel_rfl) (by kernel_rfl) (by kernel_rfl) (fun _ _ _ h => h) rfl (fun W h => by have h0 : W.cell? ⟨xv, 1, none⟩ = some (.int .i64 p) := (by simp [World.cell?, h, sncs, HP.out]); clear h; go_simp) (V.out) ?_
        go_simp
        refine wpAnyL_pure (i := 3) (v := .slice (some ⟨gb, 0, none⟩) M M) rfl rfl (by kernel_rfl) (by kernel_rfl) (by kernel_rfl) (by kernel_rfl) (by kernel_rfl) (fun _ _ _ h => h) rfl (fun W => by go_simp) ?_
        go_simp
        refine wpAnyL_pure (i := 4) (v := .pointer (some ⟨xv, 1, none⟩)) rfl rfl (by kernel_rfl) (by kernel_rfl) (by kernel_rfl) (by kernel_rfl) (by kernel_rfl) (fun _ _ _ h => h) rfl (fun W => by go_simp) ?_
        go_simp
        refine wpAnyL_load (i := 5) (v := .int .i64 p) rfl rfl (by kernel_rfl) (by kernel_rfl) (by kernel_rfl) (by kernel_rfl) (by kernel_rfl) (fun _ _ _ h => h) rfl (fun W h => by have h0 : W.cell? ⟨xv, 1, none⟩ = some (.int .i64 p) := (by simp [World.cell?, h, sncs, HP.out]); clear h; go_simp) (V.out) ?_
        go_simp
        refine wpAnyL_pure (i := 6) (v := .pointer (some ⟨gb, p, none⟩)) rfl rfl (by kernel_rfl) (by kernel_rfl) (by kernel_rfl) (by kernel_rfl) (by kernel_rfl) (fun _ _ _ h => h) rfl (fun W => by go_simp) ?_
        go_simp
        refine wpAnyL_load (i := 7) (v := .slice (GA p) (rw0 p).length (gc p)) rfl rfl (by kernel_rfl) (by kernel_rfl) (by kernel_rfl) (by kernel_rfl) (by kernel_rfl) (fun _ _ _ h => h) rfl (fun W h => by have h0 := got_cell h hpM; clear h; go_simp) (GS.out.box) ?_
        go_simp
        refine wpAnyL_pure (i := 8) (v := .pointer (some ⟨xv, 2, none⟩)) rfl rfl (by kernel_rfl) (by kernel_rfl) (by kernel_rfl) (by kernel_rfl) (by kernel_rfl) (fun _ _ _ h => h) rfl (fun W => by go_simp) ?_
        go_simp
        refine wpAnyL_pure (i := 9) (v := .pointer (some ⟨xv, 3, none⟩)) rfl rfl (by kernel_rfl) (by kernel_rfl) (by kernel_rfl) (by kernel_rfl) (by kernel_rfl) (fun _ _ _ h => h) rfl (fun W => by go_simp) ?_
        go_simp
        refine wpAnyL_load (i := 10) (v := .agg (frc v.ef).toArray) rfl rfl (by kernel_rfl) (by kernel_rfl) (by kernel_rfl) (by kernel_rfl) (by kernel_rfl) (fun _ _ _ h => h) rfl (fun W h => exec_load W xv 3 31 (frc v.ef) _ (sn_fr h) Tryz.underlying31 rfl (by kernel_rfl) _ _ (.tmp 116) (by rfl) (by rfl)) (V.out) ?_
        go_simp
        refine wpAnyL_one (i := 11) (by kernel_rfl) ?_
        refine wpOp_do rfl rfl ?_
        go_simp
        have q : Below w27'.heap.size w27' (w27'.alloc (.cells (frc v.ef).toArray 31)) := (Below.refl _ _).alloc (Nat.le_refl _) _
        have N2 := hide (World.alloc_heap_new w27' (.cells (frc v.ef).toArray 31))
        replace X := hide (heap_below X.out q)
        replace V := hide (heap_below V.out q)
        replace GS := hide (GS.out.below q)
        have GB := GS.out.box
        replace FO := hide (Rd.next FO.out q q.size)
        replace C3 := hide (Rd.next C3.out q q.size)
        replace S3 := hide (Rd.next S3.out q q.size)
        replace Q := hide (below_next Q.out Q.out.size q)
        clear q
        try rw [splat_any _ _ (by rfl)]
        refine ⟨keepsL_mk (by kernel_rfl) (.cons (by exact V.out) (.cons (by exact V.out) (.cons (by exact GB) (.cons (by exact V.out) .nil)))), ?_⟩
        clear GB
        change wpAnyL _ _ _ _ _ _ _ _ _ (w27'.alloc (.cells (frc v.ef).toArray 31))
        generalize w27'.alloc (.cells (frc v.ef).toArray 31) = w28' at *
        generalize w27'.heap.size = xn at *
        go_simp
        refine wpAnyL_one (i := 12) (by kernel_rfl) ?_
        refine wpOp_do rfl rfl ?_
        have OWp := GS.out.own p hpM
        have hlp := HLR.out p
        have zgw := GS.out.le
        have zwq := Q.out.size
        refine wp_append_one_lies _ _ _ 22 rfl slFrame (gb + 1) _ _ _ ((rw0 p).map frc) (by rfl) OWp _ 1 (frc v.ef) (by rfl) (rd_row (cs := frc v.ef) N2.out) (by simp [frc]) (by simp [frc, Value.oneCell']) (by rw [List.length_map]; omega) (by rw [List.length_map]; unfold maxLen; omega) (by omega) (by rw [List.length_map]) ?_
        intro A' c' w29' oN gN lN
        replace X := hide (heap_grown X.out (by decide) OWp gN)
        replace V := hide (heap_grown V.out (by decide) OWp gN)
        have GB := hide (heap_grownB GS.out.box gN (own_not OWp (by omega)))
        replace FO := hide (rd_grown2 FO.out gN (offB_lt LT_FO.out OWp (by omega)))
        replace C3 := hide (rd_grown2 C3.out gN (offB_lt LT_C3.out OWp (by omega)))
        replace S3 := hide (rd_grown2 S3.out gN (offB_lt LT_S3.out OWp (by omega)))
        replace Q := hide (below_append Q.out gN OWp (by omega) (by omega))
        have GN := hide (fun W2 e2 => GS.out.append (W2 := W2) hpM oN gN lN e2)
        clear oN gN lN N2 OWp hlp zgw GS
        refine ⟨keepsL_mk (by kernel_rfl) (.cons (by exact V.out) (.cons (by exact V.out) (.cons (by exact GB.out) (.cons (by exact V.out) .nil)))), ?_⟩
        go_simp
        refine wpAnyL_one (i := 13) (by kernel_rfl) ?_
        refine wpOp_do rfl rfl ?_
        go_simp
        refine ⟨keepsL_all (by kernel_rfl) (by kernel_rfl), ?_⟩
        go_simp
        refine wpAnyL_one (i := 14) (by kernel_rfl) ?_
        refine wpOp_do rfl rfl ?_
        have h0 := got_cell GB.out hpM
        have hfz : w29'.frozen? ⟨gb, p, none⟩ = false := by simp [World.frozen?, GB.out]
        have hlp := HLR.out p
        go_simp
        clear h0 hfz
        refine ⟨keepsL_all (by kernel_rfl) (by kernel_rfl), ?_⟩
        obtain ⟨w30', es⟩ : ∃ w5, w5 = w29'.setCell ⟨gb, p, none⟩ (.slice A' ((rw0 p).length + 1) c') := ⟨_, rfl⟩
        rw [← es]
        have GS := hide (GN.out w30' es)
        replace es : Hid (w30' = w29'.setCells gb p [.slice A' ((rw0 p).length + 1) c']) := es
        replace X := hide (show w30'.heap[yx]? = some (.cells (busL A3 M c3 (11 + (K : Int))).toArray 25 (0, 0)) by rw [es.out]; exact other_heap (by omega) _ _ _ X.out)
        replace FO := hide (show Rd w30' w30'.heap.size Ao 5 (ord.map frc) by rw [es.out]; exact off_set FO.out OG_FO.out _ _)
        replace C3 := hide (show Rd w30' w30'.heap.size A3 23 (clRows xs) by rw [es.out]; exact off_set C3.out OG_C3.out _ _)
        replace S3 := hide (show Rd w30' w30'.heap.size (some ⟨g1, o1, none⟩) 9 (snRows s) by rw [es.out]; exact off_set S3.out OG_S3.out _ _)
        replace Q := hide (show Below w.heap.size w w30' by rw [es.out]; exact Q.out.trans (below_setCells _ _ _ (by omega)))
        clear es GN GB V hlp
        go_simp
        refine wpAnyL_done (by kernel_rfl) ?_ _
        go_wp2_with fail
        go_roundw
        case rel => exact ⟨k + 1, _, _, by omega, by go_num, by rw [TS.out, if_pos hk1.out]; go_num, by rw [GU.out (.inl hk1.out)]; exact GS, X, FO, C3, S3, Q⟩
        case measure => simp [intOf]; omega
      case inr.inl =>
        rw [hk1] at v2
        replace hk1 := hide hk1
        go_upto_region 39 with fail
        clear v0 v1 v2 v3
        refine wp_region_L [0, 1, 2, 3, 4, 5, 6, 7, 8, 9, 10] [(2, fun W => W.heap[xv]? = some (.cells (sncs v).toArray 46 (0, 0))), (5, fun W => W.heap[xv]? = some (.cells (sncs v).toArray 46 (0, 0))), (7, fun W => W.heap[gb]? = some (.cells (gotC M GA (fun j => (rw0 j).length) gc).toArray 22 (0, 0))), (10, fun W => W.heap[xv]? = some (.cells (sncs v).toArray 46 (0, 0)))] (by kernel_rfl) ?_
        replace GS := hide (show GotS w26'.drew (gb + 1) M gb rw0 GA gc from GS.out.below (Below.refl _ _).drew)
        replace X := hide (show w26'.drew.heap[yx]? = some (.cells (busL A3 M c3 (11 + (K : Int))).toArray 25 (0, 0)) from X.out)
        replace V := hide (show w26'.drew.heap[xv]? = some (.cells (sncs v).toArray 46 (0, 0)) from V.out)
        replace FO := hide (show Rd (w26'.drew) (w26'.drew).heap.size Ao 5 (ord.map frc) from FO.out)
        replace C3 := hide (show Rd (w26'.drew) (w26'.drew).heap.size A3 23 (clRows xs) from C3.out)
        replace S3 := hide (show Rd (w26'.drew) (w26'.drew).heap.size (some ⟨g1, o1, none⟩) 9 (snRows s) from S3.out)
        replace Q := hide (show Below w.heap.size w w26'.drew from Q.out.drew)
        generalize w26'.drew = w31' at *
        refine wpAnyL_pure (i := 0) (v := .slice (some ⟨gb, 0, none⟩) M M) rfl rfl (by kernel_rfl) (by kernel_rfl) (by kernel_rfl) (by kernel_rfl) (by kernel_rfl) (fun _ _ _ h => h) rfl (fun W => by go_simp) ?_
        go_simp
        refine wpAnyL_pure (i := 1) (v := .pointer (some ⟨xv, 1, none⟩)) rfl rfl (by kernel_rfl) (by kernel_rfl) (by kernel_rfl) (by kernel_rfl) (by kernel_rfl) (fun _ _ _ h => h) rfl (fun W => by go_simp) ?_
        go_simp
        refine wpAnyL_load (i := 2) (v := .int .i64 p) rfl rfl (by kernel_rfl) (by kernel_rfl) (by kernel_rfl) (by kernel_rfl) (by kernel_rfl) (fun _ _ _ h => h) rfl (fun W h => by have h0 : W.cell? ⟨xv, 1, none⟩ = some (.int .i64 p) := (by simp [World.cell?, h, sncs, HP.out]); clear h; go_simp) (V.out) ?_
        go_simp
        refine wpAnyL_pure (i := 3) (v := .slice (some ⟨gb, 0, none⟩) M M) rfl rfl (by kernel_rfl) (by kernel_rfl) (by kernel_rfl) (by kernel_rfl) (by kernel_rfl) (fun _ _ _ h => h) rfl (fun W => by go_simp) ?_
        go_simp
        refine wpAnyL_pure (i := 4) (v := .pointer (some ⟨xv, 1, none⟩)) rfl rfl (by kernel_rfl) (by kernel_rfl) (by kernel_rfl) (by kernel_rfl) (by kernel_rfl) (fun _ _ _ h => h) rfl (fun W => by go_simp) ?_
        go_simp
        refine wpAnyL_load (i := 5) (v := .int .i64 p) rfl rfl (by kernel_rfl) (by kernel_rfl) (by kernel_rfl) (by kernel_rfl) (by kernel_rfl) (fun _ _ _ h => h) rfl (fun W h => by have h0 : W.cell? ⟨xv, 1, none⟩ = some (.int .i64 p) := (by simp [World.cell?, h, sncs, HP.out]); clear h; go_simp) (V.out) ?_
        go_simp
        refine wpAnyL_pure (i := 6) (v := .pointer (some ⟨gb, p, none⟩)) rfl rfl (by kernel_rfl) (by kernel_rfl) (by kernel_rfl) (by kernel_rfl) (by kernel_rfl) (fun _ _ _ h => h) rfl (fun W => by go_simp) ?_
        go_simp
        refine wpAnyL_load (i := 7) (v := .slice (GA p) (rw0 p).length (gc p)) rfl rfl (by kernel_rfl) (by kernel_rfl) (by kernel_rfl) (by kernel_rfl) (by kernel_rfl) (fun _ _ _ h => h) rfl (fun W h => by have h0 := got_cell h hpM; clear h; go_simp) (GS.out.box) ?_
        go_simp
        refine wpAnyL_pure (i := 8) (v := .pointer (some ⟨xv, 2, none⟩)) rfl rfl (by kernel_rfl) (by kernel_rfl) (by kernel_rfl) (by kernel_rfl) (by kernel_rfl) (fun _ _ _ h => h) rfl (fun W => by go_simp) ?_
        go_simp
        refine wpAnyL_pure (i := 9) (v := .pointer (some ⟨xv, 3, none⟩)) rfl rfl (by kernel_rfl) (by kernel_rfl) (by kernel_rfl) (by kernel_rfl) (by kernel_rfl) (fun _ _ _ h => h) rfl (fun W => by go_simp) ?_
        go_simp
        refine wpAnyL_load (i := 10) (v := .agg (frc v.ef).toArray) rfl rfl (by kernel_rfl) (by kernel_rfl) (by kernel_rfl) (by kernel_rfl) (by kernel_rfl) (fun _ _ _ h => h) rfl (fun W h => exec_load W xv 3 31 (frc v.ef) _ (sn_fr h) Tryz.underlying31 rfl (by kernel_rfl) _ _ (.tmp 132) (by rfl) (by rfl)) (V.out) ?_
        go_simp
        refine wpAnyL_one (i := 11) (by kernel_rfl) ?_
        refine wpOp_do rfl rfl ?_
        go_simp
        have q : Below w31'.heap.size w31' (w31'.alloc (.cells (frc v.ef).toArray 31)) := (Below.refl _ _).alloc (Nat.le_refl _) _
        have N2 := hide (World.alloc_heap_new w31' (.cells (frc v.ef).toArray 31))
        replace X := hide (heap_below X.out q)
        replace V := hide (heap_below V.out q)
        replace GS := hide (GS.out.below q)
        have GB := GS.out.box
        replace FO := hide (Rd.next FO.out q q.size)
        replace C3 := hide (Rd.next C3.out q q.size)
        replace S3 := hide (Rd.next S3.out q q.size)
        replace Q := hide (below_next Q.out Q.out.size q)
        clear q
        try rw [splat_any _ _ (by rfl)]
        refine ⟨keepsL_mk (by kernel_rfl) (.cons (by exact V.out) (.cons (by exact V.out) (.cons (by exact GB) (.cons (by exact V.out) .nil)))), ?_⟩
        clear GB
        change wpAnyL _ _ _ _ _ _ _ _ _ (w31'.alloc (.cells (frc v.ef).toArray 31))
        generalize w31'.alloc (.cells (frc v.ef).toArray 31) = w32' at *
        generalize w31'.heap.size = xn at *
        go_simp
        refine wpAnyL_one (i := 12) (by kernel_rfl) ?_
        refine wpOp_do rfl rfl ?_
        have OWp := GS.out.own p hpM
        have hlp := HLR.out p
        have zgw := GS.out.le
        have zwq := Q.out.size
        refine wp_append_one_lies _ _ _ 22 rfl slFrame (gb + 1) _ _ _ ((rw0 p).map frc) (by rfl) OWp _ 1 (frc v.ef) (by rfl) (rd_row (cs := frc v.ef) N2.out) (by simp [frc]) (by simp [frc, Value.oneCell']) (by rw [List.length_map]; omega) (by rw [List.length_map]; unfold maxLen; omega) (by omega) (by rw [List.length_map]) ?_
        intro A' c' w33' oN gN lN
        replace X := hide (heap_grown X.out (by decide) OWp gN)
        replace V := hide (heap_grown V.out (by decide) OWp gN)
        have GB := hide (heap_grownB GS.out.box gN (own_not OWp (by omega)))
        replace FO := hide (rd_grown2 FO.out gN (offB_lt LT_FO.out OWp (by omega)))
        replace C3 := hide (rd_grown2 C3.out gN (offB_lt LT_C3.out OWp (by omega)))
        replace S3 := hide (rd_grown2 S3.out gN (offB_lt LT_S3.out OWp (by omega)))
        replace Q := hide (below_append Q.out gN OWp (by omega) (by omega))
        have GN := hide (fun W2 e2 => GS.out.append (W2 := W2) hpM oN gN lN e2)
        clear oN gN lN N2 OWp hlp zgw GS
        refine ⟨keepsL_mk (by kernel_rfl) (.cons (by exact V.out) (.cons (by exact V.out) (.cons (by exact GB.out) (.cons (by exact V.out) .nil)))), ?_⟩
        go_simp
        refine wpAnyL_one (i := 13) (by kernel_rfl) ?_
        refine wpOp_do rfl rfl ?_
        go_simp
        refine ⟨keepsL_all (by kernel_rfl) (by kernel_rfl), ?_⟩
        go_simp
        refine wpAnyL_one (i := 14) (by kernel_rfl) ?_
        refine wpOp_do rfl rfl ?_
        have h0 := got_cell GB.out hpM
        have hfz : w33'.frozen? ⟨gb, p, none⟩ = false := by simp [World.frozen?, GB.out]
        have hlp := HLR.out p
        go_simp
        clear h0 hfz
        refine ⟨keepsL_all (by kernel_rfl) (by kernel_rfl), ?_⟩
        obtain ⟨w34', es⟩ : ∃ w5, w5 = w33'.setCell ⟨gb, p, none⟩ (.slice A' ((rw0 p).length + 1) c') := ⟨_, rfl⟩
        rw [← es]
        have GS := hide (GN.out w34' es)
        replace es : Hid (w34' = w33'.setCells gb p [.slice A' ((rw0 p).length + 1) c']) := es
        replace X := hide (show w34'.heap[yx]? = some (.cells (busL A3 M c3 (11 + (K : Int))).toArray 25 (0, 0)) by rw [es.out]; exact other_heap (by omega) _ _ _ X.out)
        replace FO := hide (show Rd w34' w34'.heap.size Ao 5 (ord.map frc) by rw [es.out]; exact off_set FO.out OG_FO.out _ _)
        replace C3 := hide (show Rd w34' w34'.heap.size A3 23 (clRows xs) by rw [es.out]; exact off_set C3.out OG_C3.out _ _)
        replace S3 := hide (show Rd w34' w34'.heap.size (some ⟨g1, o1, none⟩) 9 (snRows s) by rw [es.out]; exact off_set S3.out OG_S3.out _ _)
        replace Q := hide (show Below w.heap.size w w34' by rw [es.out]; exact Q.out.trans (below_setCells _ _ _ (by omega)))
        clear es GN GB V hlp
        go_simp
        refine wpAnyL_done (by kernel_rfl) ?_ _
        go_wp2_with fail
        go_roundw
        case rel => exact ⟨k + 1, _, _, by omega, by go_num, by rw [TS.out, if_neg (by rw [hk1.out]; decide), Nat.add_zero], by rw [GU.out (.inr hk1.out)]; exact GS, X, FO, C3, S3, Q⟩
        case measure => simp [intOf]; omega
      case inr.inr =>
        rw [hk1] at v2
        have GE2 := hide (GE.out hk1)
        have TS2 := hide (show sentOf (s.take (k + 1)) = m by rw [TS.out, if_neg (by rw [hk1]; decide), Nat.add_zero])
        clear hk1 GE TS GU
        go_wp2_with fail
        clear v0 v1 v2 v3
        go_roundw
        case rel => exact ⟨k + 1, _, _, by omega, by go_num, by rw [TS2.out], by rw [GE2.out]; exact GS, X, FO, C3, S3, Q⟩
        case measure => simp [intOf]; omega
    · obtain rfl : k = s.length := by omega
      rw [List.take_length] at GS
      rw [List.take_length, HSENT.out]
      have HGL := hide (fun j (hj : j < M) => show (gotOf j s).length = fs.length by rw [HGOT.out j hj, HOL.out])
      clear HSENT HKIND HWHO
      clear S3 OG_S3 LT_S3
      go_wp2_with fail
      go_loopw [141] (fun vi W => ∃ k : Nat, k ≤ M ∧ vi = .int .i64 k ∧ Hid (GotS W (gb + 1) M gb (fun j => gotOf j s) GA gc) ∧ Hid (W.heap[yx]? = some (.cells (busL A3 M c3 (11 + (K : Int))).toArray 25 (0, 0))) ∧ Hid (Rd W W.heap.size Ao 5 (ord.map frc)) ∧ Hid (Rd W W.heap.size A3 23 (clRows xs)) ∧ Hid (Below w.heap.size w W)) (fun vi _ => M - (intOf vi).toNat)
      case atStart => exact ⟨0, Nat.zero_le _, rfl, GS, X, FO, C3, Q⟩
      case round =>
        clear GS X FO C3 Q
        obtain ⟨k, hk, rfl, GS, X, FO, C3, Q⟩ := hrel
        by_cases hlt : k < M
        · have hki : (k : Int) < (M : Int) := by omega
          have hk0 : ¬ (k : Int) < 0 := by omega
          have hkx : k < xs.length := by have := HXL.out; omega
          obtain ⟨g3, o3, hA3, -, r3⟩ := ClR.at_ (l := xs) C3.out hkx
          have PR := hide r3
          obtain ⟨hidl, hhas⟩ := HIDL.out _ (List.getElem_mem hkx)
          obtain ⟨t1, t2, t3, t4⟩ := idl_count hidl
          generalize xs[k] = d at *
          subst hA3
          have h0 : wr.cell? ⟨gb, k, none⟩ = some (.slice (GA k) fs.length (gc k)) := by
            have := (GS.out.cell hlt).1
            try dsimp only at this
            rw [HGL.out k hlt] at this
            exact this
          have SM := hide (show Calls Tryz.prog 15 #[.slice (GA k) fs.length (gc k), .slice Ao fs.length co] wr fun e w' => e = .returned (.bool true) ∧ Below wr.heap.size wr w' from by
            have h := same5b ord (GA k) (gc k) Ao co wr (by
              have := (GS.out.own k hlt).rd (frc_rows _)
              try dsimp only at this
              rw [HGOT.out k hlt] at this
              exact this) FO.out (by rw [HOL.out]; have := HFM.out; omega)
            rw [HOL.out] at h
            exact h)
          have HT := hide (show d.tc = 0 ∧ d.rc = 0 ∧ d.off = false ∧ d.rs = 0 ∧ d.has = false from ⟨t1, t2, t3, t4, hhas⟩)
          clear r3 hidl hhas t1 t2 t3 t4
          go_wp2_with fail
          (with_reducible refine (SM.out).mono ?_)
          rintro e6 w6 ⟨rfl, q⟩
          clear h0 SM
          have PR6 := hide (show w6.rangeAt g3 (o3 + k * 23) d.cs from fun j v hj => cellBelow q (by obtain ⟨_, _, e, hb, _⟩ := ClR.at_ (l := xs) C3.out hkx; cases e; exact hb) (PR.out j v hj))
          clear PR
          replace X := hide (heap_below X.out q)
          replace GS := hide (GS.out.below q)
          replace FO := hide (Rd.next FO.out q q.size)
          replace C3 := hide (Rd.next C3.out q q.size)
          replace Q := hide (below_next Q.out Q.out.size q)
          clear q
          obtain ⟨t1, t2, t3, t4, t5⟩ := HT.out
          have PC := hide (show w6.rangeAt g3 (o3 + k * 23) [.int .i64 0, .int .i64 0, .bool false, .int .i64 0] from fun j v hj => by
            refine PR6.out j v ?_
            have hj4 : j < 4 := (List.getElem?_eq_some_iff.1 hj).1
            show (d.cs)[j]? = some v
            unfold Cl.cs
            rw [t1, t2, t3, t4]
            obtain rfl | rfl | rfl | rfl : j = 0 ∨ j = 1 ∨ j = 2 ∨ j = 3 := by omega
            all_goals exact hj)
          have p8 := PR6.out 8 (.bool d.has) rfl
          rw [t5] at p8
          clear t1 t2 t3 t4 t5 PR6 HT
          obtain ⟨b0, b1⟩ := bus_cells X.out
          go_wp2_with (first | (refine wpList_load_midG (by kernel_rfl) 49 (.tmp 156) (by rfl) g3 (o3 + k * 23) (by rfl) [.int .i64 0, .int .i64 0, .bool false, .int .i64 0] _ (by exact PC.out) Tryz.underlying49 (by rfl) (by kernel_rfl) ?_))
          clear PC p8 b0 b1
          go_roundw
          case rel => exact ⟨k + 1, by omega, by go_num, GS, X, FO, C3, Q⟩
          case measure => simp [intOf]; omega
        · obtain rfl : M = k := by omega
          go_wp2_with fail
          go_ret
          exact ⟨rfl, Q.out⟩
end Go.Proofs.YtjfgapljfbkfiaaGreatDoor
