/- The walk of TopRouted. -/
import Derived.Test.YthkilodnghiocaaGreatDoorTrX
import Derived.Test.YthkilodnghiocaaGreatDoorTrY
namespace Go.Proofs.YthkilodnghiocaaGreatDoor
open Go.ChangeShapes Go.WideShapes Go.ChangeAt Go.RowKit
open FP (Fr bitsF bodyF)


set_option maxRecDepth 100000 in
set_option maxHeartbeats 64000000 in
theorem topRouted_walk (l : List ByteArray) (LA : Option Addr) (lc id : Nat) (w : World) (hl : StR w w.heap.size LA l) (hs : ∀ s ∈ l, s.size ≤ 9223372036854775807) :
    Calls Tryz.prog 3 #[.slice LA l.length lc, .int .u32 id] w fun e w' => e = .returned (.bool true) ∧ Below w.heap.size w w' := by
  have HL := hide hl
  have HLs := hide hs
  have RY := hide (fun W => ready2_any W)
  have AL := hide (fun W => alive00_any W)
  have Q := hide (Below.refl w.heap.size w)
  clear hl hs
  go_enter Tryz.func3, Tryz.ntmps3
  have P := heap_below (heap_below (World.alloc_heap_new w (.cells (ptc (pt1 none 0 0)).toArray 27)) ((Below.refl _ _).alloc (Nat.le_refl _) (.cells ([.bool true]).toArray 4))) ((Below.refl _ _).alloc (Nat.le_refl _) (.cells ([.slice none 0 0, .slice none 0 0]).toArray 31))
  have O := heap_below (World.alloc_heap_new (w.alloc (.cells (ptc (pt1 none 0 0)).toArray 27)) (.cells ([.bool true]).toArray 4)) ((Below.refl _ _).alloc (Nat.le_refl _) (.cells ([.slice none 0 0, .slice none 0 0]).toArray 31))
  have B := World.alloc_heap_new ((w.alloc (.cells (ptc (pt1 none 0 0)).toArray 27)).alloc (.cells ([.bool true]).toArray 4)) (.cells ([.slice none 0 0, .slice none 0 0]).toArray 31)
  simp only [World.size_alloc] at O B
  have zQp : w.heap.size ≤ w.heap.size := Q.out.size
  obtain ⟨w2', hw2'⟩ : ∃ wx, wx = ((w.alloc (.cells (ptc (pt1 none 0 0)).toArray 27)).alloc (.cells ([.bool true]).toArray 4)).alloc (.cells ([.slice none 0 0, .slice none 0 0]).toArray 31) := ⟨_, rfl⟩
  have q1' := hide (show Below w.heap.size w w2' by rw [hw2']; exact (((Below.refl _ _).alloc (Nat.le_refl _) _).alloc (by simp <;> omega) _).alloc (by simp <;> omega) _)
  rw [← hw2'] at P O B
  replace P := hide P
  replace O := hide O
  replace B := hide B
  have Tw3' := hide (show (((w.alloc (.cells (ptc (pt1 none 0 0)).toArray 27)).alloc (.cells ([.bool true]).toArray 4)).alloc (.cells ([.slice none 0 0, .slice none 0 0]).toArray 31)).there (w.heap.size + 2) 0 2 by rw [← hw2']; exact there_heap (cs := [.slice none 0 0, .slice none 0 0]) B.out)
  go_wp2_with (refine wpList_store_hid (by rfl) 31 (.tmp 5) (.tmp 30) (by rfl) (w.heap.size + 2) 0 (rtL (some ⟨w.heap.size, 0, none⟩) 1 (some ⟨w.heap.size + 1, 0, none⟩) 1) (by rfl) (by rfl) (by exact Tw3'.out) (by kernel_rfl) (by simp [Value.oneCell', rtL]) ?_)
  intro w3' ew3'
  replace ew3' : Hid (w3' = w2'.setCells (w.heap.size + 2) 0 (rtL (some ⟨w.heap.size, 0, none⟩) 1 (some ⟨w.heap.size + 1, 0, none⟩) 1)) := by rw [hw2']; exact ew3'
  replace P := hide (show w3'.heap[w.heap.size]? = some (.cells (ptc (pt1 none 0 0)).toArray 27 (0, 0)) by rw [ew3'.out]; exact other_heap (by omega) _ _ _ P.out)
  replace O := hide (show w3'.heap[w.heap.size + 1]? = some (.cells ([.bool true]).toArray 4 (0, 0)) by rw [ew3'.out]; exact other_heap (by omega) _ _ _ O.out)
  replace B := hide (show w3'.heap[w.heap.size + 2]? = some (.cells (rtL (some ⟨w.heap.size, 0, none⟩) 1 (some ⟨w.heap.size + 1, 0, none⟩) 1).toArray 31 (0, 0)) by rw [ew3'.out]; exact whole_heap (rtL (some ⟨w.heap.size, 0, none⟩) 1 (some ⟨w.heap.size + 1, 0, none⟩) 1) (xs := [.slice none 0 0, .slice none 0 0]) B.out rfl)
  replace q1' := hide (show Below w.heap.size w w3' by rw [ew3'.out]; exact q1'.out.trans (below_setCells _ _ _ (by omega)))
  clear ew3' Tw3' hw2'
  replace Q := hide (below_next Q.out Q.out.size q1'.out)
  clear q1'
  have HR := hide (show Rt w3' (some ⟨w.heap.size, 0, none⟩) (some ⟨w.heap.size + 1, 0, none⟩) none 0 [] from ⟨rd_row (cs := ptc (pt1 none 0 0)) P.out, rd_row (cs := [.bool true]) O.out, Rd.nil, by simp, by simp, by simp⟩)
  have AW := hide (show Rt.Away (ZS (w.heap.size + 2) (w.heap.size + 2) none) (some ⟨w.heap.size, 0, none⟩) (some ⟨w.heap.size + 1, 0, none⟩) none 0 from ⟨offS_at (fun h => by rcases h with h | h | ⟨a, h, _⟩; omega; omega; cases h), offS_at (fun h => by rcases h with h | h | ⟨a, h, _⟩; omega; omega; cases h), .inl rfl⟩)
  go_upto_block 0 with fail
  refine topRouted_puts w w3' (w.heap.size + 2) (w.heap.size + 2 + 1) lc 1 1 LA _ _ l (by omega) rfl (by rfl) B HR AW HL HLs Q (by intro _ _ d9 _ _ h; cases d9 <;> exact h) ?_
  intro u4 u6 u7 u8 u9 u10 u11 u12 u33 u34 u35 u36 u37 u38 u39 u40 u41 u42 u43 u44 u45 u46 u47 u48 u49 u50 u51 u52 u53 u54 u55 u56 u57 u58 u59 u60 u61 u62 u63 u64 u65 u66 u67 u68 u69 u70 u71 u72 u73 u74 u75 u76 wc hcut
  clear P O B HR AW Q HL HLs
  obtain ⟨PA, A, SA, pc, c, sc, rfl, B, H, AW, OW, Q⟩ := hcut
  have hL4 : (wantK l l.length).length ≤ 4 := by rw [wantK_len l l.length (Nat.le_refl _)]; omega
  have HLs := hide (wantK_cut l l.length)
  generalize wantK l l.length = L at *
  obtain ⟨b, hb⟩ : ∃ b, b = w.heap.size + 2 := ⟨_, rfl⟩
  rw [← hb] at B AW OW ⊢
  have zb : w.heap.size ≤ b := by omega
  clear hb
  have R1 := hide (show Calls Tryz.prog 5 #[.int .i64 2] wc fun e w' => ∃ A c, e = .returned (.tuple #[.agg (busL A 2 c 11).toArray, .bool true]) ∧ ClR w' w'.heap.size A (List.replicate 2 idleC) ∧ Fresh wc.heap.size A ∧ Below wc.heap.size wc w' from RY.out wc)
  clear RY
  have zBc := heap_lt B.out
  go_wp2_with fail
  (with_reducible refine R1.out.mono ?_)
  rintro e1 w1 ⟨BA, bc, rfl, hB, hF, q1⟩
  have HB := hide (show Rd w1 w1.heap.size BA 23 (clRows (List.replicate 2 idleC)) from hB)
  have HF := hide hF
  clear hB hF R1
  replace B := hide (heap_below B.out q1)
  replace H := hide ((H.out.next q1))
  replace OW := hide ((OW.out.grown q1))
  replace Q := hide (below_next Q.out Q.out.size q1)
  clear q1
  have O1 := hide (show Rt.Away (fun k => k = b ∨ w1.heap.size ≤ k) PA (some ⟨w.heap.size + 1, 0, none⟩) A L.length from (AW.out.mono (T := fun k => k = b) (fun k h => .inl h)).or H.out.away)
  have O2 := hide (show OffS (fun k => k = b ∨ w1.heap.size ≤ k) BA 2 from OffS.or (S := fun k => k = b) (offS_fresh HF.out (fun k h => by have : k = b := h; omega)) (offS_rd HB.out))
  have O3 := hide (show OffS (fun k => k = b ∨ w1.heap.size ≤ k) SA L.length from .inr (fun g off e h => by have h2 := own_in OW.out ⟨g, off, none⟩ e; have h3 : g = b ∨ w1.heap.size ≤ g := h; have h4 : b + 1 ≤ g := h2.1; have h5 : g < w1.heap.size := h2.2; omega))
  clear AW HF
  have D := World.alloc_heap_new w1 (.cells (busL none 0 0 0).toArray 37)
  have zBd : b < w1.heap.size := heap_lt B.out
  have zQd : w.heap.size ≤ w1.heap.size := Q.out.size
  obtain ⟨w5', hw5'⟩ : ∃ wx, wx = w1.alloc (.cells (busL none 0 0 0).toArray 37) := ⟨_, rfl⟩
  have q4' := hide (show Below w1.heap.size w1 w5' by rw [hw5']; exact (Below.refl _ _).alloc (Nat.le_refl _) _)
  rw [← hw5'] at D
  replace D := hide D
  have Tw6' := hide (show (w1.alloc (.cells (busL none 0 0 0).toArray 37)).there w1.heap.size 0 2 by rw [← hw5']; exact there_heap (cs := busL none 0 0 0) D.out)
  go_wp2_with (refine wpList_store_hid (by rfl) 37 (.tmp 13) (.tmp 79) (by rfl) w1.heap.size 0 (busL BA 2 bc 11) (by rfl) (by rfl) (by exact Tw6'.out) (by kernel_rfl) (by simp [Value.oneCell', busL]) ?_)
  intro w6' ew6'
  replace ew6' : Hid (w6' = w5'.setCells w1.heap.size 0 (busL BA 2 bc 11)) := by rw [hw5']; exact ew6'
  replace D := hide (show w6'.heap[w1.heap.size]? = some (.cells (busL BA 2 bc 11).toArray 37 (0, 0)) by rw [ew6'.out]; exact whole_heap (busL BA 2 bc 11) (xs := busL none 0 0 0) D.out rfl)
  replace q4' := hide (show Below w1.heap.size w1 w6' by rw [ew6'.out]; exact q4'.out.trans (below_setCells _ _ _ (by omega)))
  clear ew6' Tw6' hw5'
  replace B := hide (heap_below B.out q4'.out)
  replace H := hide ((H.out.next q4'.out))
  replace OW := hide ((OW.out.grown q4'.out))
  replace HB := hide (Rd.next HB.out q4'.out q4'.out.size)
  replace Q := hide (below_next Q.out Q.out.size q4'.out)
  clear q4'
  have zw1 : w1.heap.size ≤ w1.heap.size := Nat.le_refl _
  have HW := hide (show StR w6' w6'.heap.size SA L from OW.out.rd (stRow_rows _))
  clear OW
  generalize w1.heap.size = d at *
  go_upto_block 2 with fail
  have hid : id % 2048 < 2048 := Nat.mod_lt _ (by decide)
  refine topRouted_takes w w6' id (id % 2048) b d (d + 1) pc 1 c bc PA (some ⟨w.heap.size + 1, 0, none⟩) A BA SA 11 (List.replicate 2 idleC) L zb (by have := zBd; omega) rfl hL4 two_idle ⟨by decide, by decide⟩ hid (by rw [Int.tmod_eq_emod_of_nonneg (by omega)]; omega) (by omega) (by rfl) HLs B D H (hide (O1.out.mono (fun k h => by rcases h with h | h | ⟨a, h, _⟩; exact .inl h; exact .inr (by have : k = d := h; omega); cases h))) HB (hide (O2.out.mono (fun k h => by rcases h with h | h | ⟨a, h, _⟩; exact .inl h; exact .inr (by have : k = d := h; omega); cases h))) HW (hide (O3.out.mono (fun k h => by rcases h with h | h | ⟨a, h, _⟩; exact .inl h; exact .inr (by have : k = d := h; omega); cases h))) Q (by intro _ _ d9 _ _ h; cases d9 <;> exact h) ?_
  intro u4 u15 u16 u17 u18 u19 u20 u21 u22 u23 u24 u81 u82 u83 u84 u85 u86 u87 u88 u89 u90 u91 u92 u93 u94 u95 u96 u97 u98 u99 u100 u101 u102 u103 u104 u105 u106 u107 u108 u109 u110 u111 u112 u113 u114 u115 u116 u117 u118 u119 u120 u121 u122 u123 u124 u125 u126 u127 u128 u129 u130 u131 u132 u133 u134 u135 wt hcut
  clear B D H HB HW Q O1 O2 O3
  obtain ⟨GA, gc, rfl, OG, HW, Q⟩ := hcut
  have HG := hide (show StR wt wt.heap.size GA L from OG.out.rd (stRow_rows _))
  clear OG
  have e1 : ((L.length : Int) == (L.length : Int)) = true := by rw [beq_iff_eq]
  have e2 : ((L.length : Int) != (L.length : Int)) = false := by simp
  have Q0 := Q
  have zw := Q.out.size
  replace Q := hide (Below.refl wt.heap.size wt)
  go_wp2_with fail
  clear e1 e2
  go_loopw [147] (fun vi W => ∃ k : Nat, k ≤ L.length ∧ vi = .int .i64 k ∧ Hid (Below wt.heap.size wt W)) (fun vi _ => L.length - (intOf vi).toNat)
  case atStart => exact ⟨0, Nat.zero_le _, rfl, Q⟩
  case round =>
    clear Q
    obtain ⟨k, hk, rfl, Q⟩ := hrel
    by_cases hlt : k < L.length
    · have hki : (k : Int) < (L.length : Int) := by omega
      obtain ⟨b1, o1, rfl, hb1, c1⟩ := HG.out.at_ hlt
      obtain ⟨b2, o2, rfl, hb2, c2⟩ := HW.out.at_ hlt
      have C1 := hide (cellBelow Q.out hb1 c1)
      have C2 := hide (cellBelow Q.out hb2 c2)
      generalize L[k] = x at *
      clear c1 c2
      go_upto_region 33 with fail
      refine wp_region_L [0, 1, 2, 3, 4, 5, 6, 7, 8] [(3, fun W => W.cell? ⟨b1, o1 + k, none⟩ = some (.string x)), (7, fun W => W.cell? ⟨b2, o2 + k, none⟩ = some (.string x))] (by kernel_rfl) ?_
      replace C1 := hide (show wr.drew.cell? ⟨b1, o1 + k, none⟩ = some (.string x) from C1.out)
      replace C2 := hide (show wr.drew.cell? ⟨b2, o2 + k, none⟩ = some (.string x) from C2.out)
      replace Q := hide (show Below wt.heap.size wt wr.drew from Q.out.drew)
      generalize wr.drew = wx at *
      refine wpAnyL_pure (i := 0) (v := .slice (some ⟨b1, o1, none⟩) L.length gc) rfl rfl (by kernel_rfl) (by kernel_rfl) (by kernel_rfl) (by kernel_rfl) (by kernel_rfl) (fun _ _ _ h => h) rfl (fun W => by go_simp) ?_
      go_simp
      refine wpAnyL_pure (i := 1) (v := .int .i64 k) rfl rfl (by kernel_rfl) (by kernel_rfl) (by kernel_rfl) (by kernel_rfl) (by kernel_rfl) (fun _ _ _ h => h) rfl (fun W => by go_simp) ?_
      go_simp
      refine wpAnyL_pure (i := 2) (v := .pointer (some ⟨b1, o1 + k, none⟩)) rfl rfl (by kernel_rfl) (by kernel_rfl) (by kernel_rfl) (by kernel_rfl) (by kernel_rfl) (fun _ _ _ h => h) rfl (fun W => by go_simp) ?_
      go_simp
      refine wpAnyL_load (i := 3) (v := .string x) rfl rfl (by kernel_rfl) (by kernel_rfl) (by kernel_rfl) (by kernel_rfl) (by kernel_rfl) (fun _ _ _ h => h) rfl (fun W h => by (have hc0 := h; clear h; go_simp)) (C1.out) ?_
      go_simp
      refine wpAnyL_pure (i := 4) (v := .slice (some ⟨b2, o2, none⟩) L.length sc) rfl rfl (by kernel_rfl) (by kernel_rfl) (by kernel_rfl) (by kernel_rfl) (by kernel_rfl) (fun _ _ _ h => h) rfl (fun W => by go_simp) ?_
      go_simp
      refine wpAnyL_pure (i := 5) (v := .int .i64 k) rfl rfl (by kernel_rfl) (by kernel_rfl) (by kernel_rfl) (by kernel_rfl) (by kernel_rfl) (fun _ _ _ h => h) rfl (fun W => by go_simp) ?_
      go_simp
      refine wpAnyL_pure (i := 6) (v := .pointer (some ⟨b2, o2 + k, none⟩)) rfl rfl (by kernel_rfl) (by kernel_rfl) (by kernel_rfl) (by kernel_rfl) (by kernel_rfl) (fun _ _ _ h => h) rfl (fun W => by go_simp) ?_
      go_simp
      refine wpAnyL_load (i := 7) (v := .string x) rfl rfl (by kernel_rfl) (by kernel_rfl) (by kernel_rfl) (by kernel_rfl) (by kernel_rfl) (fun _ _ _ h => h) rfl (fun W h => by (have hc0 := h; clear h; go_simp)) (C2.out) ?_
      go_simp
      refine wpAnyL_pure (i := 8) (v := .bool false) rfl rfl (by kernel_rfl) (by kernel_rfl) (by kernel_rfl) (by kernel_rfl) (by kernel_rfl) (fun _ _ _ h => h) rfl (fun W => by go_simp) ?_
      go_simp
      refine wpAnyL_done (by kernel_rfl) ?_ _
      go_wp2_with fail
      go_roundw
      case rel => exact ⟨k + 1, by omega, by go_num, Q⟩
      case measure => simp [intOf]; omega
    · obtain rfl : k = L.length := by omega
      have hki : ¬ (L.length : Int) < (L.length : Int) := by omega
      go_wp2_with fail
      (with_reducible refine (AL.out _).mono ?_)
      rintro ew7' w7' ⟨rfl, qw7'⟩
      replace Q := hide (below_next Q.out Q.out.size qw7')
      clear qw7'
      clear AL
      go_wp2_with fail
      go_ret
      exact ⟨rfl, below_next Q0.out zw Q.out⟩
end Go.Proofs.YthkilodnghiocaaGreatDoor
