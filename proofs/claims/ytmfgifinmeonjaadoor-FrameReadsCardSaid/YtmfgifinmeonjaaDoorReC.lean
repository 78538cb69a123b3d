/- The walk of the reference's Stuffed. -/
import Derived.Test.YtmfgifinmeonjaaDoorReA
namespace Go.Proofs.YtmfgifinmeonjaaDoor
open Go.ChangeShapes Go.WideShapes Go.ChangeAt Go.RowKit
open FP (uN uK stuffedF doneB badB sizeE sizeV SR)

/-- Three cells of a block. -/
theorem three_t {W : World} {b : Nat} {x y z : Value} {t : TypeId} (h : W.heap[b]? = some (.cells #[x, y, z] t (0, 0))) : W.cell? ⟨b, 0, none⟩ = some x ∧ W.cell? ⟨b, 1, none⟩ = some y ∧ W.cell? ⟨b, 2, none⟩ = some z ∧ ∀ j, W.frozen? ⟨b, j, none⟩ = false :=
  ⟨by simp [World.cell?, h], by simp [World.cell?, h], by simp [World.cell?, h], fun j => by simp [World.frozen?, h]⟩

/-- What the reference holds: its answer's box (block w.heap.size), what stuffing knows, the bits. -/
structure SgM (w : World) (last : UInt8) (n : Nat) (bits : List UInt8) (k : Nat) (W : World) : Prop where
  q : Below w.heap.size w W
  rb : W.heap[w.heap.size]? = some (.cells #[.string ⟨#[]⟩, .int .i64 0, .int .i64 0] 74 (0, 0))
  xb : W.heap[w.heap.size + 1]? = some (.cells #[.int .u8 last.toNat, .int .i64 n] 94 (0, 0))
  tb : W.heap[w.heap.size + 2]? = some (.cells #[.string ⟨bits.toArray⟩, .int .i64 k, .int .i64 0] 74 (0, 0))
theorem SgM.below {w W W' : World} {last : UInt8} {n k : Nat} {bits : List UInt8} (h : SgM w last n bits k W) (q : Below W.heap.size W W') : SgM w last n bits k W' :=
  ⟨below_next h.q h.q.size q, heap_below h.rb q, heap_below h.xb q, heap_below h.tb q⟩
theorem SgM.drew {w W : World} {last : UInt8} {n k : Nat} {bits : List UInt8} (h : SgM w last n bits k W) : SgM w last n bits k W.drew := ⟨h.q.drew, h.rb, h.xb, h.tb⟩
theorem SgM.lt {w W : World} {last : UInt8} {n k : Nat} {bits : List UInt8} (h : SgM w last n bits k W) : w.heap.size + 2 < W.heap.size := heap_lt h.tb
theorem SgM.setX {w W : World} {last : UInt8} {n k : Nat} {bits : List UInt8} (h : SgM w last n bits k W) (last' : UInt8) (n' : Nat) : SgM w last' n' bits k (W.setCells (w.heap.size + 1) 0 [.int .u8 last'.toNat, .int .i64 n']) :=
  ⟨h.q.trans (below_setCells _ 0 W (by omega)), other_heap (by omega) _ 0 _ h.rb, whole_heap _ (xs := [.int .u8 last.toNat, .int .i64 n]) h.xb rfl, other_heap (by omega) _ 0 _ h.tb⟩
theorem SgM.setT {w W : World} {last : UInt8} {n k : Nat} {bits : List UInt8} (h : SgM w last n bits k W) (j : Nat) (v : Value) (bits' : List UInt8) (k' : Nat) (hv : #[Value.string ⟨bits.toArray⟩, .int .i64 k, .int .i64 0].setIfInBounds j v = #[.string ⟨bits'.toArray⟩, .int .i64 k', .int .i64 0]) : SgM w last n bits' k' (W.setCell ⟨w.heap.size + 2, j, none⟩ v) := by
  refine ⟨h.q.setCell (p := ⟨w.heap.size + 2, j, none⟩) (by show w.heap.size ≤ w.heap.size + 2; omega) v, ?_, ?_, ?_⟩
  · rw [heap_setCell_other W ⟨w.heap.size + 2, j, none⟩ _ v (by show w.heap.size ≠ w.heap.size + 2; omega)]; exact h.rb
  · rw [heap_setCell_other W ⟨w.heap.size + 2, j, none⟩ _ v (by show w.heap.size + 1 ≠ w.heap.size + 2; omega)]; exact h.xb
  · rw [heap_setCell_same W _ j _ 74 v h.tb, hv]

theorem done_eq (bits : List UInt8) (n : Nat) : doneB bits n = (((sizeE bits : Int) == 0) && (((bits.length : Int) == (sizeV bits : Int) + 15) && decide ((n : Int) < 5))) := by
  unfold doneB
  have h1 : ((sizeE bits : Int) == 0) = decide (sizeE bits = 0) := by
    rw [Bool.eq_iff_iff]; simp
  have h2 : ((bits.length : Int) == (sizeV bits : Int) + 15) = decide (bits.length = sizeV bits + 15) := by
    rw [Bool.eq_iff_iff]; simp; omega
  have h3 : decide ((n : Int) < 5) = decide (n < 5) := by
    rw [Bool.eq_iff_iff]; simp; omega
  rw [h1, h2, h3]
theorem badB_eq (t : List UInt8) : badB t = (((sizeE t : Int) == 12) || decide (t[0]? = some 49)) := by
  unfold badB
  congr 1
  rw [Bool.eq_iff_iff]; simp; omega

set_option maxRecDepth 100000 in
set_option maxHeartbeats 8000000 in
theorem refStuffed_any (s : ByteArray) (w : World) (hb : ∀ c ∈ s.data.toList, c = 48 ∨ c = 49) (hs : s.size ≤ 4000) :
    Calls Tryd.prog 54 #[.string s] w fun e w' => e = .returned (.agg #[.string ⟨(stuffedF s.data.toList 0 0 [] 0).bits.toArray⟩, .int .i64 (stuffedF s.data.toList 0 0 [] 0).n, .int .i64 (stuffedF s.data.toList 0 0 [] 0).e]) ∧ Below w.heap.size w w' := by
  have LS := hide (show s.data.toList.length = s.size from Array.length_toList)
  have BT := hide (fun j (hj : j < s.size) => show s[j] = 48 ∨ s[j] = 49 from hb _ (List.getElem_mem (l := s.data.toList) (by rw [LS.out]; exact hj)))
  have DR := hide (fun j (hj : j < s.size) => show s.data.toList.drop j = s[j] :: s.data.toList.drop (j + 1) from List.drop_eq_getElem_cons (by rw [LS.out]; exact hj))
  have DE := hide (show s.data.toList.drop s.size = [] from List.drop_of_length_le (by rw [LS.out]; exact Nat.le_refl _))
  have R0 := hide (show stuffedF (s.data.toList.drop 0) 0 0 [] 0 = stuffedF s.data.toList 0 0 [] 0 by rw [List.drop_zero])
  have X1 := hide (fun j (hj : j < s.size) => extract_one s j hj)
  generalize stuffedF s.data.toList 0 0 [] 0 = R at *
  have M0 : Hid (SgM w 0 0 [] 0 (((w.alloc (.cells #[.string ⟨#[]⟩, .int .i64 0, .int .i64 0] 74)).alloc (.cells #[.int .u8 0, .int .i64 0] 94)).alloc (.cells #[.string ⟨#[]⟩, .int .i64 0, .int .i64 0] 74))) := by
    have h1 := two_new w (.cells #[.string ⟨#[]⟩, .int .i64 0, .int .i64 0] 74) (.cells #[.int .u8 0, .int .i64 0] 94)
    have hs : ((w.alloc (.cells #[.string ⟨#[]⟩, .int .i64 0, .int .i64 0] 74)).alloc (.cells #[.int .u8 0, .int .i64 0] 94)).heap.size = w.heap.size + 2 := by simp
    have h3 := World.alloc_heap_new ((w.alloc (.cells #[.string ⟨#[]⟩, .int .i64 0, .int .i64 0] 74)).alloc (.cells #[.int .u8 0, .int .i64 0] 94)) (.cells #[.string ⟨#[]⟩, .int .i64 0, .int .i64 0] 74)
    rw [hs] at h3
    have al := (Below.refl ((w.alloc (.cells #[.string ⟨#[]⟩, .int .i64 0, .int .i64 0] 74)).alloc (.cells #[.int .u8 0, .int .i64 0] 94)).heap.size _).alloc (Nat.le_refl _) (.cells #[.string ⟨#[]⟩, .int .i64 0, .int .i64 0] 74)
    exact hide ⟨(((Below.refl _ _).alloc (Nat.le_refl _) _).alloc (by simp) _).alloc (by simp; omega) _, heap_below h1.1 al, heap_below h1.2 al, h3⟩
  generalize hl : s.data.toList = l at *
  clear hb hl
  go_enter Tryd.func54, Tryd.ntmps54
  go_wp2_with fail
  simp only [show w.heap.size + 1 + 1 = w.heap.size + 2 from rfl]
  go_loopw [5] (fun vi W => ∃ (k n : Nat) (last : UInt8) (bits : List UInt8), k ≤ s.size ∧ vi = .int .i64 k ∧ Hid (stuffedF (l.drop k) last n bits k = R) ∧ Hid (SgM w last n bits k W) ∧ Hid (StK last n ∧ bits.length ≤ k ∧ (∀ c ∈ bits, c = 48 ∨ c = 49) ∧ badB bits = false ∧ (1 ≤ n → bits ≠ []))) (fun vi _ => s.size - (intOf vi).toNat)
  case atStart => exact ⟨0, 0, 0, [], Nat.zero_le _, rfl, R0, M0, hide ⟨.inl ⟨rfl, rfl⟩, Nat.le_refl _, by simp, by decide, by omega⟩⟩
  case round =>
    clear M0 R0
    obtain ⟨k, n, last, bits, hk, rfl, hR, hM, hI⟩ := hrel
    have hbl : bits.length ≤ 4000 := by have := hI.out.2.1; omega
    have SZ := hide (fun W => refSize_any ⟨bits.toArray⟩ W (by rw [toList_of]; exact hI.out.2.2.1) (by rw [size_of]; exact hbl))
    rw [toList_of] at SZ
    have DQ := hide (done_eq bits n)
    have hsv := FP.sizeV_bd bits
    have hbs := size_of bits
    obtain ⟨t0, t1, t2, _⟩ := three_t hM.out.tb
    obtain ⟨x0, x1, _⟩ := two_st hM.out.xb
    by_cases hlt : k < s.size
    · go_wp2_with fail
      refine (SZ.out _).mono ?_
      rintro e1 w1 ⟨rfl, rfl⟩
      go_upto_region 7 with fail
      go_cut [40] (fun v W => v = .bool (doneB bits n) ∧ W = wr)
      case first =>
        rcases h1 : ((sizeE bits : Int) == 0) with _ | _ <;> rcases h2 : ((bits.length : Int) == (sizeV bits : Int) + 15) with _ | _ <;> rcases h3 : decide ((n : Int) < 5) with _ | _
        all_goals
          have DD := DQ.out
          rw [h1, h2, h3] at DD
          replace DD := hide DD
          generalize doneB bits n = db at *
          generalize sizeE bits = se at *
          generalize sizeV bits = sv at *
          clear hR hI DQ
          go_wp2_with fail
          go_meet
          exact ⟨by rw [DD.out]; rfl, rfl⟩
      case rest =>
      obtain ⟨rfl, rfl⟩ := hcut
      clear SZ DQ
      cases hd : doneB bits n with
      | true =>
        have hRR := hR.out
        rw [FP.stuffed_done hd] at hRR
        have HR := hide hRR
        clear hd hRR hR hI
        generalize hbq : (⟨bits.toArray⟩ : ByteArray) = bq at *
        have tb := hM.out.tb
        rw [hbq] at tb
        obtain ⟨t0, t1, t2, _⟩ := three_t tb
        clear tb
        go_wp2_with (refine wpList_store_hid (by rfl) 74 (.tmp 2) (.tmp 41) (by rfl) w.heap.size 0 [.string bq, .int .i64 k, .int .i64 0] (by rfl) (by rfl) (by exact (show World.there _ w.heap.size 0 3 from there_heap (cs := [_, _, _]) hM.out.rb)) (by kernel_rfl) (by simp [Value.oneCell']) ?_)
        intro Wz ez
        have Cz := whole_heap [.string bq, .int .i64 k, .int .i64 0] (xs := [_, _, _]) hM.out.rb rfl
        have qz := hM.out.q.trans (below_setCells (g := w.heap.size) [.string bq, .int .i64 k, .int .i64 0] 0 _ (Nat.le_refl _))
        rw [← ez.out] at Cz qz
        clear ez hM
        obtain ⟨y0, y1, y2, _⟩ := three_t Cz
        have Qz := hide qz
        clear Cz qz
        go_wp2_with fail
        refine bodyPost_ret (v := .agg #[.string bq, .int .i64 k, .int .i64 0]) (by simp [results, Tryd.results54, go_sem, y0, y1, y2]) rfl ⟨by rw [← HR.out, ← hbq]; rfl, Qz.out⟩
      | false =>
        have hc := BT.out k hlt
        have DK := hide (DR.out k hlt)
        have hk' : (k : Int) < s.size := by omega
        go_upto_region 9 with fail
        go_cut [8, 9] (fun vy vk W => ∃ y, vy = .pointer (some ⟨y, 0, none⟩) ∧ vk = .int .i64 (uK last n s[k] : Nat) ∧ Hid (SgM w last n bits k W) ∧ Hid (W.heap[y]? = some (.cells #[.int .u8 s[k].toNat, .int .i64 (uN last n s[k] : Nat)] 94 (0, 0))))
        case first =>
          have ST := hide (fun W => refStep_any last s[k] n W hI.out.1.le)
          go_wp2_with fail
          refine wp_region_L [0, 1, 2, 3, 5, 6, 7] [(0, fun W => W.heap[w.heap.size + 1]? = some (.cells #[.int .u8 last.toNat, .int .i64 n] 94 (0, 0)))] (by kernel_rfl) ?_
          replace hM : Hid (SgM w last n bits k wc.drew) := hide hM.out.drew
          clear hI hR DK hc hd
          generalize wc.drew = w4 at *
          refine wpAnyL_load (i := 0) (v := .agg #[.int .u8 last.toNat, .int .i64 n]) rfl rfl (by kernel_rfl) (by kernel_rfl) (by kernel_rfl) (by kernel_rfl) (by kernel_rfl) (fun _ _ _ h => h) rfl (fun W h => exec_heap W (w.heap.size + 1) 94 _ _ h Tryd.underlying94 rfl (by kernel_rfl) _ _ (.tmp 3) (by rfl) (by rfl)) (hM.out.xb) ?_
          go_simp
          refine wpAnyL_pure (i := 1) (v := .string s) rfl rfl (by kernel_rfl) (by kernel_rfl) (by kernel_rfl) (by kernel_rfl) (by kernel_rfl) (fun _ _ _ h => h) rfl (fun W => by go_simp) ?_
          go_simp
          refine wpAnyL_pure (i := 2) (v := .int .i64 k) rfl rfl (by kernel_rfl) (by kernel_rfl) (by kernel_rfl) (by kernel_rfl) (by kernel_rfl) (fun _ _ _ h => h) rfl (fun W => by go_simp) ?_
          go_simp
          refine wpAnyL_pure (i := 3) (v := .int .u8 s[k].toNat) rfl rfl (by kernel_rfl) (by kernel_rfl) (by kernel_rfl) (by kernel_rfl) (by kernel_rfl) (fun _ _ _ h => h) rfl (fun W => by go_simp) ?_
          go_simp
          refine wpAnyL_two (i := 4) (k := 8) (by kernel_rfl) ?_ ?_
          · refine wpOp_do rfl rfl ?_
            go_simp
            (with_reducible refine (ST.out _).mono ?_)
            rintro e5 w5 ⟨rfl, q5⟩
            have M5 := hide (hM.out.below q5)
            clear q5 hM
            go_simp
            refine ⟨keepsL_mk (by kernel_rfl) (.cons M5.out.xb .nil), ?_⟩
            refine wpAnyL_pure (i := 5) (v := .tuple #[.agg #[.int .u8 s[k].toNat, .int .i64 (uN last n s[k] : Nat)], .int .i64 (uK last n s[k] : Nat)]) rfl rfl (by kernel_rfl) (by kernel_rfl) (by kernel_rfl) (by kernel_rfl) (by kernel_rfl) (fun _ _ _ h => h) rfl (fun W => by go_simp) ?_
            go_simp
            refine wpAnyL_pure (i := 6) (v := .agg #[.int .u8 s[k].toNat, .int .i64 (uN last n s[k] : Nat)]) rfl rfl (by kernel_rfl) (by kernel_rfl) (by kernel_rfl) (by kernel_rfl) (by kernel_rfl) (fun _ _ _ h => h) rfl (fun W => by go_simp) ?_
            go_simp
            refine wpAnyL_pure (i := 7) (v := .int .i64 (uK last n s[k] : Nat)) rfl rfl (by kernel_rfl) (by kernel_rfl) (by kernel_rfl) (by kernel_rfl) (by kernel_rfl) (fun _ _ _ h => h) rfl (fun W => by go_simp) ?_
            go_simp
            refine wpAnyL_one (i := 8) (by kernel_rfl) ?_
            refine wpOp_do rfl rfl ?_
            go_simp
            have al := (Below.refl w5.heap.size w5).alloc (Nat.le_refl _) (.cells #[.int .u8 0, .int .i64 0] 94)
            have M6 := hide (M5.out.below al)
            have F6 := hide (World.alloc_heap_new w5 (.cells #[.int .u8 0, .int .i64 0] 94))
            refine ⟨keepsL_mk (by kernel_rfl) (.cons M6.out.xb .nil), ?_⟩
            refine wpAnyL_one (i := 9) (by kernel_rfl) ?_
            refine wpOp_do rfl rfl ?_
            refine wp_store_as 94 (.tmp 8) (.tmp 48) rfl w5.heap.size 0 [.int .u8 s[k].toNat, .int .i64 (uN last n s[k] : Nat)] (by rfl) (by rfl) (by exact (show World.there _ w5.heap.size 0 2 from there_heap (cs := [_, _]) F6.out)) (by kernel_rfl) (by simp [Value.oneCell']) ?_
            intro W7 e7
            have F7 := whole_heap [.int .u8 s[k].toNat, .int .i64 (uN last n s[k] : Nat)] (xs := [_, _]) F6.out rfl
            have M7 := M5.out.below (al.trans (below_setCells (g := w5.heap.size) [.int .u8 s[k].toNat, .int .i64 (uN last n s[k] : Nat)] 0 _ (Nat.le_refl _)))
            rw [← e7] at F7 M7
            have F8 := hide F7
            have M8 := hide M7
            clear F7 M7 e7 F6 M6
            refine ⟨keepsL_all (by kernel_rfl) (by kernel_rfl), ?_⟩
            refine wpAnyL_one (i := 10) (by kernel_rfl) ?_
            refine wpOp_do rfl rfl ?_
            go_simp
            refine ⟨keepsL_all (by kernel_rfl) (by kernel_rfl), ?_⟩
            refine wpAnyL_done (by kernel_rfl) ?_ _
            go_wp2_with fail
            go_meet
            exact ⟨w5.heap.size, rfl, rfl, M8, F8⟩
          · refine wpOp_do rfl rfl ?_
            go_simp
            have al := (Below.refl w4.heap.size w4).alloc (Nat.le_refl _) (.cells #[.int .u8 0, .int .i64 0] 94)
            have M5 := hide (hM.out.below al)
            have F5 := hide (World.alloc_heap_new w4 (.cells #[.int .u8 0, .int .i64 0] 94))
            refine ⟨keepsL_mk (by kernel_rfl) (.cons M5.out.xb .nil), ?_⟩
            refine wpAnyL_one (i := 4) (by kernel_rfl) ?_
            refine wpOp_do rfl rfl ?_
            go_simp
            (with_reducible refine (ST.out _).mono ?_)
            rintro e6 w6 ⟨rfl, q6⟩
            have M6 := hide (M5.out.below q6)
            have F6 := hide (heap_below F5.out q6)
            have ch := hide (al.trans (q6.mono (by simp)))
            clear q6 M5 F5 al
            go_simp
            refine ⟨keepsL_mk (by kernel_rfl) (.cons M6.out.xb .nil), ?_⟩
            refine wpAnyL_pure (i := 5) (v := .tuple #[.agg #[.int .u8 s[k].toNat, .int .i64 (uN last n s[k] : Nat)], .int .i64 (uK last n s[k] : Nat)]) rfl rfl (by kernel_rfl) (by kernel_rfl) (by kernel_rfl) (by kernel_rfl) (by kernel_rfl) (fun _ _ _ h => h) rfl (fun W => by go_simp) ?_
            go_simp
            refine wpAnyL_pure (i := 6) (v := .agg #[.int .u8 s[k].toNat, .int .i64 (uN last n s[k] : Nat)]) rfl rfl (by kernel_rfl) (by kernel_rfl) (by kernel_rfl) (by kernel_rfl) (by kernel_rfl) (fun _ _ _ h => h) rfl (fun W => by go_simp) ?_
            go_simp
            refine wpAnyL_pure (i := 7) (v := .int .i64 (uK last n s[k] : Nat)) rfl rfl (by kernel_rfl) (by kernel_rfl) (by kernel_rfl) (by kernel_rfl) (by kernel_rfl) (fun _ _ _ h => h) rfl (fun W => by go_simp) ?_
            go_simp
            refine wpAnyL_one (i := 9) (by kernel_rfl) ?_
            refine wpOp_do rfl rfl ?_
            refine wp_store_as 94 (.tmp 8) (.tmp 48) rfl w4.heap.size 0 [.int .u8 s[k].toNat, .int .i64 (uN last n s[k] : Nat)] (by rfl) (by rfl) (by exact (show World.there _ w4.heap.size 0 2 from there_heap (cs := [_, _]) F6.out)) (by kernel_rfl) (by simp [Value.oneCell']) ?_
            intro W7 e7
            have F7 := whole_heap [.int .u8 s[k].toNat, .int .i64 (uN last n s[k] : Nat)] (xs := [_, _]) F6.out rfl
            have M7 := hM.out.below (ch.out.trans (below_setCells (g := w4.heap.size) [.int .u8 s[k].toNat, .int .i64 (uN last n s[k] : Nat)] 0 _ (Nat.le_refl _)))
            rw [← e7] at F7 M7
            have F8 := hide F7
            have M8 := hide M7
            clear F7 M7 e7 F6 M6
            refine ⟨keepsL_all (by kernel_rfl) (by kernel_rfl), ?_⟩
            refine wpAnyL_one (i := 10) (by kernel_rfl) ?_
            refine wpOp_do rfl rfl ?_
            go_simp
            refine ⟨keepsL_all (by kernel_rfl) (by kernel_rfl), ?_⟩
            refine wpAnyL_done (by kernel_rfl) ?_ _
            go_wp2_with fail
            go_meet
            exact ⟨w4.heap.size, rfl, rfl, M8, F8⟩
        case rest =>
        clear hM t0 t1 t2 x0 x1
        obtain ⟨y, rfl, rfl, hM, hY⟩ := hcut
        obtain ⟨y0, y1, _⟩ := two_st hY.out
        have hI2 := hide (hI.out.1.step hc)
        go_wp2_with (refine wpList_store_hid (by rfl) 94 (.tmp 3) (.tmp 50) (by rfl) (w.heap.size + 1) 0 [.int .u8 s[k].toNat, .int .i64 (uN last n s[k] : Nat)] (by rfl) (by rfl) (by exact (show World.there _ (w.heap.size + 1) 0 2 from there_heap (cs := [_, _]) hM.out.xb)) (by kernel_rfl) (by simp [Value.oneCell']) ?_)
        intro W2 e2
        have M2 := hM.out.setX s[k] (uN last n s[k])
        rw [← e2.out] at M2
        replace M2 := hide M2
        clear e2 hM hY y0 y1
        obtain ⟨t0, t1, t2, tz⟩ := three_t M2.out.tb
        obtain ⟨k1, hk1⟩ : ∃ k1 : Nat, (k : Int) + 1 = k1 := ⟨k + 1, by omega⟩
        have HKN := hide (show k1 = k + 1 by omega)
        have hk1s : k1 ≤ s.size := by omega
        have hk1k : k ≤ k1 := by omega
        have M3 := hide (M2.out.setT 1 (.int .i64 k1) bits k1 rfl)
        go_upto_region 12 with fail
        generalize W2.setCell ⟨w.heap.size + 2, 1, none⟩ (.int .i64 k1) = W3 at *
        clear t0 t1 t2 tz M2
        rcases FP.uK_or last n s[k] with ku | ku | ku
        · rw [ku]
          obtain ⟨_, i1, i2, i3, i4⟩ := hI.out
          have NI := hide (show StK s[k] (uN last n s[k]) ∧ (bits ++ [s[k]]).length ≤ k1 ∧ (∀ c ∈ bits ++ [s[k]], c = 48 ∨ c = 49) from ⟨hI2.out, by have := HKN.out; simp; omega, fun c hcc => by
            rw [List.mem_append, List.mem_singleton] at hcc
            rcases hcc with h | rfl
            · exact i2 c h
            · exact hc⟩)
          have hRR := hR.out
          rw [DK.out, ← HKN.out] at hRR
          have SD := hide (fun (hb : badB (bits ++ [s[k]]) = false) => (by have := FP.stuffed_data hd s[k] (l.drop k1) last k ku hb; rw [← HKN.out] at this; exact this.symm.trans hRR : stuffedF (l.drop k1) s[k] (uN last n s[k]) (bits ++ [s[k]]) k1 = R))
          have SB := hide (fun (hb : badB (bits ++ [s[k]]) = true) => (FP.stuffed_bad hd s[k] (l.drop k1) last k ku hb).symm.trans hRR)
          have XK := hide (show s.extract k k1 = ⟨#[s[k]]⟩ by rw [HKN.out]; exact X1.out k hlt)
          have BQ := hide (badB_eq (bits ++ [s[k]]))
          have hne : bits ++ [s[k]] ≠ [] := by simp
          have TX := hide (show (⟨bits.toArray⟩ : ByteArray) ++ ⟨#[s[k]]⟩ = ⟨(bits ++ [s[k]]).toArray⟩ by rw [← str_app])
          have hbz : (⟨bits.toArray⟩ : ByteArray).size ≤ 4000 := by rw [hbs]; exact hbl
          have h1z : (⟨#[s[k]]⟩ : ByteArray).size = 1 := rfl
          have hx := XK.out
          have htx := TX.out
          clear hI hI2 i1 i2 i3 i4 hRR hR hd ku DK
          have SZ := hide (fun W => refSize_any ⟨(bits ++ [s[k]]).toArray⟩ W (by rw [toList_of]; exact NI.out.2.2) (by rw [size_of]; have := NI.out.2.1; omega))
          rw [toList_of] at SZ
          have SO := hide (sizeE_or (bits ++ [s[k]]))
          generalize ht : bits ++ [s[k]] = t at *
          generalize hts : (⟨t.toArray⟩ : ByteArray) = ts at *
          generalize hbq : (⟨bits.toArray⟩ : ByteArray) = bq at *
          have HTS := hide hts
          have M3b := M3.out.tb
          rw [hbq] at M3b
          have hqz : bq.size ≤ 9223372036854775806 := by omega
          have hwk : IntKind.i64.wrap (k1 : Int) = k1 := IntWalk.i64_in _ (by omega)
          clear ht hts hbs
          go_upto_region 15 with fail
          refine wp_region_L [0, 1, 2, 3, 4, 5, 6, 7] [(1, fun W => W.heap[w.heap.size + 2]? = some (.cells #[.string bq, .int .i64 k1, .int .i64 0] 74 (0, 0)))] (by kernel_rfl) ?_
          replace M3 : Hid (SgM w s[k] (uN last n s[k]) bits k1 W3.drew) := hide M3.out.drew
          replace M3b : Hid (W3.drew.heap[w.heap.size + 2]? = some (.cells #[.string bq, .int .i64 k1, .int .i64 0] 74 (0, 0))) := hide M3b
          generalize W3.drew = W4 at *
          refine wpAnyL_pure (i := 0) (v := .pointer (some ⟨w.heap.size + 2, 0, none⟩)) rfl rfl (by kernel_rfl) (by kernel_rfl) (by kernel_rfl) (by kernel_rfl) (by kernel_rfl) (fun _ _ _ h => h) rfl (fun W => by go_simp) ?_
          go_simp
          refine wpAnyL_load (i := 1) (v := .string bq) rfl rfl (by kernel_rfl) (by kernel_rfl) (by kernel_rfl) (by kernel_rfl) (by kernel_rfl) (fun _ _ _ h => h) rfl (fun W h => by (have hc0 : W.cell? ⟨w.heap.size + 2, 0, none⟩ = some (.string bq) := by simp [World.cell?, h]); clear h; go_simp) (M3b.out) ?_
          go_simp
          refine wpAnyL_pure (i := 2) (v := .string s) rfl rfl (by kernel_rfl) (by kernel_rfl) (by kernel_rfl) (by kernel_rfl) (by kernel_rfl) (fun _ _ _ h => h) rfl (fun W => by go_simp) ?_
          go_simp
          refine wpAnyL_pure (i := 3) (v := .int .i64 k) rfl rfl (by kernel_rfl) (by kernel_rfl) (by kernel_rfl) (by kernel_rfl) (by kernel_rfl) (fun _ _ _ h => h) rfl (fun W => by go_simp) ?_
          go_simp
          refine wpAnyL_pure (i := 4) (v := .int .i64 k) rfl rfl (by kernel_rfl) (by kernel_rfl) (by kernel_rfl) (by kernel_rfl) (by kernel_rfl) (fun _ _ _ h => h) rfl (fun W => by go_simp) ?_
          go_simp
          refine wpAnyL_pure (i := 5) (v := .int .i64 k1) rfl rfl (by kernel_rfl) (by kernel_rfl) (by kernel_rfl) (by kernel_rfl) (by kernel_rfl) (fun _ _ _ h => h) rfl (fun W => by go_simp) ?_
          go_simp
          refine wpAnyL_pure (i := 6) (v := .string ⟨#[s[k]]⟩) rfl rfl (by kernel_rfl) (by kernel_rfl) (by kernel_rfl) (by kernel_rfl) (by kernel_rfl) (fun _ _ _ h => h) rfl (fun W => by go_simp) ?_
          go_simp
          refine wpAnyL_pure (i := 7) (v := .string ts) rfl rfl (by kernel_rfl) (by kernel_rfl) (by kernel_rfl) (by kernel_rfl) (by kernel_rfl) (fun _ _ _ h => h) rfl (fun W => by go_simp) ?_
          go_simp
          refine wpAnyL_one (i := 8) (by kernel_rfl) ?_
          refine wpOp_do rfl rfl ?_
          go_simp
          refine ⟨keepsL_all (by kernel_rfl) (by kernel_rfl), ?_⟩
          have M5 := hide (M3.out.setT 0 (.string ts) t k1 (by rw [← HTS.out]; rfl))
          obtain ⟨t0, t1, t2, tz⟩ := three_t M3b.out
          refine wpAnyL_one (i := 9) (by kernel_rfl) ?_
          refine wpOp_do rfl rfl ?_
          go_simp
          refine ⟨keepsL_all (by kernel_rfl) (by kernel_rfl), ?_⟩
          refine wpAnyL_done (by kernel_rfl) ?_ _
          clear t0 t1 t2 tz M3 M3b hx htx
          generalize W4.setCell ⟨w.heap.size + 2, 0, none⟩ (.string ts) = W5 at *
          have tb := M5.out.tb
          rw [HTS.out] at tb
          obtain ⟨t0, t1, t2, _⟩ := three_t tb
          clear tb
          have hz0 : 0 < ts.size := by rw [← HTS.out, size_of]; exact List.length_pos_iff.2 hne
          have hz0' : (0 : Int) < ts.size := by omega
          have g0 := get_some ts 0 hz0
          have gl : ts.data.toList = t := by rw [← HTS.out]
          rw [gl] at g0
          have b0 := bit_eq (NI.out.2.2 _ (List.mem_of_getElem? g0))
          rw [← g0] at b0
          clear gl g0 hne
          go_wp2_with fail
          refine (SZ.out _).mono ?_
          rintro e5 w5 ⟨rfl, rfl⟩
          cases h12 : ((sizeE t : Int) == 12) with
          | true =>
            have HR := hide (SB.out (by rw [BQ.out, h12]; rfl))
            clear SD SB BQ b0
            generalize sizeE t = se at *
            go_wp2_with (refine wpList_store_hid (by rfl) 74 (.tmp 2) (.tmp 82) (by rfl) w.heap.size 0 [.string ⟨#[]⟩, .int .i64 0, .int .i64 12] (by rfl) (by rfl) (by exact (show World.there _ w.heap.size 0 3 from there_heap (cs := [_, _, _]) M5.out.rb)) (by kernel_rfl) (by simp [Value.oneCell']) ?_)
            intro Wz ez
            have Cz := whole_heap [.string ⟨#[]⟩, .int .i64 0, .int .i64 12] (xs := [_, _, _]) M5.out.rb rfl
            have qz := M5.out.q.trans (below_setCells (g := w.heap.size) [.string ⟨#[]⟩, .int .i64 0, .int .i64 12] 0 _ (Nat.le_refl _))
            rw [← ez.out] at Cz qz
            clear ez M5
            obtain ⟨y0, y1, y2, _⟩ := three_t Cz
            have Qz := hide qz
            clear Cz qz
            go_wp2_with fail
            refine bodyPost_ret (v := .agg #[.string ⟨#[]⟩, .int .i64 0, .int .i64 12]) (by simp [results, Tryd.results54, go_sem, y0, y1, y2]) rfl ⟨by rw [← HR.out]; rfl, Qz.out⟩
          | false =>
            cases h49 : decide (t[0]? = some 49) with
            | true =>
              rw [h49] at b0
              have HR := hide (SB.out (by rw [BQ.out, h12, h49]; rfl))
              clear SD SB BQ h49
              generalize sizeE t = se at *
              go_wp2_with (refine wpList_store_hid (by rfl) 74 (.tmp 2) (.tmp 82) (by rfl) w.heap.size 0 [.string ⟨#[]⟩, .int .i64 0, .int .i64 12] (by rfl) (by rfl) (by exact (show World.there _ w.heap.size 0 3 from there_heap (cs := [_, _, _]) M5.out.rb)) (by kernel_rfl) (by simp [Value.oneCell']) ?_)
              intro Wz ez
              have Cz := whole_heap [.string ⟨#[]⟩, .int .i64 0, .int .i64 12] (xs := [_, _, _]) M5.out.rb rfl
              have qz := M5.out.q.trans (below_setCells (g := w.heap.size) [.string ⟨#[]⟩, .int .i64 0, .int .i64 12] 0 _ (Nat.le_refl _))
              rw [← ez.out] at Cz qz
              clear ez M5
              obtain ⟨y0, y1, y2, _⟩ := three_t Cz
              have Qz := hide qz
              clear Cz qz
              go_wp2_with fail
              refine bodyPost_ret (v := .agg #[.string ⟨#[]⟩, .int .i64 0, .int .i64 12]) (by simp [results, Tryd.results54, go_sem, y0, y1, y2]) rfl ⟨by rw [← HR.out]; rfl, Qz.out⟩
            | false =>
              rw [h49] at b0
              have hbf : badB t = false := by rw [BQ.out, h12, h49]; rfl
              have HR := hide (SD.out hbf)
              have NJ := hide (show StK s[k] (uN last n s[k]) ∧ t.length ≤ k1 ∧ (∀ c ∈ t, c = 48 ∨ c = 49) ∧ badB t = false ∧ (1 ≤ uN last n s[k] → t ≠ []) from ⟨NI.out.1, NI.out.2.1, NI.out.2.2, hbf, fun _ e => by rw [← HTS.out, e] at hz0; exact absurd hz0 (by decide)⟩)
              clear SD SB BQ h49 hbf NI
              generalize sizeE t = se at *
              go_wp2_with fail
              go_roundw
              case rel => exact ⟨k1, _, _, t, hk1s, rfl, HR, M5, NJ⟩
              case measure => simp [intOf]; omega
        · have hRR := hR.out
          rw [DK.out, FP.stuffed_stuff hd _ _ _ _ ku, ← HKN.out] at hRR
          have HR := hide hRR
          obtain ⟨i0, i1, i2, i3, i4⟩ := hI.out
          have hne : bits ≠ [] := i4 (by unfold FP.uK at ku; split at ku; omega; omega)
          have BQ := badB_eq bits
          rw [i3] at BQ
          have b12 : ((sizeE bits : Int) == 12) = false := by
            cases h : ((sizeE bits : Int) == 12) with
            | false => rfl
            | true => rw [h] at BQ; cases BQ
          have SZ := hide (fun W => refSize_any ⟨bits.toArray⟩ W (by rw [toList_of]; exact i2) (by rw [size_of]; exact hbl))
          rw [toList_of] at SZ
          have hz0 : 0 < (⟨bits.toArray⟩ : ByteArray).size := by rw [hbs]; exact List.length_pos_iff.2 hne
          have b49 : (((⟨bits.toArray⟩ : ByteArray)[0].toNat : Int) == 49) = false := by
            have g := get_some (⟨bits.toArray⟩ : ByteArray) 0 hz0
            rw [toList_of] at g
            rw [bit_eq (i2 _ (List.mem_of_getElem? g)), ← g, decide_eq_false_iff_not]
            intro e
            rw [e] at BQ
            simp at BQ
          have NI := hide (show StK s[k] (uN last n s[k]) ∧ bits.length ≤ k1 ∧ (∀ c ∈ bits, c = 48 ∨ c = 49) ∧ badB bits = false ∧ (1 ≤ uN last n s[k] → bits ≠ []) from ⟨hI2.out, by have := HKN.out; omega, i2, i3, fun _ => hne⟩)
          rw [ku]
          clear hRR hR hd ku DK hI hI2 i0 i1 i2 i3 i4 BQ
          obtain ⟨t0, t1, t2, _⟩ := three_t M3.out.tb
          have hz0' : (0 : Int) < (⟨bits.toArray⟩ : ByteArray).size := by omega
          clear hne hbs
          generalize hbq : (⟨bits.toArray⟩ : ByteArray) = bq at *
          go_wp2_with fail
          refine (SZ.out _).mono ?_
          rintro e5 w5 ⟨rfl, rfl⟩
          go_wp2_with fail
          go_roundw
          case rel => exact ⟨k1, _, _, bits, hk1s, rfl, HR, M3, NI⟩
          case measure => simp [intOf]; omega
        · have hRR := hR.out
          rw [DK.out, FP.stuffed_err hd _ _ _ _ ku] at hRR
          have HR := hide hRR
          rw [ku]
          clear hRR hR hd ku DK
          go_wp2_with (refine wpList_store_hid (by rfl) 74 (.tmp 2) (.tmp 56) (by rfl) w.heap.size 0 [.string ⟨#[]⟩, .int .i64 0, .int .i64 10] (by rfl) (by rfl) (by exact (show World.there _ w.heap.size 0 3 from there_heap (cs := [_, _, _]) M3.out.rb)) (by kernel_rfl) (by simp [Value.oneCell']) ?_)
          intro Wz ez
          have Cz := whole_heap [.string ⟨#[]⟩, .int .i64 0, .int .i64 10] (xs := [_, _, _]) M3.out.rb rfl
          have qz := M3.out.q.trans (below_setCells (g := w.heap.size) [.string ⟨#[]⟩, .int .i64 0, .int .i64 10] 0 _ (Nat.le_refl _))
          rw [← ez.out] at Cz qz
          clear ez M3
          obtain ⟨y0, y1, y2, _⟩ := three_t Cz
          have Qz := hide qz
          clear Cz qz
          go_wp2_with fail
          refine bodyPost_ret (v := .agg #[.string ⟨#[]⟩, .int .i64 0, .int .i64 10]) (by simp [results, Tryd.results54, go_sem, y0, y1, y2]) rfl ⟨by rw [← HR.out]; rfl, Qz.out⟩
    · obtain rfl : k = s.size := by omega
      have hRR := hR.out
      rw [DE.out] at hRR
      go_wp2_with fail
      refine (SZ.out _).mono ?_
      rintro e1 w1 ⟨rfl, rfl⟩
      go_upto_region 20 with fail
      go_cut [103] (fun v W => v = .bool (doneB bits n) ∧ W = wr)
      case first =>
        rcases h1 : ((sizeE bits : Int) == 0) with _ | _ <;> rcases h2 : ((bits.length : Int) == (sizeV bits : Int) + 15) with _ | _ <;> rcases h3 : decide ((n : Int) < 5) with _ | _
        all_goals
          have DD := DQ.out
          rw [h1, h2, h3] at DD
          replace DD := hide DD
          generalize doneB bits n = db at *
          generalize sizeE bits = se at *
          generalize sizeV bits = sv at *
          clear hR hI DQ hRR
          go_wp2_with fail
          go_meet
          exact ⟨by rw [DD.out]; rfl, rfl⟩
      case rest =>
      obtain ⟨rfl, rfl⟩ := hcut
      clear SZ DQ
      cases hd : doneB bits n with
      | true =>
        rw [FP.stuffed_done hd] at hRR
        have HR := hide hRR
        clear hd hRR hR hI
        generalize hbq : (⟨bits.toArray⟩ : ByteArray) = bq at *
        have tb := hM.out.tb
        rw [hbq] at tb
        obtain ⟨t0, t1, t2, _⟩ := three_t tb
        clear tb
        go_wp2_with (refine wpList_store_hid (by rfl) 74 (.tmp 2) (.tmp 104) (by rfl) w.heap.size 0 [.string bq, .int .i64 s.size, .int .i64 0] (by rfl) (by rfl) (by exact (show World.there _ w.heap.size 0 3 from there_heap (cs := [_, _, _]) hM.out.rb)) (by kernel_rfl) (by simp [Value.oneCell']) ?_)
        intro Wz ez
        have Cz := whole_heap [.string bq, .int .i64 s.size, .int .i64 0] (xs := [_, _, _]) hM.out.rb rfl
        have qz := hM.out.q.trans (below_setCells (g := w.heap.size) [.string bq, .int .i64 s.size, .int .i64 0] 0 _ (Nat.le_refl _))
        rw [← ez.out] at Cz qz
        clear ez hM
        obtain ⟨y0, y1, y2, _⟩ := three_t Cz
        have Qz := hide qz
        clear Cz qz
        go_wp2_with fail
        refine bodyPost_ret (v := .agg #[.string bq, .int .i64 s.size, .int .i64 0]) (by simp [results, Tryd.results54, go_sem, y0, y1, y2]) rfl ⟨by rw [← HR.out, ← hbq]; rfl, Qz.out⟩
      | false =>
        rw [FP.stuffed_nil hd] at hRR
        have HR := hide hRR
        clear hd hRR hR hI
        go_wp2_with (refine wpList_store_hid (by rfl) 74 (.tmp 2) (.tmp 105) (by rfl) w.heap.size 0 [.string ⟨#[]⟩, .int .i64 0, .int .i64 3] (by rfl) (by rfl) (by exact (show World.there _ w.heap.size 0 3 from there_heap (cs := [_, _, _]) hM.out.rb)) (by kernel_rfl) (by simp [Value.oneCell']) ?_)
        intro Wz ez
        have Cz := whole_heap [.string ⟨#[]⟩, .int .i64 0, .int .i64 3] (xs := [_, _, _]) hM.out.rb rfl
        have qz := hM.out.q.trans (below_setCells (g := w.heap.size) [.string ⟨#[]⟩, .int .i64 0, .int .i64 3] 0 _ (Nat.le_refl _))
        rw [← ez.out] at Cz qz
        clear ez hM
        obtain ⟨y0, y1, y2, _⟩ := three_t Cz
        have Qz := hide qz
        clear Cz qz
        go_wp2_with fail
        refine bodyPost_ret (v := .agg #[.string ⟨#[]⟩, .int .i64 0, .int .i64 3]) (by simp [results, Tryd.results54, go_sem, y0, y1, y2]) rfl ⟨by rw [← HR.out]; rfl, Qz.out⟩
end Go.Proofs.YtmfgifinmeonjaaDoor
