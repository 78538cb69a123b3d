/- The walk of frame.stuffed. -/
import Derived.Test.YthkilodnghiocaaGreatDoorMgRdD
import Derived.Test.YthkilodnghiocaaGreatDoorMgCrA
import Derived.Test.YthkilodnghiocaaGreatDoorMgFbA
namespace Go.Proofs.YthkilodnghiocaaGreatDoor
open Go.ChangeShapes Go.WideShapes Go.ChangeAt Go.RowKit
open FP (uN uK stuffedF doneB badB sizeE sizeV SR)

theorem btB : BT 125 := ⟨by kernel_rfl, by decide⟩
theorem grown_setCells (b : Nat) : ∀ (vs : List Value) (o : Nat) (W : World), W.grownBy (W.setCells b o vs) (some b)
  | [], _, _ => grownBy_refl _ _
  | v :: r, o, W => by rw [World.setCells]; exact grownBy_trans (grown_set W b o v) (grown_setCells b r (o + 1) _)

def endF (bits : List UInt8) : Int := if sizeE bits = 0 then (sizeV bits : Int) + 15 else -1
theorem done_yes {bits : List UInt8} {n : Nat} (h : doneB bits n = true) : ((bits.length : Int) == endF bits) = true ∧ (n : Int) < 5 ∧ bits ≠ [] := by
  unfold doneB at h
  simp only [Bool.and_eq_true, decide_eq_true_eq] at h
  obtain ⟨h1, h2, h3⟩ := h
  refine ⟨?_, by omega, fun e => by rw [e] at h2; simp at h2⟩
  unfold endF
  rw [if_pos h1, beq_iff_eq]
  omega
theorem done_not {bits : List UInt8} {n : Nat} (h : doneB bits n = false) : ((bits.length : Int) == endF bits) = false ∨ ((bits.length : Int) == endF bits) = true ∧ ¬ (n : Int) < 5 := by
  by_cases he : (bits.length : Int) = endF bits
  · right
    refine ⟨beq_iff_eq.2 he, fun hn => ?_⟩
    unfold endF at he
    split at he
    · rename_i h1
      unfold doneB at h
      rw [decide_eq_true h1, decide_eq_true (show bits.length = sizeV bits + 15 by omega), decide_eq_true (show n < 5 by omega)] at h
      cases h
    · omega
  · exact .inl (beq_eq_false_iff_ne.2 he)

theorem sizeE_or (l : List UInt8) : sizeE l = 0 ∨ sizeE l = 3 ∨ sizeE l = 12 := by unfold sizeE; split; simp; split; simp; split <;> simp
/-- A frame's first bit is dominant. -/
theorem first_one {b : List UInt8} {c : UInt8} (h : b[0]? ≠ some 49) : (b ++ [c])[0]? = some 49 ↔ b ++ [c] = [49] := by
  cases b with
  | nil => simp
  | cons a b => simp at h ⊢; exact fun e => h e
theorem endF_app {b : List UInt8} {c : UInt8} (h : sizeE b = 0) : endF (b ++ [c]) = endF b ∧ sizeE (b ++ [c]) = 0 := by
  have := FP.size_append [c] (.inl h)
  unfold endF
  rw [this.1, this.2, h]; exact ⟨rfl, rfl⟩
theorem badB_app {b : List UInt8} {c : UInt8} (h : sizeE b = 0) (h0 : b[0]? ≠ some 49) (hn : b ≠ []) : badB (b ++ [c]) = false := by
  have h1 := (endF_app (c := c) h).2
  unfold badB
  rw [h1]
  have : ¬ (b ++ [c])[0]? = some 49 := fun e => by
    have := (first_one h0).1 e
    have hl := congrArg List.length this
    simp at hl
    exact hn hl
  simpa using this
theorem endF_pos {b : List UInt8} (h : sizeE b = 0) : (0 : Int) ≤ endF b := by unfold endF; rw [if_pos h]; omega
theorem endF_neg {b : List UInt8} (h : sizeE b ≠ 0) : endF b = -1 := by unfold endF; rw [if_neg h]

/-- What stuffed holds: what stuffing knows (block w.heap.size), the bits (a builder behind it). -/
structure SfM (w : World) (last : UInt8) (n : Nat) (bits : List UInt8) (W : World) : Prop where
  q : Below w.heap.size w W
  xb : W.heap[w.heap.size]? = some (.cells #[.int .u8 last.toNat, .int .i64 n] 71 (0, 0))
  bl : Lib.IsBuilderF 125 5 (w.heap.size + 1) (w.heap.size + 1) (Lib.byteCells bits) W
theorem SfM.lt {w W : World} {last : UInt8} {n : Nat} {bits : List UInt8} (h : SfM w last n bits W) : w.heap.size + 1 ≤ W.heap.size := heap_lt h.xb
theorem SfM.below {w W W' : World} {last : UInt8} {n : Nat} {bits : List UInt8} (h : SfM w last n bits W) (q : Below W.heap.size W W') : SfM w last n bits W' :=
  ⟨below_next h.q h.q.size q, heap_below h.xb q, bldF_keep h.bl (grown_none q) (fun k hk => by cases hk)⟩
theorem SfM.builder {w W W' : World} {last : UInt8} {n : Nat} {bits bits' : List UInt8} (h : SfM w last n bits W) (q : Below (w.heap.size + 1) W W') (b : Lib.IsBuilderF 125 5 (w.heap.size + 1) (w.heap.size + 1) (Lib.byteCells bits') W') : SfM w last n bits' W' :=
  ⟨h.q.trans (q.mono (by omega)), heapB h.xb q (by omega), b⟩
theorem SfM.set {w W : World} {last : UInt8} {n : Nat} {bits : List UInt8} (h : SfM w last n bits W) (last' : UInt8) (n' : Nat) : SfM w last' n' bits (W.setCells w.heap.size 0 [.int .u8 last'.toNat, .int .i64 n']) :=
  ⟨h.q.trans (below_setCells _ 0 W (Nat.le_refl _)), whole_heap _ (xs := [.int .u8 last.toNat, .int .i64 n]) h.xb rfl, bldF_keep h.bl (grown_setCells _ _ _ _) (fun k hk => by simp at hk; omega)⟩
theorem SfM.drew {w W : World} {last : UInt8} {n : Nat} {bits : List UInt8} (h : SfM w last n bits W) : SfM w last n bits W.drew :=
  ⟨h.q.drew, h.xb, h.bl⟩
theorem SfM.new (w : World) : SfM w 0 0 [] ((w.alloc (.cells #[.int .u8 0, .int .i64 0] 71)).alloc (.cells #[.pointer none, .slice none 0 0] 125)) := by
  have hs : (w.alloc (.cells #[.int .u8 0, .int .i64 0] 71)).heap.size = w.heap.size + 1 := by simp
  have hb := Lib.fresh_isBuilder 125 5 (w.alloc (.cells #[.int .u8 0, .int .i64 0] 71))
  rw [hs] at hb
  exact ⟨((Below.refl _ _).alloc (Nat.le_refl _) _).alloc (by simp) _, (two_new _ _ _).1, Lib.IsBuilderF.of hb⟩

set_option maxRecDepth 100000 in
set_option maxHeartbeats 8000000 in
theorem frStuffed_any (s : ByteArray) (w : World) (hb : ∀ c ∈ s.data.toList, c = 48 ∨ c = 49) (hs : s.size ≤ 4000) :
    Calls Tryz.prog 43 #[.string s] w fun e w' => e = .returned (.tuple #[.string ⟨(stuffedF s.data.toList 0 0 [] 0).bits.toArray⟩, .int .i64 (stuffedF s.data.toList 0 0 [] 0).n, .int .i64 (stuffedF s.data.toList 0 0 [] 0).e]) ∧ Below w.heap.size w w' := by
  have LS := hide (show s.data.toList.length = s.size from Array.length_toList)
  have BT := hide (fun j (hj : j < s.size) => show s[j] = 48 ∨ s[j] = 49 from hb _ (List.getElem_mem (l := s.data.toList) (by rw [LS.out]; exact hj)))
  have DR := hide (fun j (hj : j < s.size) => show s.data.toList.drop j = s[j] :: s.data.toList.drop (j + 1) from List.drop_eq_getElem_cons (by rw [LS.out]; exact hj))
  have DE := hide (show s.data.toList.drop s.size = [] from List.drop_of_length_le (by rw [LS.out]; exact Nat.le_refl _))
  have R0 := hide (show stuffedF (s.data.toList.drop 0) 0 0 [] 0 = stuffedF s.data.toList 0 0 [] 0 by rw [List.drop_zero])
  generalize stuffedF s.data.toList 0 0 [] 0 = R at *
  have M0 := hide (SfM.new w)
  generalize s.data.toList = l at *
  clear hb
  go_enter Tryz.func43, Tryz.ntmps43
  go_wp2_with fail
  go_loopw [7, 16] (fun ve vi W => ∃ (k n : Nat) (last : UInt8) (bits : List UInt8), k ≤ s.size ∧ vi = .int .i64 k ∧ ve = .int .i64 (endF bits) ∧ Hid (stuffedF (l.drop k) last n bits k = R) ∧ Hid (SfM w last n bits W) ∧ Hid (StK last n ∧ bits.length ≤ k ∧ (∀ c ∈ bits, c = 48 ∨ c = 49) ∧ bits[0]? ≠ some 49)) (fun _ vi _ => s.size - (intOf vi).toNat)
  case atStart => exact ⟨0, 0, 0, [], Nat.zero_le _, rfl, rfl, R0, M0, hide ⟨.inl ⟨rfl, rfl⟩, Nat.le_refl _, by simp, by simp⟩⟩
  case round =>
    clear M0 R0
    obtain ⟨k, n, last, bits, hk, rfl, rfl, hR, hM, hI⟩ := hrel
    have LN := hide (blenF_any _ _ _ bits wr hM.out.bl)
    have hbl : bits.length ≤ 4000 := by have := hI.out.2.1; omega
    by_cases hlt : k < s.size
    · cases hd : doneB bits n with
      | true =>
        obtain ⟨d1, d2, d3⟩ := done_yes hd
        have hRR := hR.out
        rw [FP.stuffed_done hd] at hRR
        have HR := hide hRR
        have BS := hide (bstrF_any _ _ _ bits wr hM.out.bl d3)
        obtain ⟨x0, x1, _⟩ := two_st hM.out.xb
        have Q := hide hM.out.q
        have hz := hM.out.lt
        clear hd hRR hR hI d3 hM
        generalize hbs : (⟨bits.toArray⟩ : ByteArray) = bs at *
        go_wp2_with fail
        refine LN.out.mono ?_
        rintro e1 w1 ⟨rfl, rfl⟩
        go_wp2_with fail
        refine BS.out.mono ?_
        rintro e2 w2 ⟨rfl, _, q2⟩
        have Q2 := hide (Q.out.trans (q2.mono (by omega)))
        clear q2 Q
        go_wp2_with fail
        refine bodyPost_ret (v := .tuple #[.string bs, .int .i64 k, .int .i64 0]) (by simp [results, Tryz.results43, go_sem]) rfl ⟨by rw [← HR.out, ← hbs]; rfl, Q2.out⟩
      | false =>
        have hc := BT.out k hlt
        have DK := hide (DR.out k hlt)
        go_upto_region 7 with fail
        go_cut [26] (fun v W => v = .bool false ∧ W = wr)
        case first =>
          obtain ⟨x0, x1, _⟩ := two_st hM.out.xb
          have dn := done_not hd
          clear hd hR hI hM DK hc
          rcases dn with d1 | ⟨d1, d2⟩
          · go_wp2_with fail
            refine LN.out.mono ?_
            rintro e1 w1 ⟨rfl, rfl⟩
            go_wp2_with fail
            go_meet
            exact ⟨rfl, rfl⟩
          · have d3 : decide ((n : Int) < 5) = false := decide_eq_false d2
            go_wp2_with fail
            refine LN.out.mono ?_
            rintro e1 w1 ⟨rfl, rfl⟩
            go_wp2_with fail
            go_meet
            exact ⟨rfl, rfl⟩
        case rest =>
        obtain ⟨rfl, rfl⟩ := hcut
        clear LN
        have hk' : (k : Int) < s.size := by omega
        go_upto_region 9 with fail
        go_cut [9, 10, 11] (fun vy vk vz W => ∃ y, vy = .pointer (some ⟨y, 0, none⟩) ∧ vk = .int .i64 (uK last n s[k] : Nat) ∧ vz = .int .i64 0 ∧ Hid (SfM w last n bits W) ∧ Hid (W.heap[y]? = some (.cells #[.int .u8 s[k].toNat, .int .i64 (uN last n s[k] : Nat)] 71 (0, 0))))
        case first =>
          have ST := hide (fun W => stStep_any last n s[k] W hI.out.1 hc)
          go_wp2_with fail
          refine wp_region_L [0, 1, 2, 3, 5, 6, 7, 8] [(0, fun W => W.heap[w.heap.size]? = some (.cells #[.int .u8 last.toNat, .int .i64 n] 71 (0, 0)))] (by kernel_rfl) ?_
          replace hM : Hid (SfM w last n bits wc.drew) := hide hM.out.drew
          clear hI hR DK hc hd
          generalize wc.drew = w4 at *
          refine wpAnyL_load (i := 0) (v := .agg #[.int .u8 last.toNat, .int .i64 n]) rfl rfl (by kernel_rfl) (by kernel_rfl) (by kernel_rfl) (by kernel_rfl) (by kernel_rfl) (fun _ _ _ h => h) rfl (fun W h => exec_heap W w.heap.size 71 _ _ h Tryz.underlying71 rfl (by kernel_rfl) _ _ (.tmp 5) (by rfl) (by rfl)) (hM.out.xb) ?_
          go_simp
          refine wpAnyL_pure (i := 1) (v := .string s) rfl rfl (by kernel_rfl) (by kernel_rfl) (by kernel_rfl) (by kernel_rfl) (by kernel_rfl) (fun _ _ _ h => h) rfl (fun W => by go_simp) ?_
          go_simp
          refine wpAnyL_pure (i := 2) (v := .int .i64 k) rfl rfl (by kernel_rfl) (by kernel_rfl) (by kernel_rfl) (by kernel_rfl) (by kernel_rfl) (fun _ _ _ h => h) rfl (fun W => by go_simp) ?_
          go_simp
          refine wpAnyL_pure (i := 3) (v := .int .u8 s[k].toNat) rfl rfl (by kernel_rfl) (by kernel_rfl) (by kernel_rfl) (by kernel_rfl) (by kernel_rfl) (fun _ _ _ h => h) rfl (fun W => by go_simp) ?_
          go_simp
          refine wpAnyL_two (i := 4) (k := 9) (by kernel_rfl) ?_ ?_
          · refine wpOp_do rfl rfl ?_
            go_simp
            (with_reducible refine (ST.out _).mono ?_)
            rintro e5 w5 ⟨rfl, q5⟩
            have M5 := hide (hM.out.below q5)
            clear q5 hM
            go_simp
            refine ⟨keepsL_mk (by kernel_rfl) (.cons M5.out.xb .nil), ?_⟩
            refine wpAnyL_pure (i := 5) (v := .tuple #[.agg #[.int .u8 s[k].toNat, .int .i64 (uN last n s[k] : Nat)], .int .i64 (uK last n s[k] : Nat), .int .i64 0]) rfl rfl (by kernel_rfl) (by kernel_rfl) (by kernel_rfl) (by kernel_rfl) (by kernel_rfl) (fun _ _ _ h => h) rfl (fun W => by go_simp) ?_
            go_simp
            refine wpAnyL_pure (i := 6) (v := .agg #[.int .u8 s[k].toNat, .int .i64 (uN last n s[k] : Nat)]) rfl rfl (by kernel_rfl) (by kernel_rfl) (by kernel_rfl) (by kernel_rfl) (by kernel_rfl) (fun _ _ _ h => h) rfl (fun W => by go_simp) ?_
            go_simp
            refine wpAnyL_pure (i := 7) (v := .int .i64 (uK last n s[k] : Nat)) rfl rfl (by kernel_rfl) (by kernel_rfl) (by kernel_rfl) (by kernel_rfl) (by kernel_rfl) (fun _ _ _ h => h) rfl (fun W => by go_simp) ?_
            go_simp
            refine wpAnyL_pure (i := 8) (v := .int .i64 0) rfl rfl (by kernel_rfl) (by kernel_rfl) (by kernel_rfl) (by kernel_rfl) (by kernel_rfl) (fun _ _ _ h => h) rfl (fun W => by go_simp) ?_
            go_simp
            refine wpAnyL_one (i := 9) (by kernel_rfl) ?_
            refine wpOp_do rfl rfl ?_
            go_simp
            have al := (Below.refl w5.heap.size w5).alloc (Nat.le_refl _) (.cells #[.int .u8 0, .int .i64 0] 71)
            have M6 := hide (M5.out.below al)
            have F6 := hide (World.alloc_heap_new w5 (.cells #[.int .u8 0, .int .i64 0] 71))
            have hyy : w.heap.size + 1 ≤ w5.heap.size := M5.out.lt
            clear hyy
            refine ⟨keepsL_mk (by kernel_rfl) (.cons M6.out.xb .nil), ?_⟩
            refine wpAnyL_one (i := 10) (by kernel_rfl) ?_
            refine wpOp_do rfl rfl ?_
            refine wp_store_as 71 (.tmp 9) (.tmp 35) rfl w5.heap.size 0 [.int .u8 s[k].toNat, .int .i64 (uN last n s[k] : Nat)] (by rfl) (by rfl) (by exact (show World.there _ w5.heap.size 0 2 from there_heap (cs := [_, _]) F6.out)) (by kernel_rfl) (by simp [Value.oneCell']) ?_
            intro W7 e7
            have F7 := whole_heap [.int .u8 s[k].toNat, .int .i64 (uN last n s[k] : Nat)] (xs := [_, _]) F6.out rfl
            have M7 := M5.out.below (al.trans (below_setCells (g := w5.heap.size) [.int .u8 s[k].toNat, .int .i64 (uN last n s[k] : Nat)] 0 _ (Nat.le_refl _)))
            rw [← e7] at F7 M7
            have F8 := hide F7
            have M8 := hide M7
            clear F7 M7 e7 F6 M6
            refine ⟨keepsL_all (by kernel_rfl) (by kernel_rfl), ?_⟩
            refine wpAnyL_one (i := 11) (by kernel_rfl) ?_
            refine wpOp_do rfl rfl ?_
            go_simp
            refine ⟨keepsL_all (by kernel_rfl) (by kernel_rfl), ?_⟩
            refine wpAnyL_one (i := 12) (by kernel_rfl) ?_
            refine wpOp_do rfl rfl ?_
            go_simp
            refine ⟨keepsL_all (by kernel_rfl) (by kernel_rfl), ?_⟩
            refine wpAnyL_done (by kernel_rfl) ?_ _
            go_wp2_with fail
            go_meet
            exact ⟨w5.heap.size, rfl, rfl, rfl, M8, F8⟩
          · refine wpOp_do rfl rfl ?_
            go_simp
            have al := (Below.refl w4.heap.size w4).alloc (Nat.le_refl _) (.cells #[.int .u8 0, .int .i64 0] 71)
            have M5 := hide (hM.out.below al)
            have F5 := hide (World.alloc_heap_new w4 (.cells #[.int .u8 0, .int .i64 0] 71))
            refine ⟨keepsL_mk (by kernel_rfl) (.cons M5.out.xb .nil), ?_⟩
            refine wpAnyL_one (i := 4) (by kernel_rfl) ?_
            refine wpOp_do rfl rfl ?_
            go_simp
            (with_reducible refine (ST.out _).mono ?_)
            rintro e6 w6 ⟨rfl, q6⟩
            have M6 := hide (M5.out.below q6)
            have F6 := hide (heap_below F5.out q6)
            have ch := hide (al.trans (q6.mono (by simp)))
            clear q6 M5 F5 al
            go_simp
            refine ⟨keepsL_mk (by kernel_rfl) (.cons M6.out.xb .nil), ?_⟩
            refine wpAnyL_pure (i := 5) (v := .tuple #[.agg #[.int .u8 s[k].toNat, .int .i64 (uN last n s[k] : Nat)], .int .i64 (uK last n s[k] : Nat), .int .i64 0]) rfl rfl (by kernel_rfl) (by kernel_rfl) (by kernel_rfl) (by kernel_rfl) (by kernel_rfl) (fun _ _ _ h => h) rfl (fun W => by go_simp) ?_
            go_simp
            refine wpAnyL_pure (i := 6) (v := .agg #[.int .u8 s[k].toNat, .int .i64 (uN last n s[k] : Nat)]) rfl rfl (by kernel_rfl) (by kernel_rfl) (by kernel_rfl) (by kernel_rfl) (by kernel_rfl) (fun _ _ _ h => h) rfl (fun W => by go_simp) ?_
            go_simp
            refine wpAnyL_pure (i := 7) (v := .int .i64 (uK last n s[k] : Nat)) rfl rfl (by kernel_rfl) (by kernel_rfl) (by kernel_rfl) (by kernel_rfl) (by kernel_rfl) (fun _ _ _ h => h) rfl (fun W => by go_simp) ?_
            go_simp
            refine wpAnyL_pure (i := 8) (v := .int .i64 0) rfl rfl (by kernel_rfl) (by kernel_rfl) (by kernel_rfl) (by kernel_rfl) (by kernel_rfl) (fun _ _ _ h => h) rfl (fun W => by go_simp) ?_
            go_simp
            refine wpAnyL_one (i := 10) (by kernel_rfl) ?_
            refine wpOp_do rfl rfl ?_
            refine wp_store_as 71 (.tmp 9) (.tmp 35) rfl w4.heap.size 0 [.int .u8 s[k].toNat, .int .i64 (uN last n s[k] : Nat)] (by rfl) (by rfl) (by exact (show World.there _ w4.heap.size 0 2 from there_heap (cs := [_, _]) F6.out)) (by kernel_rfl) (by simp [Value.oneCell']) ?_
            intro W7 e7
            have F7 := whole_heap [.int .u8 s[k].toNat, .int .i64 (uN last n s[k] : Nat)] (xs := [_, _]) F6.out rfl
            have M7 := hM.out.below (ch.out.trans (below_setCells (g := w4.heap.size) [.int .u8 s[k].toNat, .int .i64 (uN last n s[k] : Nat)] 0 _ (Nat.le_refl _)))
            rw [← e7] at F7 M7
            have F8 := hide F7
            have M8 := hide M7
            clear F7 M7 e7 F6 M6
            refine ⟨keepsL_all (by kernel_rfl) (by kernel_rfl), ?_⟩
            refine wpAnyL_one (i := 11) (by kernel_rfl) ?_
            refine wpOp_do rfl rfl ?_
            go_simp
            refine ⟨keepsL_all (by kernel_rfl) (by kernel_rfl), ?_⟩
            refine wpAnyL_one (i := 12) (by kernel_rfl) ?_
            refine wpOp_do rfl rfl ?_
            go_simp
            refine ⟨keepsL_all (by kernel_rfl) (by kernel_rfl), ?_⟩
            refine wpAnyL_done (by kernel_rfl) ?_ _
            go_wp2_with fail
            go_meet
            exact ⟨w4.heap.size, rfl, rfl, rfl, M8, F8⟩
        case rest =>
        clear hM
        obtain ⟨y, rfl, rfl, rfl, hM, hY⟩ := hcut
        obtain ⟨y0, y1, _⟩ := two_st hY.out
        have hI2 := hide (hI.out.1.step hc)
        go_wp2_with (refine wpList_store_hid (by rfl) 71 (.tmp 5) (.tmp 38) (by rfl) w.heap.size 0 [.int .u8 s[k].toNat, .int .i64 (uN last n s[k] : Nat)] (by rfl) (by rfl) (by exact (show World.there _ w.heap.size 0 2 from there_heap (cs := [_, _]) hM.out.xb)) (by kernel_rfl) (by simp [Value.oneCell']) ?_)
        intro W2 e2
        have M2 := hM.out.set s[k] (uN last n s[k])
        rw [← e2.out] at M2
        replace M2 := hide M2
        clear e2 hM hY y0 y1
        rcases FP.uK_or last n s[k] with hk1 | hk2 | hk3
        · rw [hk1]
          obtain ⟨_, i1, i2, i3⟩ := hI.out
          have NI := hide (show StK s[k] (uN last n s[k]) ∧ (bits ++ [s[k]]).length ≤ k + 1 ∧ (∀ c ∈ bits ++ [s[k]], c = 48 ∨ c = 49) from ⟨hI2.out, by simp; omega, fun c hcc => by
            rw [List.mem_append, List.mem_singleton] at hcc
            rcases hcc with h | rfl
            · exact i2 c h
            · exact hc⟩)
          have I3 := hide i3
          have hRR := hR.out
          rw [DK.out] at hRR
          have hm2 := M2.out.lt
          have SD := hide (fun (hb : badB (bits ++ [s[k]]) = false) => (FP.stuffed_data hd s[k] (l.drop (k + 1)) last k hk1 hb).symm.trans hRR)
          have SB := hide (fun (hb : badB (bits ++ [s[k]]) = true) => (FP.stuffed_bad hd s[k] (l.drop (k + 1)) last k hk1 hb).symm.trans hRR)
          clear hI hI2 i1 i2 i3 hRR hR hd hk1 DK
          go_wp2_with fail
          refine (wbF_any _ _ _ btB bits s[k] _ M2.out.bl (by omega) hm2).mono ?_
          rintro e3 w3 ⟨rfl, b3, q3⟩
          have M3 := hide (M2.out.builder q3 b3)
          clear b3 q3 M2 hm2
          by_cases hz : sizeE bits = 0
          · have hp := endF_pos hz
            have hpd : decide ((0 : Int) ≤ endF bits) = true := decide_eq_true hp
            have hE := endF_app (c := s[k]) hz
            have HB := hide (SD.out (badB_app hz I3.out (fun e => by rw [e] at hz; revert hz; decide)))
            have H0 := hide (show (bits ++ [s[k]])[0]? ≠ some 49 from fun e => by
              have := (first_one I3.out).1 e
              have hl := congrArg List.length this
              simp at hl
              rw [hl] at hz; revert hz; decide)
            have HE := hide hE.1
            clear hE hz SD SB
            go_wp2_with fail
            go_roundw
            case rel => exact ⟨k + 1, _, _, bits ++ [s[k]], by omega, by go_num, by rw [HE.out], HB, M3, hide ⟨NI.out.1, NI.out.2.1, NI.out.2.2, H0.out⟩⟩
            case measure => simp [intOf]; omega
          · rw [endF_neg hz]
            have F1 := hide (first_one (c := s[k]) I3.out)
            have BD := hide (show badB (bits ++ [s[k]]) = (decide (sizeE (bits ++ [s[k]]) = 12) || decide ((bits ++ [s[k]])[0]? = some 49)) from rfl)
            have hne : bits ++ [s[k]] ≠ [] := by simp
            have hlt2 : (bits ++ [s[k]]).length ≤ 4000 := by have := NI.out.2.1; omega
            have EF := hide (show endF (bits ++ [s[k]]) = if sizeE (bits ++ [s[k]]) = 0 then (sizeV (bits ++ [s[k]]) : Int) + 15 else -1 from rfl)
            have SO := hide (sizeE_or (bits ++ [s[k]]))
            have hsv := FP.sizeV_bd (bits ++ [s[k]])
            generalize bits ++ [s[k]] = t at *
            have FS := hide (fun W => frSize_any ⟨t.toArray⟩ W (by rw [toList_of]; exact NI.out.2.2) (by rw [size_of]; exact hlt2))
            rw [toList_of] at FS
            clear hz
            have BS := hide (bstrF_any _ _ _ t _ M3.out.bl hne)
            generalize hbs : (⟨t.toArray⟩ : ByteArray) = bs at *
            go_wp2_with fail
            refine BS.out.mono ?_
            rintro e4 w4 ⟨rfl, b4, q4⟩
            have M4 := hide (M3.out.builder q4 b4)
            clear b4 q4 M3 BS
            go_wp2_with fail
            refine (FS.out _).mono ?_
            rintro e5 w5 ⟨rfl, q5⟩
            have M5 := hide (M4.out.below q5)
            clear q5 M4 FS
            have BS := hide (bstrF_any _ _ _ t _ M5.out.bl hne)
            rw [hbs] at BS
            go_wp2_with fail
            refine BS.out.mono ?_
            rintro e6 w6 ⟨rfl, b6, q6⟩
            have M6 := hide (M5.out.builder q6 b6)
            clear b6 q6 M5 BS
            by_cases h1 : t = [49]
            · have e1 : bs.toList = [49] := by rw [← hbs, Lib.toList_data, h1]
              have e2 : (bs.toList == [49]) = true := by rw [e1]; rfl
              have HR := hide (SB.out (by rw [BD.out, decide_eq_true (F1.out.2 h1), Bool.or_true]))
              have Q := hide M6.out.q
              clear h1 hbs M6 SD SB BD F1 EF SO
              go_wp2_with fail
              refine bodyPost_ret (v := .tuple #[.string ⟨#[]⟩, .int .i64 0, .int .i64 12]) (by simp [results, Tryz.results43, go_sem]) rfl ⟨by rw [← HR.out]; rfl, Q.out⟩
            · have e1 : bs.toList ≠ [49] := by rw [← hbs, Lib.toList_data]; exact h1
              have e2 : (bs.toList == [49]) = false := beq_eq_false_iff_ne.2 e1
              have hT0 : t[0]? ≠ some 49 := fun e => h1 (F1.out.1 e)
              have B2 := hide (show badB t = decide (sizeE t = 12) by rw [BD.out, decide_eq_false hT0, Bool.or_false])
              rcases SO.out with h0 | h0 | h0
              · have HR := hide (SD.out (by rw [B2.out, h0]; rfl))
                have E2 := EF.out
                rw [if_pos h0] at E2
                have HE := hide E2
                rw [h0]
                clear h1 hbs SD SB BD F1 EF SO E2 h0 e1 B2
                generalize sizeV t = sv at *
                go_wp2_with fail
                go_roundw
                case rel => exact ⟨k + 1, _, _, t, by omega, by go_num, by rw [HE.out], HR, M6, hide ⟨NI.out.1, NI.out.2.1, NI.out.2.2, hT0⟩⟩
                case measure => simp [intOf]; omega
              · have HR := hide (SD.out (by rw [B2.out, h0]; rfl))
                have E2 := EF.out
                rw [if_neg (by omega)] at E2
                have HE := hide E2
                rw [h0]
                clear h1 hbs SD SB BD F1 EF SO E2 h0 e1 B2
                generalize sizeV t = sv at *
                go_wp2_with fail
                go_roundw
                case rel => exact ⟨k + 1, _, _, t, by omega, by go_num, by rw [HE.out], HR, M6, hide ⟨NI.out.1, NI.out.2.1, NI.out.2.2, hT0⟩⟩
                case measure => simp [intOf]; omega
              · have HR := hide (SB.out (by rw [B2.out, h0]; rfl))
                have Q := hide M6.out.q
                rw [h0]
                clear h1 hbs M6 SD SB BD F1 EF SO h0 e1 B2
                generalize sizeV t = sv at *
                go_wp2_with fail
                refine bodyPost_ret (v := .tuple #[.string ⟨#[]⟩, .int .i64 0, .int .i64 12]) (by simp [results, Tryz.results43, go_sem]) rfl ⟨by rw [← HR.out]; rfl, Q.out⟩
        · have hRR := hR.out
          rw [DK.out, FP.stuffed_stuff hd _ _ _ _ hk2] at hRR
          have HR := hide hRR
          rw [hk2]
          clear hRR hR hd hk2 DK
          go_wp2_with fail
          go_roundw
          case rel => exact ⟨k + 1, _, _, bits, by omega, by go_num, rfl, HR, M2, hide ⟨hI2.out, by have := hI.out.2.1; omega, hI.out.2.2⟩⟩
          case measure => simp [intOf]; omega
        · have hRR := hR.out
          rw [DK.out, FP.stuffed_err hd _ _ _ _ hk3] at hRR
          have HR := hide hRR
          have Q := hide M2.out.q
          rw [hk3]
          clear hRR hR hd hk3 DK M2
          go_wp2_with fail
          refine bodyPost_ret (v := .tuple #[.string ⟨#[]⟩, .int .i64 0, .int .i64 10]) (by simp [results, Tryz.results43, go_sem]) rfl ⟨by rw [← HR.out]; rfl, Q.out⟩
    · obtain rfl : k = s.size := by omega
      have hRR := hR.out
      rw [DE.out] at hRR
      have Q := hide hM.out.q
      have hz := hM.out.lt
      obtain ⟨x0, x1, _⟩ := two_st hM.out.xb
      cases hd : doneB bits n with
      | true =>
        obtain ⟨d1, d2, d3⟩ := done_yes hd
        rw [FP.stuffed_done hd] at hRR
        have HR := hide hRR
        have BS := hide (bstrF_any _ _ _ bits wr hM.out.bl d3)
        clear hd hRR hR hI d3 hM
        generalize hbs : (⟨bits.toArray⟩ : ByteArray) = bs at *
        go_wp2_with fail
        refine LN.out.mono ?_
        rintro e1 w1 ⟨rfl, rfl⟩
        go_wp2_with fail
        refine BS.out.mono ?_
        rintro e2 w2 ⟨rfl, _, q2⟩
        have Q2 := hide (Q.out.trans (q2.mono (by omega)))
        clear q2 Q
        go_wp2_with fail
        refine bodyPost_ret (v := .tuple #[.string bs, .int .i64 s.size, .int .i64 0]) (by simp [results, Tryz.results43, go_sem]) rfl ⟨by rw [← HR.out, ← hbs]; rfl, Q2.out⟩
      | false =>
        rw [FP.stuffed_nil hd] at hRR
        have HR := hide hRR
        have dn := done_not hd
        clear hd hRR hR hI hM
        rcases dn with d1 | ⟨d1, d2⟩
        · go_wp2_with fail
          refine LN.out.mono ?_
          rintro e1 w1 ⟨rfl, rfl⟩
          go_wp2_with fail
          refine bodyPost_ret (v := .tuple #[.string ⟨#[]⟩, .int .i64 0, .int .i64 3]) (by simp [results, Tryz.results43, go_sem]) rfl ⟨by rw [← HR.out]; rfl, Q.out⟩
        · have d3 : decide ((n : Int) < 5) = false := decide_eq_false d2
          go_wp2_with fail
          refine LN.out.mono ?_
          rintro e1 w1 ⟨rfl, rfl⟩
          go_wp2_with fail
          refine bodyPost_ret (v := .tuple #[.string ⟨#[]⟩, .int .i64 0, .int .i64 3]) (by simp [results, Tryz.results43, go_sem]) rfl ⟨by rw [← HR.out]; rfl, Q.out⟩
end Go.Proofs.YthkilodnghiocaaGreatDoor

/- The walk of frame.Read. -/
namespace Go.Proofs.YthkilodnghiocaaGreatDoor
open Go.ChangeShapes Go.WideShapes Go.ChangeAt Go.RowKit
open FP (bit bitsOf numOf Fr headF sizeE sizeV fxN dlN rawF readB sizedB bytesF byteAt idF fr0)

/-- 'string(b)', b a row of the call's own, empty or not. -/
theorem run_bytes_own {P : Program} (w : World) (src dst e : TypeId) (hs : P.underlying src = some (.slice e)) (he : P.underlying e = some (.int .u8)) (hd : P.underlying dst = some .string)
    {base : Nat} {A : Option Addr} {c : Nat} {l : List UInt8} (h : Own w base 5 1 A c (byRow l)) (n : Nat) (hn : n = l.length) : (convert src dst (.slice A n c)).run P w = .ok (.string ⟨l.toArray⟩) w := by
  subst hn
  rcases Nat.eq_zero_or_pos l.length with h0 | h0
  · have hl : l = [] := List.length_eq_zero_iff.1 h0
    subst hl
    rw [run_convert_bytes_string w src dst e _ _ _ hs he hd]
    cases A with
    | none => simp [Conv.bytesToString, Sem.run_pure]; rfl
    | some a =>
      exact run_bytesToString (P := P) w a 0 c [] (by simp [loadCells, loadCellsFrom])
  · obtain ⟨g, rfl, _, _⟩ := h.ofLen (by rw [byRow_len]; exact h0)
    exact run_bytes_str w src dst e hs he hd g l.length c l rfl (fun i hi => byOwn_cell h hi)

set_option maxRecDepth 100000 in
set_option maxHeartbeats 1000000 in
theorem rdNum_any (s : ByteArray) (b frm tt : Nat) (N M : Int) (w : World) (hb : ∀ c ∈ s.data.toList, c = 48 ∨ c = 49) (hN : N = frm) (hT : N + M = tt) (hft : frm ≤ tt) (hto : tt ≤ s.size) (h60 : tt ≤ frm + 60) (hs : s.size ≤ 4000)
    (h : w.heap[b]? = some (.cells #[.string s] 9 (0, 0))) :
    Calls Tryz.prog 70 #[.int .i64 N, .int .i64 M, .pointer (some ⟨b, 0, none⟩)] w fun e w' => e = .returned (.int .u64 (numOf (s.data.toList.extract frm tt) : Nat)) ∧ Below w.heap.size w w' := by
  have NB := hide (fun W => bitsNumber_any (s.extract frm tt) W (extract_bits hb frm tt) (by rw [ByteArray.size_extract]; omega))
  rw [toList_extract] at NB
  have c0 : w.cell? ⟨b, 0, none⟩ = some (.string s) := by simp [World.cell?, h]
  subst hN
  have hT1 : ((frm : Int) + M) = tt := hT
  clear h hb hT
  generalize numOf (s.data.toList.extract frm tt) = v at *
  go_enter Tryz.func70, Tryz.ntmps70
  go_wp2_with fail
  refine (NB.out _).mono ?_
  rintro e1 w1 ⟨rfl, q1⟩
  go_wp2_with fail
  go_ret
  exact ⟨rfl, q1⟩

/-- Read's memory: the row's box, the answer's (zero), the frame's (block g). -/
structure RdM (w : World) (g : Nat) (s : ByteArray) (f : Fr) (W : World) : Prop where
  q : Below w.heap.size w W
  sb : W.heap[w.heap.size]? = some (.cells #[.string s] 9 (0, 0))
  zb : W.heap[w.heap.size + 1]? = some (.cells #[.int .u32 0, .bool false, .bool false, .int .i64 0, .string ⟨#[]⟩] 45 (0, 0))
  fb : W.heap[g]? = some (.cells #[.int .u32 f.id, .bool f.ext, .bool f.rem, .int .i64 f.dlc, .string f.data] 45 (0, 0))
  hg : w.heap.size + 2 ≤ g
theorem RdM.below {w W W' : World} {g : Nat} {s : ByteArray} {f : Fr} (h : RdM w g s f W) (q : Below W.heap.size W W') : RdM w g s f W' :=
  ⟨below_next h.q h.q.size q, heap_below h.sb q, heap_below h.zb q, heap_below h.fb q, h.hg⟩
theorem RdM.grown {w W W' : World} {g : Nat} {s : ByteArray} {f : Fr} (h : RdM w g s f W) {row : Option Nat} (hr : ∀ k, row = some k → g < k) (q : W.grownBy W' row) : RdM w g s f W' := by
  have hg := h.hg
  refine ⟨h.q.grown q h.q.size (fun k hk => by have := hr k hk; omega), heap_grownB h.sb q ?_, heap_grownB h.zb q ?_, heap_grownB h.fb q ?_, h.hg⟩
  · intro e; have := hr _ e; omega
  · intro e; have := hr _ e; omega
  · intro e; have := hr _ e; omega
theorem RdM.set {w W : World} {g : Nat} {s : ByteArray} {f : Fr} (h : RdM w g s f W) (j : Nat) (v : Value) (f' : Fr) (hv : #[Value.int .u32 f.id, .bool f.ext, .bool f.rem, .int .i64 f.dlc, .string f.data].setIfInBounds j v = #[.int .u32 f'.id, .bool f'.ext, .bool f'.rem, .int .i64 f'.dlc, .string f'.data]) : RdM w g s f' (W.setCell ⟨g, j, none⟩ v) := by
  have hg := h.hg
  refine ⟨h.q.setCell (p := ⟨g, j, none⟩) (by show w.heap.size ≤ g; omega) v, ?_, ?_, ?_, h.hg⟩
  · rw [heap_setCell_other W ⟨g, j, none⟩ _ v (by show w.heap.size ≠ g; omega)]; exact h.sb
  · rw [heap_setCell_other W ⟨g, j, none⟩ _ v (by show w.heap.size + 1 ≠ g; omega)]; exact h.zb
  · rw [heap_setCell_same W g j _ 45 v h.fb, hv]
theorem RdM.drew {w W : World} {g : Nat} {s : ByteArray} {f : Fr} (h : RdM w g s f W) : RdM w g s f W.drew := ⟨h.q.drew, h.sb, h.zb, h.fb, h.hg⟩
theorem RdM.scell {w W : World} {g : Nat} {s : ByteArray} {f : Fr} (h : RdM w g s f W) : W.cell? ⟨w.heap.size, 0, none⟩ = some (.string s) := by simp [World.cell?, h.sb]
theorem RdM.lt {w W : World} {g : Nat} {s : ByteArray} {f : Fr} (h : RdM w g s f W) : g < W.heap.size := heap_lt h.fb

set_option maxRecDepth 100000 in
set_option maxHeartbeats 4000000 in
theorem frRead_no (s : ByteArray) (w : World) (v e0 : Int) (hs : s.size ≤ maxLen) (h : (e0 != 0) = true ∨ (e0 != 0) = false ∧ (v != (s.size : Int)) = true)
    (SZ : ∀ W, Calls Tryz.prog 69 #[.string s] W fun e w' => e = .returned (.tuple #[.int .i64 v, .int .i64 e0]) ∧ Below W.heap.size W w') :
    Calls Tryz.prog 45 #[.string s] w fun e w' => e = .returned (.tuple #[.agg #[.int .u32 0, .bool false, .bool false, .int .i64 0, .string ⟨#[]⟩], .int .i64 12]) ∧ Below w.heap.size w w' := by
  have S := hide SZ
  clear SZ
  unfold maxLen at hs
  have q0 : Below w.heap.size w ((w.alloc (.cells #[.string s] 9)).alloc (.cells #[.int .u32 0, .bool false, .bool false, .int .i64 0, .string ⟨#[]⟩] 45)) := ((Below.refl _ _).alloc (Nat.le_refl _) _).alloc (by simp) _
  have B0 := hide (show ((w.alloc (.cells #[.string s] 9)).alloc (.cells #[.int .u32 0, .bool false, .bool false, .int .i64 0, .string ⟨#[]⟩] 45)).heap[w.heap.size + 1]? = some (.cells #[.int .u32 0, .bool false, .bool false, .int .i64 0, .string ⟨#[]⟩] 45 (0, 0)) from (two_new _ _ _).2)
  have B1 := hide (show ((w.alloc (.cells #[.string s] 9)).alloc (.cells #[.int .u32 0, .bool false, .bool false, .int .i64 0, .string ⟨#[]⟩] 45)).heap[w.heap.size]? = some (.cells #[.string s] 9 (0, 0)) from (two_new _ _ _).1)
  rcases h with h | ⟨h1, h⟩
  all_goals
    go_enter Tryz.func45, Tryz.ntmps45
    go_wp2_with fail
    refine (S.out _).mono ?_
    rintro e1 w1 ⟨rfl, q1⟩
    have C1 : Hid (w1.heap[w.heap.size + 1]? = _) := hide (heap_below B0.out q1)
    have Q1 := hide (below_next q0 q0.size q1)
    have c0 : w1.cell? ⟨w.heap.size, 0, none⟩ = some (.string s) := by have := heap_below B1.out q1; simp [World.cell?, this]
    clear q0 B0 q1 B1
    go_wp2_with (refine wpList_store_hid (by rfl) 45 (.tmp 2) (.tmp 23) (by rfl) (w.heap.size + 1) 0 [.int .u32 0, .bool false, .bool false, .int .i64 0, .string ⟨#[]⟩] (by rfl) (by rfl) (by exact there_heap (cs := [_, _, _, _, _]) C1.out) (by kernel_rfl) (by simp [Value.oneCell']) ?_)
    intro W2 e2
    have C2 := whole_heap [.int .u32 0, .bool false, .bool false, .int .i64 0, .string ⟨#[]⟩] (xs := [_, _, _, _, _]) C1.out rfl
    have q2 := Q1.out.trans (below_setCells (g := w.heap.size + 1) [.int .u32 0, .bool false, .bool false, .int .i64 0, .string ⟨#[]⟩] 0 w1 (by omega))
    rw [← e2.out] at C2 q2
    clear e2
    obtain ⟨y0, y1, y2, y3, y4⟩ := frCells (id := 0) C2
    have Q2 := hide q2
    clear C2 q2
    go_wp2
    refine bodyPost_ret (v := .tuple #[.agg #[.int .u32 0, .bool false, .bool false, .int .i64 0, .string ⟨#[]⟩], .int .i64 12]) (by simp [results, Tryz.results45, go_sem, y0, y1, y2, y3, y4]) rfl ⟨rfl, Q2.out⟩
end Go.Proofs.YthkilodnghiocaaGreatDoor
