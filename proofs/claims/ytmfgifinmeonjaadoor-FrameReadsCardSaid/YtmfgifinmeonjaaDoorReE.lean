/- The walk of FrameReads. -/
import Derived.Test.YtmfgifinmeonjaaDoorReD
import Derived.Test.YtmfgifinmeonjaaDoorRdG
namespace Go.Proofs.YtmfgifinmeonjaaDoor
open Go.ChangeShapes Go.WideShapes Go.ChangeAt Go.RowKit
open FP (Fr sizeE sizeV readV readE readB rawF parseF fr0)

theorem read_ref (l : List UInt8) : (readB l = true → readV l = refRd l ∧ readE l = 0) ∧ (readB l = false → readV l = fr0 ∧ readE l = 12) := by
  constructor
  · intro h
    have := FP.read_yes h
    refine ⟨?_, this.2⟩
    rw [this.1]
    unfold refRd
    unfold readB at h
    rw [Bool.and_eq_true] at h
    rw [h.1]; rfl
  · intro h
    exact FP.read_not h

set_option maxRecDepth 100000 in
set_option maxHeartbeats 8000000 in
theorem frameReads_walk (s0 : ByteArray) (w : World) (hs0 : s0.size ≤ maxLen) :
    Calls Tryd.prog 6 #[.string s0] w fun e w' => e = .returned (.bool true) ∧ Below w.heap.size w w' := by
  unfold maxLen at hs0
  obtain ⟨m, em, hm⟩ := run_min (P := Tryd.prog) (s0.size : Int) 400
  obtain ⟨k, rfl⟩ : ∃ k : Nat, m = (k : Int) := ⟨m.toNat, by omega⟩
  have hkb : (k : Int) ≤ s0.size := by omega
  have hk : k ≤ s0.size := by omega
  have hk4 : k ≤ 400 := by omega
  have hz : (s0.extract 0 k).size = k := by rw [ByteArray.size_extract]; omega
  have Q : Hid (Below w.heap.size w w) := hide (Below.refl _ _)
  clear em
  generalize hs : s0.extract 0 k = s at *
  have R1 := hide (fun W => refBits01_any s W (by unfold maxLen; omega))
  cases hb : bitRow s.data.toList with
  | false =>
    have SZ := hide (fun W => frSize_no s W (by unfold maxLen; omega) hb)
    have RD := hide (fun W => frRead_no s W 0 1 (by unfold maxLen; omega) (.inl rfl) (fun W => frSize_no s W (by unfold maxLen; omega) hb))
    have PS := hide (fun W => frParse_no s W (by unfold maxLen; omega) hb)
    rw [hb] at R1
    clear hb
    go_enter Tryd.func6, Tryd.ntmps6
    go_wp2_with fail
    (with_reducible refine (SZ.out _).mono ?_)
    rintro ex w1 ⟨rfl, qx⟩
    have QN := hide (below_next Q.out Q.out.size qx)
    clear qx Q
    have Q := QN
    clear QN
    go_wp2_with fail
    (with_reducible refine (RD.out _).mono ?_)
    rintro ex w2 ⟨rfl, qx⟩
    have QN := hide (below_next Q.out Q.out.size qx)
    clear qx Q
    have Q := QN
    clear QN
    have al := (Below.refl w2.heap.size w2).alloc (Nat.le_refl _) (.cells #[.int .u32 0, .bool false, .bool false, .int .i64 0, .string ⟨#[]⟩] 24)
    have Fn := hide (World.alloc_heap_new w2 (.cells #[.int .u32 0, .bool false, .bool false, .int .i64 0, .string ⟨#[]⟩] 24))
    go_wp2_with (refine wpList_store_hid (by rfl) 24 (.tmp 5) (.tmp 30) (by rfl) w2.heap.size 0 [.int .u32 0, .bool false, .bool false, .int .i64 0, .string ⟨#[]⟩] (by rfl) (by rfl) (by exact frThere (id := 0) Fn.out) (by kernel_rfl) (by simp [Value.oneCell']) ?_)
    intro W3 eN
    have FA := whole_heap [.int .u32 0, .bool false, .bool false, .int .i64 0, .string ⟨#[]⟩] (xs := [_, _, _, _, _]) Fn.out rfl
    have bN := al.trans (below_setCells (g := w2.heap.size) [.int .u32 0, .bool false, .bool false, .int .i64 0, .string ⟨#[]⟩] 0 _ (Nat.le_refl _))
    rw [← eN.out] at FA bN
    replace FA := hide FA
    have QN := hide (below_next Q.out Q.out.size bN)
    clear eN bN al Fn Q
    have Q := QN
    clear QN
    go_wp2_with fail
    (with_reducible refine (PS.out _).mono ?_)
    rintro ex w4 ⟨rfl, qx⟩
    have QN := hide (below_next Q.out Q.out.size qx)
    replace FA := hide (heap_below FA.out qx)
    clear qx Q
    have Q := QN
    clear QN
    have al := (Below.refl w4.heap.size w4).alloc (Nat.le_refl _) (.cells #[.int .u32 0, .bool false, .bool false, .int .i64 0, .string ⟨#[]⟩] 24)
    have Fn := hide (World.alloc_heap_new w4 (.cells #[.int .u32 0, .bool false, .bool false, .int .i64 0, .string ⟨#[]⟩] 24))
    go_wp2_with (refine wpList_store_hid (by rfl) 24 (.tmp 7) (.tmp 35) (by rfl) w4.heap.size 0 [.int .u32 0, .bool false, .bool false, .int .i64 0, .string ⟨#[]⟩] (by rfl) (by rfl) (by exact frThere (id := 0) Fn.out) (by kernel_rfl) (by simp [Value.oneCell']) ?_)
    intro W5 eN
    have FB := whole_heap [.int .u32 0, .bool false, .bool false, .int .i64 0, .string ⟨#[]⟩] (xs := [_, _, _, _, _]) Fn.out rfl
    have bN := al.trans (below_setCells (g := w4.heap.size) [.int .u32 0, .bool false, .bool false, .int .i64 0, .string ⟨#[]⟩] 0 _ (Nat.le_refl _))
    rw [← eN.out] at FB bN
    replace FB := hide FB
    have QN := hide (below_next Q.out Q.out.size bN)
    replace FA := hide (heap_below FA.out bN)
    clear eN bN al Fn Q
    have Q := QN
    clear QN
    go_wp2_with fail
    (with_reducible refine (R1.out _).mono ?_)
    rintro ex wx ⟨rfl, rfl⟩
    go_wp2_with fail
    (with_reducible refine (alive04_any _).mono ?_)
    rintro ex w6 ⟨rfl, qx⟩
    have QN := hide (below_next Q.out Q.out.size qx)
    replace FA := hide (heap_below FA.out qx)
    replace FB := hide (heap_below FB.out qx)
    clear qx Q
    have Q := QN
    clear QN
    obtain ⟨c0, c1, c2, c3, c4⟩ := frCells (id := 0) FA.out
    obtain ⟨d0, d1, d2, d3, d4⟩ := frCells (id := 0) FB.out
    go_wp2_with fail
    go_ret
    exact ⟨rfl, Q.out⟩
  | true =>
    have hbb := (bitRow_iff.1 hb).2
    have SZ := hide (fun W => frSize_any s W hbb (by omega))
    have RD := hide (fun W => frRead_any s W hbb (by omega))
    have PS := hide (fun W => frParse_any s W hbb (by omega))
    have SR := hide (fun W => refSize_any s W hbb (by omega))
    have RR := hide (fun W => ref04Read_any s W hbb (by omega))
    have PR := hide (fun W => ref04Parse_any s W hbb (by omega))
    obtain ⟨RY, RN⟩ := read_ref s.data.toList
    replace RY := hide RY
    replace RN := hide RN
    rw [hb] at R1
    clear hb hbb
    generalize sizeE s.data.toList = se at *
    generalize sizeV s.data.toList = sv at *
    generalize readV s.data.toList = rv at *
    generalize readE s.data.toList = re at *
    generalize refRd s.data.toList = rr at *
    generalize readB s.data.toList = rb at *
    generalize parseF s.data.toList = pr at *
    obtain ⟨pe, pf, pn⟩ := pr
    obtain ⟨pid, pext, prem, pdlc, pdata⟩ := pf
    cases rb with
    | true =>
      obtain ⟨e1, e2⟩ := RY.out rfl
      subst e1 e2
      obtain ⟨aid, aext, arem, adlc, adata⟩ := rv
      dsimp only at *
      clear RY RN
      go_enter Tryd.func6, Tryd.ntmps6
      go_wp2_with fail
      (with_reducible refine (SZ.out _).mono ?_)
      rintro ex w1 ⟨rfl, qx⟩
      have QN := hide (below_next Q.out Q.out.size qx)
      clear qx Q
      have Q := QN
      clear QN
      go_wp2_with fail
      (with_reducible refine (RD.out _).mono ?_)
      rintro ex w2 ⟨rfl, qx⟩
      have QN := hide (below_next Q.out Q.out.size qx)
      clear qx Q
      have Q := QN
      clear QN
      have al := (Below.refl w2.heap.size w2).alloc (Nat.le_refl _) (.cells #[.int .u32 0, .bool false, .bool false, .int .i64 0, .string ⟨#[]⟩] 24)
      have Fn := hide (World.alloc_heap_new w2 (.cells #[.int .u32 0, .bool false, .bool false, .int .i64 0, .string ⟨#[]⟩] 24))
      go_wp2_with (refine wpList_store_hid (by rfl) 24 (.tmp 5) (.tmp 30) (by rfl) w2.heap.size 0 [.int .u32 aid, .bool aext, .bool arem, .int .i64 adlc, .string adata] (by rfl) (by rfl) (by exact frThere (id := 0) Fn.out) (by kernel_rfl) (by simp [Value.oneCell']) ?_)
      intro W3 eN
      have FA := whole_heap [.int .u32 aid, .bool aext, .bool arem, .int .i64 adlc, .string adata] (xs := [_, _, _, _, _]) Fn.out rfl
      have bN := al.trans (below_setCells (g := w2.heap.size) [.int .u32 aid, .bool aext, .bool arem, .int .i64 adlc, .string adata] 0 _ (Nat.le_refl _))
      rw [← eN.out] at FA bN
      replace FA := hide FA
      have QN := hide (below_next Q.out Q.out.size bN)
      clear eN bN al Fn Q
      have Q := QN
      clear QN
      go_wp2_with fail
      (with_reducible refine (PS.out _).mono ?_)
      rintro ex w4 ⟨rfl, qx⟩
      have QN := hide (below_next Q.out Q.out.size qx)
      replace FA := hide (heap_below FA.out qx)
      clear qx Q
      have Q := QN
      clear QN
      have al := (Below.refl w4.heap.size w4).alloc (Nat.le_refl _) (.cells #[.int .u32 0, .bool false, .bool false, .int .i64 0, .string ⟨#[]⟩] 24)
      have Fn := hide (World.alloc_heap_new w4 (.cells #[.int .u32 0, .bool false, .bool false, .int .i64 0, .string ⟨#[]⟩] 24))
      go_wp2_with (refine wpList_store_hid (by rfl) 24 (.tmp 7) (.tmp 35) (by rfl) w4.heap.size 0 [.int .u32 pid, .bool pext, .bool prem, .int .i64 pdlc, .string pdata] (by rfl) (by rfl) (by exact frThere (id := 0) Fn.out) (by kernel_rfl) (by simp [Value.oneCell']) ?_)
      intro W5 eN
      have FB := whole_heap [.int .u32 pid, .bool pext, .bool prem, .int .i64 pdlc, .string pdata] (xs := [_, _, _, _, _]) Fn.out rfl
      have bN := al.trans (below_setCells (g := w4.heap.size) [.int .u32 pid, .bool pext, .bool prem, .int .i64 pdlc, .string pdata] 0 _ (Nat.le_refl _))
      rw [← eN.out] at FB bN
      replace FB := hide FB
      have QN := hide (below_next Q.out Q.out.size bN)
      replace FA := hide (heap_below FA.out bN)
      clear eN bN al Fn Q
      have Q := QN
      clear QN
      go_wp2_with fail
      (with_reducible refine (R1.out _).mono ?_)
      rintro ex wx ⟨rfl, rfl⟩
      go_wp2_with fail
      (with_reducible refine (SR.out _).mono ?_)
      rintro ex wx ⟨rfl, rfl⟩
      go_wp2_with fail
      (with_reducible refine (RR.out _).mono ?_)
      rintro ex w6 ⟨rfl, qx⟩
      have QN := hide (below_next Q.out Q.out.size qx)
      replace FA := hide (heap_below FA.out qx)
      replace FB := hide (heap_below FB.out qx)
      clear qx Q
      have Q := QN
      clear QN
      have al := (Below.refl w6.heap.size w6).alloc (Nat.le_refl _) (.cells #[.int .u32 0, .bool false, .bool false, .int .i64 0, .string ⟨#[]⟩] 24)
      have Fn := hide (World.alloc_heap_new w6 (.cells #[.int .u32 0, .bool false, .bool false, .int .i64 0, .string ⟨#[]⟩] 24))
      go_wp2_with (refine wpList_store_hid (by rfl) 24 (.tmp 12) (.tmp 80) (by rfl) w6.heap.size 0 [.int .u32 aid, .bool aext, .bool arem, .int .i64 adlc, .string adata] (by rfl) (by rfl) (by exact frThere (id := 0) Fn.out) (by kernel_rfl) (by simp [Value.oneCell']) ?_)
      intro W7 eN
      have FC := whole_heap [.int .u32 aid, .bool aext, .bool arem, .int .i64 adlc, .string adata] (xs := [_, _, _, _, _]) Fn.out rfl
      have bN := al.trans (below_setCells (g := w6.heap.size) [.int .u32 aid, .bool aext, .bool arem, .int .i64 adlc, .string adata] 0 _ (Nat.le_refl _))
      rw [← eN.out] at FC bN
      replace FC := hide FC
      have QN := hide (below_next Q.out Q.out.size bN)
      replace FA := hide (heap_below FA.out bN)
      replace FB := hide (heap_below FB.out bN)
      clear eN bN al Fn Q
      have Q := QN
      clear QN
      go_wp2_with fail
      (with_reducible refine (PR.out _).mono ?_)
      rintro ex w8 ⟨rfl, qx⟩
      have QN := hide (below_next Q.out Q.out.size qx)
      replace FA := hide (heap_below FA.out qx)
      replace FB := hide (heap_below FB.out qx)
      replace FC := hide (heap_below FC.out qx)
      clear qx Q
      have Q := QN
      clear QN
      have al := (Below.refl w8.heap.size w8).alloc (Nat.le_refl _) (.cells #[.int .u32 0, .bool false, .bool false, .int .i64 0, .string ⟨#[]⟩] 24)
      have Fn := hide (World.alloc_heap_new w8 (.cells #[.int .u32 0, .bool false, .bool false, .int .i64 0, .string ⟨#[]⟩] 24))
      go_wp2_with (refine wpList_store_hid (by rfl) 24 (.tmp 14) (.tmp 85) (by rfl) w8.heap.size 0 [.int .u32 pid, .bool pext, .bool prem, .int .i64 pdlc, .string pdata] (by rfl) (by rfl) (by exact frThere (id := 0) Fn.out) (by kernel_rfl) (by simp [Value.oneCell']) ?_)
      intro W9 eN
      have FD := whole_heap [.int .u32 pid, .bool pext, .bool prem, .int .i64 pdlc, .string pdata] (xs := [_, _, _, _, _]) Fn.out rfl
      have bN := al.trans (below_setCells (g := w8.heap.size) [.int .u32 pid, .bool pext, .bool prem, .int .i64 pdlc, .string pdata] 0 _ (Nat.le_refl _))
      rw [← eN.out] at FD bN
      replace FD := hide FD
      have QN := hide (below_next Q.out Q.out.size bN)
      replace FA := hide (heap_below FA.out bN)
      replace FB := hide (heap_below FB.out bN)
      replace FC := hide (heap_below FC.out bN)
      clear eN bN al Fn Q
      have Q := QN
      clear QN
      obtain ⟨c0, c1, c2, c3, c4⟩ := frCells FA.out
      obtain ⟨d0, d1, d2, d3, d4⟩ := frCells FB.out
      obtain ⟨g0, g1, g2, g3, g4⟩ := frCells FC.out
      obtain ⟨i0, i1, i2, i3, i4⟩ := frCells FD.out
      go_wp2_with fail
      clear c0 c1 c2 c3 c4 d0 d1 d2 d3 d4 g0 g1 g2 g3 g4 i0 i1 i2 i3 i4
      (with_reducible refine (alive04_any _).mono ?_)
      rintro ex w10 ⟨rfl, qx⟩
      have QN := hide (below_next Q.out Q.out.size qx)
      replace FA := hide (heap_below FA.out qx)
      replace FB := hide (heap_below FB.out qx)
      replace FC := hide (heap_below FC.out qx)
      replace FD := hide (heap_below FD.out qx)
      clear qx Q
      have Q := QN
      clear QN
      obtain ⟨c0, c1, c2, c3, c4⟩ := frCells FA.out
      obtain ⟨g0, g1, g2, g3, g4⟩ := frCells FC.out
      go_wp2_with fail
      go_ret
      exact ⟨rfl, Q.out⟩
    | false =>
      obtain ⟨e1, e2⟩ := RN.out rfl
      subst e1 e2
      obtain ⟨aid, aext, arem, adlc, adata⟩ := rr
      dsimp only [fr0] at *
      simp only [Int.natCast_zero] at *
      clear RY RN
      go_enter Tryd.func6, Tryd.ntmps6
      go_wp2_with fail
      (with_reducible refine (SZ.out _).mono ?_)
      rintro ex w1 ⟨rfl, qx⟩
      have QN := hide (below_next Q.out Q.out.size qx)
      clear qx Q
      have Q := QN
      clear QN
      go_wp2_with fail
      (with_reducible refine (RD.out _).mono ?_)
      rintro ex w2 ⟨rfl, qx⟩
      have QN := hide (below_next Q.out Q.out.size qx)
      clear qx Q
      have Q := QN
      clear QN
      have al := (Below.refl w2.heap.size w2).alloc (Nat.le_refl _) (.cells #[.int .u32 0, .bool false, .bool false, .int .i64 0, .string ⟨#[]⟩] 24)
      have Fn := hide (World.alloc_heap_new w2 (.cells #[.int .u32 0, .bool false, .bool false, .int .i64 0, .string ⟨#[]⟩] 24))
      go_wp2_with (refine wpList_store_hid (by rfl) 24 (.tmp 5) (.tmp 30) (by rfl) w2.heap.size 0 [.int .u32 0, .bool false, .bool false, .int .i64 0, .string ⟨#[]⟩] (by rfl) (by rfl) (by exact frThere (id := 0) Fn.out) (by kernel_rfl) (by simp [Value.oneCell']) ?_)
      intro W3 eN
      have FA := whole_heap [.int .u32 0, .bool false, .bool false, .int .i64 0, .string ⟨#[]⟩] (xs := [_, _, _, _, _]) Fn.out rfl
      have bN := al.trans (below_setCells (g := w2.heap.size) [.int .u32 0, .bool false, .bool false, .int .i64 0, .string ⟨#[]⟩] 0 _ (Nat.le_refl _))
      rw [← eN.out] at FA bN
      replace FA := hide FA
      have QN := hide (below_next Q.out Q.out.size bN)
      clear eN bN al Fn Q
      have Q := QN
      clear QN
      go_wp2_with fail
      (with_reducible refine (PS.out _).mono ?_)
      rintro ex w4 ⟨rfl, qx⟩
      have QN := hide (below_next Q.out Q.out.size qx)
      replace FA := hide (heap_below FA.out qx)
      clear qx Q
      have Q := QN
      clear QN
      have al := (Below.refl w4.heap.size w4).alloc (Nat.le_refl _) (.cells #[.int .u32 0, .bool false, .bool false, .int .i64 0, .string ⟨#[]⟩] 24)
      have Fn := hide (World.alloc_heap_new w4 (.cells #[.int .u32 0, .bool false, .bool false, .int .i64 0, .string ⟨#[]⟩] 24))
      go_wp2_with (refine wpList_store_hid (by rfl) 24 (.tmp 7) (.tmp 35) (by rfl) w4.heap.size 0 [.int .u32 pid, .bool pext, .bool prem, .int .i64 pdlc, .string pdata] (by rfl) (by rfl) (by exact frThere (id := 0) Fn.out) (by kernel_rfl) (by simp [Value.oneCell']) ?_)
      intro W5 eN
      have FB := whole_heap [.int .u32 pid, .bool pext, .bool prem, .int .i64 pdlc, .string pdata] (xs := [_, _, _, _, _]) Fn.out rfl
      have bN := al.trans (below_setCells (g := w4.heap.size) [.int .u32 pid, .bool pext, .bool prem, .int .i64 pdlc, .string pdata] 0 _ (Nat.le_refl _))
      rw [← eN.out] at FB bN
      replace FB := hide FB
      have QN := hide (below_next Q.out Q.out.size bN)
      replace FA := hide (heap_below FA.out bN)
      clear eN bN al Fn Q
      have Q := QN
      clear QN
      go_wp2_with fail
      (with_reducible refine (R1.out _).mono ?_)
      rintro ex wx ⟨rfl, rfl⟩
      go_wp2_with fail
      (with_reducible refine (SR.out _).mono ?_)
      rintro ex wx ⟨rfl, rfl⟩
      go_wp2_with fail
      (with_reducible refine (RR.out _).mono ?_)
      rintro ex w6 ⟨rfl, qx⟩
      have QN := hide (below_next Q.out Q.out.size qx)
      replace FA := hide (heap_below FA.out qx)
      replace FB := hide (heap_below FB.out qx)
      clear qx Q
      have Q := QN
      clear QN
      have al := (Below.refl w6.heap.size w6).alloc (Nat.le_refl _) (.cells #[.int .u32 0, .bool false, .bool false, .int .i64 0, .string ⟨#[]⟩] 24)
      have Fn := hide (World.alloc_heap_new w6 (.cells #[.int .u32 0, .bool false, .bool false, .int .i64 0, .string ⟨#[]⟩] 24))
      go_wp2_with (refine wpList_store_hid (by rfl) 24 (.tmp 12) (.tmp 80) (by rfl) w6.heap.size 0 [.int .u32 aid, .bool aext, .bool arem, .int .i64 adlc, .string adata] (by rfl) (by rfl) (by exact frThere (id := 0) Fn.out) (by kernel_rfl) (by simp [Value.oneCell']) ?_)
      intro W7 eN
      have FC := whole_heap [.int .u32 aid, .bool aext, .bool arem, .int .i64 adlc, .string adata] (xs := [_, _, _, _, _]) Fn.out rfl
      have bN := al.trans (below_setCells (g := w6.heap.size) [.int .u32 aid, .bool aext, .bool arem, .int .i64 adlc, .string adata] 0 _ (Nat.le_refl _))
      rw [← eN.out] at FC bN
      replace FC := hide FC
      have QN := hide (below_next Q.out Q.out.size bN)
      replace FA := hide (heap_below FA.out bN)
      replace FB := hide (heap_below FB.out bN)
      clear eN bN al Fn Q
      have Q := QN
      clear QN
      go_wp2_with fail
      (with_reducible refine (PR.out _).mono ?_)
      rintro ex w8 ⟨rfl, qx⟩
      have QN := hide (below_next Q.out Q.out.size qx)
      replace FA := hide (heap_below FA.out qx)
      replace FB := hide (heap_below FB.out qx)
      replace FC := hide (heap_below FC.out qx)
      clear qx Q
      have Q := QN
      clear QN
      have al := (Below.refl w8.heap.size w8).alloc (Nat.le_refl _) (.cells #[.int .u32 0, .bool false, .bool false, .int .i64 0, .string ⟨#[]⟩] 24)
      have Fn := hide (World.alloc_heap_new w8 (.cells #[.int .u32 0, .bool false, .bool false, .int .i64 0, .string ⟨#[]⟩] 24))
      go_wp2_with (refine wpList_store_hid (by rfl) 24 (.tmp 14) (.tmp 85) (by rfl) w8.heap.size 0 [.int .u32 pid, .bool pext, .bool prem, .int .i64 pdlc, .string pdata] (by rfl) (by rfl) (by exact frThere (id := 0) Fn.out) (by kernel_rfl) (by simp [Value.oneCell']) ?_)
      intro W9 eN
      have FD := whole_heap [.int .u32 pid, .bool pext, .bool prem, .int .i64 pdlc, .string pdata] (xs := [_, _, _, _, _]) Fn.out rfl
      have bN := al.trans (below_setCells (g := w8.heap.size) [.int .u32 pid, .bool pext, .bool prem, .int .i64 pdlc, .string pdata] 0 _ (Nat.le_refl _))
      rw [← eN.out] at FD bN
      replace FD := hide FD
      have QN := hide (below_next Q.out Q.out.size bN)
      replace FA := hide (heap_below FA.out bN)
      replace FB := hide (heap_below FB.out bN)
      replace FC := hide (heap_below FC.out bN)
      clear eN bN al Fn Q
      have Q := QN
      clear QN
      obtain ⟨c0, c1, c2, c3, c4⟩ := frCells (id := 0) FA.out
      obtain ⟨d0, d1, d2, d3, d4⟩ := frCells FB.out
      obtain ⟨g0, g1, g2, g3, g4⟩ := frCells FC.out
      obtain ⟨i0, i1, i2, i3, i4⟩ := frCells FD.out
      go_wp2_with fail
      clear c0 c1 c2 c3 c4 d0 d1 d2 d3 d4 g0 g1 g2 g3 g4 i0 i1 i2 i3 i4
      (with_reducible refine (alive04_any _).mono ?_)
      rintro ex w10 ⟨rfl, qx⟩
      have QN := hide (below_next Q.out Q.out.size qx)
      replace FA := hide (heap_below FA.out qx)
      replace FB := hide (heap_below FB.out qx)
      replace FC := hide (heap_below FC.out qx)
      replace FD := hide (heap_below FD.out qx)
      clear qx Q
      have Q := QN
      clear QN
      obtain ⟨c0, c1, c2, c3, c4⟩ := frCells (id := 0) FA.out
      go_wp2_with fail
      go_ret
      exact ⟨rfl, Q.out⟩
end Go.Proofs.YtmfgifinmeonjaaDoor
