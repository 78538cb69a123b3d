/- The walk of FrameBack. -/
import Derived.Test.YtmfgifinmeonjaaDoorRdH
namespace Go.Proofs.YtmfgifinmeonjaaDoor
open Go.ChangeShapes Go.WideShapes Go.ChangeAt Go.RowKit
open FP (Fr headF bitsF turnF parseF PR fr0 tenT stuffF sumF)

theorem tenT_bits (came : Bool) : ∀ c ∈ tenT came, c = 48 ∨ c = 49 := by cases came <;> decide
/-- The row that is parsed: a frame's bits, told to have come or not. -/
theorem came_str {f : Fr} (hr : FP.rightB f = true) (sb : ByteArray) (hsb : sb.data.toList = bitsF f) (a b : Nat) (ha : a = sb.size - 9) (hb : b = sb.size - 8) :
    (sb.extract 0 a ++ ⟨#[48]⟩ ++ sb.extract b sb.size).data.toList = stuffF (sumF (headF f)) ++ tenT true := by
  have LS : sb.data.toList.length = sb.size := Array.length_toList
  have hl := (FP.bits_len hr)
  have hs : (stuffF (sumF (headF f))).length = sb.size - 10 := by rw [← LS, hsb]; omega
  have h44 : 44 ≤ sb.size := by rw [← LS, hsb]; omega
  simp only [ByteArray.data_append, Array.toList_append, toList_extract]
  rw [hsb, FP.bits_split, List.extract_eq_take_drop, List.extract_eq_take_drop, List.drop_zero, Nat.sub_zero, ha, hb,
    List.take_append, List.drop_append, List.take_of_length_le (by omega), List.drop_of_length_le (by omega),
    show sb.size - 9 - (stuffF (sumF (headF f))).length = 1 by omega, show sb.size - 8 - (stuffF (sumF (headF f))).length = 2 by omega, show sb.size - (sb.size - 8) = 8 by omega]
  simp [FP.tenF, tenT]

set_option maxRecDepth 100000 in
set_option maxHeartbeats 8000000 in
theorem frameBack_walk (f : Fr) (bh : ByteArray) (came : Bool) (w : World) (hid : f.id < 4294967296) (hs : f.data.size ≤ maxLen) (hbs : bh.size ≤ maxLen) :
    Calls Tryd.prog 7 #[.agg (frc f).toArray, .string bh, .bool came] w fun e w' => e = .returned (.bool true) ∧ Below w.heap.size w w' := by
  have FEW := hide (fun W => few04_any f W hs)
  have BT := hide (fun W => frBits_any (cutF f) W hid)
  have HD := hide (fun W => Head_any (cutF f) W hid)
  have RG := hide (fun W => frRight_any (cutF f) W hid)
  have VN := hide (fun (h : FP.rightB (cutF f) = false) => show bitsV (cutF f) = ⟨#[]⟩ ∧ headE (cutF f) = 1 from by unfold bitsV headE; rw [h]; exact ⟨rfl, rfl⟩)
  have VY := hide (fun (h : FP.rightB (cutF f) = true) => law_bits h)
  have HV := hide (fun (h : FP.rightB (cutF f) = true) => show headV (cutF f) = ⟨(headF (cutF f)).toArray⟩ from by unfold headV; rw [h]; rfl)
  have PB := hide (fun (h : FP.rightB (cutF f) = true) c b => FP.parse_back h c b)
  have BB := hide (FP.bits_bits (cutF f))
  have HB := hide (FP.head_bits (cutF f))
  have HL := hide (fun (h : FP.rightB (cutF f) = true) => FP.head_le h)
  have RH := hide (fun (h : FP.rightB (cutF f) = true) => show FP.readV (headF (cutF f)) = cutF f ∧ FP.readE (headF (cutF f)) = 0 from by
    have := FP.read_yes (FP.read_head h)
    rw [this.1, this.2]; exact ⟨FP.raw_head h, rfl⟩)
  have SH := hide (fun (h : FP.rightB (cutF f) = true) => show FP.sizeE (headF (cutF f)) = 0 ∧ FP.sizeV (headF (cutF f)) = (headF (cutF f)).length from ⟨(FP.head_size h).2.2.1, (FP.head_size h).2.2.2.1⟩)
  have CS := hide (fun (h : FP.rightB (cutF f) = true) sb hsb a b ha hb => came_str h sb hsb a b ha hb)
  have SP := hide (show bitsF (cutF f) = stuffF (sumF (headF (cutF f))) ++ tenT false from rfl)
  unfold maxLen at hbs
  obtain ⟨m, em, hm⟩ := run_min (P := Tryd.prog) (bh.size : Int) 100
  obtain ⟨k, rfl⟩ : ∃ k : Nat, m = (k : Int) := ⟨m.toNat, by omega⟩
  have hkb : (k : Int) ≤ bh.size := by omega
  have hk : k ≤ bh.size := by omega
  have hk100 : k ≤ 100 := by omega
  have hbz : (bh.extract 0 k).size = k := by rw [ByteArray.size_extract]; omega
  have R1 := hide (fun W => refBits01_any (bh.extract 0 k) W (by unfold maxLen; omega))
  clear em
  have q0 : Below w.heap.size w (w.alloc (.cells #[.int .u32 f.id, .bool f.ext, .bool f.rem, .int .i64 f.dlc, .string f.data] 24)) := (Below.refl _ _).alloc (Nat.le_refl _) _
  have B0 := hide (World.alloc_heap_new w (.cells #[.int .u32 f.id, .bool f.ext, .bool f.rem, .int .i64 f.dlc, .string f.data] 24))
  generalize hcf : FP.rightB (cutF f) = R at *
  generalize hbv : bitsV (cutF f) = sb at *
  generalize hhv : headV (cutF f) = sh at *
  generalize hhe : headE (cutF f) = he at *
  generalize hhf : headF (cutF f) = hF at *
  generalize hbf : bitsF (cutF f) = bF at *
  clear hcf hbv hhv hhe hhf hbf
  obtain ⟨id, ext, rem, dlc, data⟩ := f
  dsimp only [cutF, frc] at *
  generalize data.extract 0 (min data.size 12) = dt at *
  generalize hbx : bh.extract 0 k = bx at *
  go_enter Tryd.func7, Tryd.ntmps7
  go_wp2_with fail
  refine wp_region_L [0, 2, 3, 4, 5, 6] [(0, fun W => W.heap[w.heap.size]? = some (.cells #[.int .u32 id, .bool ext, .bool rem, .int .i64 dlc, .string data] 24 (0, 0)))] (by kernel_rfl) ?_
  have Q0 : Hid (Below w.heap.size w (w.alloc (.cells #[.int .u32 id, .bool ext, .bool rem, .int .i64 dlc, .string data] 24)).drew) := hide q0.drew
  replace B0 : Hid ((w.alloc (.cells #[.int .u32 id, .bool ext, .bool rem, .int .i64 dlc, .string data] 24)).drew.heap[w.heap.size]? = some (.cells #[.int .u32 id, .bool ext, .bool rem, .int .i64 dlc, .string data] 24 (0, 0))) := B0
  clear q0
  generalize (w.alloc (.cells #[.int .u32 id, .bool ext, .bool rem, .int .i64 dlc, .string data] 24)).drew = w0 at *
  refine wpAnyL_load (i := 0) (v := .agg #[.int .u32 id, .bool ext, .bool rem, .int .i64 dlc, .string data]) rfl rfl (by kernel_rfl) (by kernel_rfl) (by kernel_rfl) (by kernel_rfl) (by kernel_rfl) (fun _ _ _ h => h) rfl (fun W h => exec_heap W w.heap.size 24 _ _ h Tryd.underlying24 rfl (by kernel_rfl) _ _ (.tmp 3) (by rfl) (by rfl)) (B0.out) ?_
  go_simp
  refine wpAnyL_pure (i := 2) (v := .string bh) rfl rfl (by kernel_rfl) (by kernel_rfl) (by kernel_rfl) (by kernel_rfl) (by kernel_rfl) (fun _ _ _ h => h) rfl (fun W => by go_simp) ?_
  go_simp
  refine wpAnyL_pure (i := 3) (v := .string bh) rfl rfl (by kernel_rfl) (by kernel_rfl) (by kernel_rfl) (by kernel_rfl) (by kernel_rfl) (fun _ _ _ h => h) rfl (fun W => by go_simp) ?_
  go_simp
  refine wpAnyL_pure (i := 4) (v := .int .i64 bh.size) rfl rfl (by kernel_rfl) (by kernel_rfl) (by kernel_rfl) (by kernel_rfl) (by kernel_rfl) (fun _ _ _ h => h) rfl (fun W => by go_simp) ?_
  go_simp
  refine wpAnyL_pure (i := 5) (v := .int .i64 k) rfl rfl (by kernel_rfl) (by kernel_rfl) (by kernel_rfl) (by kernel_rfl) (by kernel_rfl) (fun _ _ _ h => h) rfl (fun W => by go_simp) ?_
  go_simp
  refine wpAnyL_pure (i := 6) (v := .string bx) rfl rfl (by kernel_rfl) (by kernel_rfl) (by kernel_rfl) (by kernel_rfl) (by kernel_rfl) (fun _ _ _ h => h) rfl (fun W => by go_simp) ?_
  go_simp
  refine wpAnyL_one (i := 1) (by kernel_rfl) ?_
  refine wpOp_do rfl rfl ?_
  go_simp
  (with_reducible refine (FEW.out _).mono ?_)
  rintro e1 w1 ⟨rfl, q1⟩
  have Q1 := hide (below_next Q0.out Q0.out.size q1)
  have B1 := hide (heap_below B0.out q1)
  clear q1 Q0 B0
  go_simp
  refine ⟨keepsL_all (by kernel_rfl) (by kernel_rfl), ?_⟩
  refine wpAnyL_one (i := 7) (by kernel_rfl) ?_
  refine wpOp_do rfl rfl ?_
  refine wp_store_as 24 (.tmp 3) (.tmp 21) rfl w.heap.size 0 [.int .u32 id, .bool ext, .bool rem, .int .i64 dlc, .string dt] (by rfl) (by rfl) (by exact frThere B1.out) (by kernel_rfl) (by simp [Value.oneCell']) ?_
  intro W2 e2
  have B2 := whole_heap [.int .u32 id, .bool ext, .bool rem, .int .i64 dlc, .string dt] (xs := [_, _, _, _, _]) B1.out rfl
  have Q2 := Q1.out.trans (below_setCells (g := w.heap.size) [.int .u32 id, .bool ext, .bool rem, .int .i64 dlc, .string dt] 0 _ (Nat.le_refl _))
  rw [← e2] at B2 Q2
  replace B2 := hide B2
  replace Q2 := hide Q2
  clear e2 B1 Q1
  refine ⟨keepsL_all (by kernel_rfl) (by kernel_rfl), ?_⟩
  refine wpAnyL_one (i := 8) (by kernel_rfl) ?_
  refine wpOp_do rfl rfl ?_
  go_simp
  refine ⟨keepsL_all (by kernel_rfl) (by kernel_rfl), ?_⟩
  refine wpAnyL_done (by kernel_rfl) ?_ _
  clear hm FEW
  obtain ⟨c0, c1, c2, c3, c4⟩ := frCells B2.out
  go_wp2_with fail
  refine (BT.out _).mono ?_
  rintro e3 w3 ⟨rfl, q3⟩
  have Q3 := hide (below_next Q2.out Q2.out.size q3)
  have B3 := hide (heap_below B2.out q3)
  clear q3 Q2 B2 c0 c1 c2 c3 c4
  cases R with
  | false =>
    obtain ⟨v1, v2⟩ := VN.out rfl
    subst v1 v2
    go_wp2_with fail
    refine (alive04_any _).mono ?_
    rintro e4 w4 ⟨rfl, q4⟩
    have Q4 := hide (below_next Q3.out Q3.out.size q4)
    have B4 := hide (heap_below B3.out q4)
    clear q4 Q3 B3
    obtain ⟨c0, c1, c2, c3, c4⟩ := frCells B4.out
    go_wp2_with fail
    refine (RG.out _).mono ?_
    rintro e5 w5 ⟨rfl, q5⟩
    have Q5 := hide (below_next Q4.out Q4.out.size q5)
    clear q5 Q4 B4 c0 c1 c2 c3 c4
    go_wp2_with fail
    go_ret
    exact ⟨rfl, Q5.out⟩
  | true =>
    obtain ⟨v1, v2, v3, v4, v5, v6⟩ := VY.out rfl
    subst v2
    have hLF := HL.out rfl
    have HVV := HV.out rfl
    have PBB := hide (PB.out rfl)
    obtain ⟨rh1, rh2⟩ := RH.out rfl
    obtain ⟨sh1, sh2⟩ := SH.out rfl
    have CSS := hide (fun a b ha hb => CS.out rfl sb v5 a b ha hb)
    have V5 := hide v5
    have shz : sh.size = hF.length := by rw [HVV, size_of]
    have shl : sh.data.toList = hF := by rw [HVV]
    have RD := hide (fun W => frRead_any sh W (by rw [shl]; exact HB.out) (by omega))
    have SZ := hide (fun W => frSize_any sh W (by rw [shl]; exact HB.out) (by omega))
    rw [shl, rh1, rh2] at RD
    rw [shl, sh1, sh2, ← shz] at SZ
    clear v1 HL HV PB RH SH CS VN VY v5 HVV rh1 rh2 sh1 sh2 shl
    dsimp only at RD
    go_wp2_with fail
    refine (R1.out _).mono ?_
    rintro e4 w4 ⟨rfl, rfl⟩
    go_upto_if 46 with fail
    go_cut [1] (fun v W => ∃ B : ByteArray, v = .string B ∧ W = w3 ∧ Hid (∀ c ∈ B.data.toList, c = 48 ∨ c = 49) ∧ B.size ≤ 100)
    case first =>
      cases hb : bitRow bx.data.toList with
      | true =>
        have hbb := (bitRow_iff.1 hb).2
        clear hb
        go_wp2_with fail
        go_meet
        exact ⟨bx, rfl, rfl, hide hbb, by omega⟩
      | false =>
        go_wp2_with fail
        go_meet
        exact ⟨⟨#[]⟩, rfl, rfl, hide (by simp), by decide⟩
    case rest =>
    obtain ⟨B, rfl, rfl, hBb, hBz⟩ := hcut
    clear R1 hbz
    go_wp2_with fail
    refine (alive04_any _).mono ?_
    rintro e5 w5 ⟨rfl, q5⟩
    have Q5 := hide (below_next Q3.out Q3.out.size q5)
    have B5 := hide (heap_below B3.out q5)
    clear q5 Q3 B3
    go_upto_if 60 with fail
    go_cut [10] (fun v W => ∃ T : ByteArray, v = .string T ∧ Hid (Below w.heap.size w W) ∧ Hid (W.heap[w.heap.size]? = some (.cells #[.int .u32 id, .bool ext, .bool rem, .int .i64 dlc, .string dt] 24 (0, 0))) ∧ Hid (T.data.toList = stuffF (sumF hF) ++ tenT came) ∧ T.size = sb.size)
    case first =>
      cases came with
      | false =>
        go_wp2_with fail
        go_meet
        exact ⟨sb, rfl, Q5, B5, hide (V5.out.trans SP.out), rfl⟩
      | true =>
        have a9 : (9 : Int) ≤ sb.size := by omega
        have a8 : (8 : Int) ≤ sb.size := by omega
        have n9 : (9 : Nat) ≤ sb.size := by omega
        have n8 : (8 : Nat) ≤ sb.size := by omega
        obtain ⟨a, ha⟩ : ∃ a : Nat, (sb.size : Int) - 9 = (a : Int) := ⟨sb.size - 9, by omega⟩
        obtain ⟨b, hb⟩ : ∃ b : Nat, (sb.size : Int) - 8 = (b : Int) := ⟨sb.size - 8, by omega⟩
        have han : a ≤ sb.size := by omega
        have hbn : b ≤ sb.size := by omega
        have han' : (a : Int) ≤ sb.size := by omega
        have hbn' : (b : Int) ≤ sb.size := by omega
        have CS2 := hide (CSS.out a b (by omega) (by omega))
        have TZ := hide (show (sb.extract 0 a ++ ⟨#[48]⟩ ++ sb.extract b sb.size).size = sb.size by
          rw [ByteArray.size_append, ByteArray.size_append, ByteArray.size_extract, ByteArray.size_extract]
          have : (⟨#[48]⟩ : ByteArray).size = 1 := rfl
          omega)
        clear CSS
        go_wp2_with fail
        refine wp_region_tame (by kernel_rfl) (by kernel_rfl) ?_
        repeat (go_big_quiet_step (fail))
        refine wpQuiet_nil ?_
        rintro _ ⟨sw, rfl⟩
        have Q6 := hide (below_next Q5.out Q5.out.size sw.h)
        have B6 := hide (heap_below B5.out sw.h)
        go_wp2_with fail
        go_meet
        exact ⟨_, rfl, Q6, B6, CS2, TZ.out⟩
    case rest =>
    clear Q5 B5 CSS
    obtain ⟨T, rfl, Q6, B6, hT, hTz⟩ := hcut
    have TT := hide (show (T ++ B).data.toList = stuffF (sumF hF) ++ (tenT came ++ B.data.toList) by
      rw [ByteArray.data_append, Array.toList_append, hT.out, List.append_assoc])
    have PS := hide (fun W => frParse_any (T ++ B) W (by
      rw [TT.out, ← List.append_assoc, ← hT.out]
      intro c hc
      rw [List.mem_append] at hc
      rcases hc with hc | hc
      · have h2 : c ∈ stuffF (sumF hF) ++ tenT came := by rw [← hT.out]; exact hc
        rw [List.mem_append] at h2
        rcases h2 with h2 | h2
        · exact BB.out c (by rw [SP.out, List.mem_append]; exact .inl h2)
        · exact tenT_bits came c h2
      · exact hBb.out c hc) (by rw [ByteArray.size_append]; omega))
    rw [TT.out, PBB.out came B.data.toList, v6] at PS
    dsimp only at PS
    have hAZ : T.size + B.size ≤ 1000 := by omega
    clear TT PBB hT hTz hBb hBz BB SP V5
    generalize hab : T ++ B = ab at *
    simp only [Int.natCast_zero] at PS RD SZ
    go_wp2_with fail
    (with_reducible refine (PS.out _).mono ?_)
    rintro e7 w7 ⟨rfl, q7⟩
    have Q5 := hide (below_next Q6.out Q6.out.size q7)
    have B5 := hide (heap_below B6.out q7)
    clear q7 Q6 B6
    have al := (Below.refl w7.heap.size w7).alloc (Nat.le_refl _) (.cells #[.int .u32 0, .bool false, .bool false, .int .i64 0, .string ⟨#[]⟩] 24)
    have F5 := hide (World.alloc_heap_new w7 (.cells #[.int .u32 0, .bool false, .bool false, .int .i64 0, .string ⟨#[]⟩] 24))
    go_wp2_with (refine wpList_store_hid (by rfl) 24 (.tmp 11) (.tmp 76) (by rfl) w7.heap.size 0 [.int .u32 id, .bool ext, .bool rem, .int .i64 dlc, .string dt] (by rfl) (by rfl) (by exact frThere (id := 0) F5.out) (by kernel_rfl) (by simp [Value.oneCell']) ?_)
    intro W8 e6
    have FA := whole_heap [.int .u32 id, .bool ext, .bool rem, .int .i64 dlc, .string dt] (xs := [_, _, _, _, _]) F5.out rfl
    have b6 := al.trans (below_setCells (g := w7.heap.size) [.int .u32 id, .bool ext, .bool rem, .int .i64 dlc, .string dt] 0 _ (Nat.le_refl _))
    rw [← e6.out] at FA b6
    replace FA := hide FA
    have B6 := hide (heap_below B5.out b6)
    have Q6 := hide (below_next Q5.out Q5.out.size b6)
    clear e6 b6 al F5 Q5 B5
    obtain ⟨c0, c1, c2, c3, c4⟩ := frCells B6.out
    go_wp2_with fail
    (with_reducible refine (HD.out _).mono ?_)
    rintro e9 w9 ⟨rfl, q9⟩
    have Q9 := hide (below_next Q6.out Q6.out.size q9)
    have B9 := hide (heap_below B6.out q9)
    have FA9 := hide (heap_below FA.out q9)
    clear q9 Q6 B6 FA c0 c1 c2 c3 c4
    go_wp2_with fail
    (with_reducible refine (RD.out _).mono ?_)
    rintro e10 w10 ⟨rfl, q10⟩
    have Q5 := hide (below_next Q9.out Q9.out.size q10)
    have B5 := hide (heap_below B9.out q10)
    have FA5 := hide (heap_below FA9.out q10)
    clear q10 Q9 B9 FA9
    have al := (Below.refl w10.heap.size w10).alloc (Nat.le_refl _) (.cells #[.int .u32 0, .bool false, .bool false, .int .i64 0, .string ⟨#[]⟩] 24)
    have F5 := hide (World.alloc_heap_new w10 (.cells #[.int .u32 0, .bool false, .bool false, .int .i64 0, .string ⟨#[]⟩] 24))
    go_wp2_with (refine wpList_store_hid (by rfl) 24 (.tmp 16) (.tmp 87) (by rfl) w10.heap.size 0 [.int .u32 id, .bool ext, .bool rem, .int .i64 dlc, .string dt] (by rfl) (by rfl) (by exact frThere (id := 0) F5.out) (by kernel_rfl) (by simp [Value.oneCell']) ?_)
    intro W11 e6
    have FB := whole_heap [.int .u32 id, .bool ext, .bool rem, .int .i64 dlc, .string dt] (xs := [_, _, _, _, _]) F5.out rfl
    have b6 := al.trans (below_setCells (g := w10.heap.size) [.int .u32 id, .bool ext, .bool rem, .int .i64 dlc, .string dt] 0 _ (Nat.le_refl _))
    rw [← e6.out] at FB b6
    replace FB := hide FB
    have B6 := hide (heap_below B5.out b6)
    have Q6 := hide (below_next Q5.out Q5.out.size b6)
    have FA6 := hide (heap_below FA5.out b6)
    clear e6 b6 al F5 Q5 B5
    clear FA5
    go_wp2_with fail
    (with_reducible refine (SZ.out _).mono ?_)
    rintro e12 w12 ⟨rfl, q12⟩
    have Q12 := hide (below_next Q6.out Q6.out.size q12)
    obtain ⟨c0, c1, c2, c3, c4⟩ := frCells (heap_below B6.out q12)
    obtain ⟨d0, d1, d2, d3, d4⟩ := frCells (heap_below FA6.out q12)
    obtain ⟨g0, g1, g2, g3, g4⟩ := frCells (heap_below FB.out q12)
    clear q12 Q6 B6 FA6 FB
    go_wp2_with fail
    go_ret
    exact ⟨rfl, Q12.out⟩
end Go.Proofs.YtmfgifinmeonjaaDoor
