import Derived.Test.YtkmddjbialpppaaGreatDoorMgFbR
namespace Go.Proofs.YtkmddjbialpppaaGreatDoor
open Go.ChangeShapes Go.WideShapes Go.ChangeAt Go.RowKit
open FP (bit aY numOf Fr cC cE cT iG dlN rawF gJ jH fD jF idF fr0 eB iP)
theorem numOf_ext (l : List UInt8) (a b k : Nat) (h : b ≤ a + k) : numOf (l.extract a b) < 2 ^ k := by
  have h1 := FP.numOf_lt (l.extract a b)
  have h2 : (l.extract a b).length ≤ k := by rw [List.extract_eq_take_drop, List.length_take]; omega
  have h3 := Nat.pow_le_pow_right (n := 2) (by omega) h2
  omega
theorem or18 (a b : Nat) (ha : a < 2048) (hb : b < 262144) : bits .or .u32 ((a : Int) * 262144) (b : Int) = ((a * 262144 + b : Nat) : Int) := by
  have e : ((a : Int) * 262144) = ((a * 262144 : Nat) : Int) := by omega
  rw [e, u32_or_nat _ _ (by omega) (by omega), nat_join 18 (a * 262144) b (by omega) (by omega)]
set_option maxRecDepth 100000 in
set_option maxHeartbeats 8000000 in
theorem frRead_sized (s : ByteArray) (w : World) (hb : ∀ c ∈ s.data.toList, c = 48 ∨ c = 49) (hs : s.size ≤ 4000) (hz : jH s.data.toList = true) :
    Calls Tryz.prog 176 #[.string s] w fun e w' => e = .returned (.tuple #[.agg #[.int .u32 (eB s.data.toList).id, .bool (eB s.data.toList).ext, .bool (eB s.data.toList).rem, .int .i64 (eB s.data.toList).dlc, .string (eB s.data.toList).data], .int .i64 (iP s.data.toList : Nat)]) ∧ Below w.heap.size w w' := by
  have LS := aA (show s.data.toList.length = s.size from Array.length_toList)
  have SZ := aA (fun W => iH s W hb hs)
  have hzz : cE s.data.toList = 0 ∧ cT s.data.toList = s.data.toList.length := by
    unfold jH at hz
    simpa using hz
  obtain ⟨z1, z2⟩ := hzz
  have hR : gJ s.data.toList = (FP.rightB (rawF s.data.toList) && decide (cC (rawF s.data.toList) = s.data.toList)) := by unfold gJ; rw [hz]; rfl
  have HR := aA hR
  have RY := aA (fun h => FP.read_yes (l := s.data.toList) h)
  have RN := aA (fun h => FP.read_not (l := s.data.toList) h)
  generalize eB s.data.toList = rv at *
  generalize iP s.data.toList = re at *
  have hfx := FP.fxN_or s.data.toList
  have hge := FP.sizeV_ge z1
  have hbd := FP.sizeV_bd s.data.toList
  rw [z2, LS.out] at hge hbd
  rw [z1, z2, LS.out] at SZ
  obtain ⟨d, hd⟩ : ∃ d, s.size = iG s.data.toList + 8 * d := ⟨(s.size - iG s.data.toList) / 8, by omega⟩
  have hdd : (s.data.toList.length - iG s.data.toList) / 8 = d := by rw [LS.out]; omega
  have RAW := aA (show rawF s.data.toList = ⟨idF s.data.toList, decide (iG s.data.toList = 39), decide (s.data.toList[iG s.data.toList - 7]? = some 49), (dlN s.data.toList : Int), ⟨(fD s.data.toList (iG s.data.toList) d).toArray⟩⟩ by unfold rawF; rw [hdd])
  have ID := aA (show idF s.data.toList = if iG s.data.toList = 39 then numOf (s.data.toList.extract 1 12) * 262144 + numOf (s.data.toList.extract 14 32) else numOf (s.data.toList.extract 1 12) from rfl)
  have DL := aA (show dlN s.data.toList = numOf (s.data.toList.extract (iG s.data.toList - 4) (iG s.data.toList)) from rfl)
  have EX := aA (show decide (iG s.data.toList = 39) = decide (s.data.toList[13]? = some 49) by unfold iG; by_cases h : s.data.toList[13]? = some 49 <;> simp [h])
  have BT := aA (fun j (hj : j < s.size) => show s[j] = 48 ∨ s[j] = 49 from hb _ (List.getElem_mem (l := s.data.toList) (by rw [LS.out]; exact hj)))
  have GS := aA (fun j (h : j < s.size) => get_some s j h)
  have NB := aA (fun b frm tt N M W hN hT hft hto h60 h => rdNum_any s b frm tt N M W hb hN hT hft hto h60 hs h)
  have NL := aA (fun a b k h => numOf_ext s.data.toList a b k h)
  clear hdd hR z1 z2 hz
  obtain ⟨A, hA⟩ : ∃ A, iG s.data.toList = A + 7 := ⟨iG s.data.toList - 7, by omega⟩
  rw [hA] at hfx hge hd RAW ID DL EX
  have hA3 : A + 7 - 4 = A + 3 := by omega
  have hA7 : A + 7 - 7 = A := by omega
  rw [hA7] at RAW
  rw [hA3] at DL
  clear hA hA3 hA7
  have h13 : 13 < s.size := by omega
  have hAs : A < s.size := by omega
  have h13' : (13 : Int) < s.size := by omega
  have hAs' : (A : Int) < s.size := by omega
  have b13 := bit_eq (BT.out 13 h13)
  rw [← GS.out 13 h13, ← EX.out] at b13
  have bA := bit_eq (BT.out A hAs)
  rw [← GS.out A hAs] at bA
  have N1 := aA (fun b W h => NB.out b 1 12 1 11 W rfl rfl (by omega) (by omega) (by omega) h)
  have N2 := aA (fun (h32 : 32 ≤ s.size) b W h => NB.out b 14 32 14 18 W rfl rfl (by omega) h32 (by omega) h)
  have N3 := aA (fun b W h => NB.out b (A + 3) (A + 7) ((A : Int) + 3) 4 W (by omega) (by omega) (by omega) (by omega) (by omega) h)
  have N8 := aA (fun j (hj : j < d) b W h => NB.out b (A + 7 + 8 * j) (A + 7 + 8 * j + 8) ((A : Int) + 7 + 8 * j) 8 W (by omega) (by omega) (by omega) (by omega) (by omega) h)
  have V8 := aA (fun j => show ((numOf (s.data.toList.extract (A + 7 + 8 * j) (A + 7 + 8 * j + 8)) : Int)) % 256 = ((jF s.data.toList (A + 7) j).toNat : Int) from by
    have h := NL.out (A + 7 + 8 * j) (A + 7 + 8 * j + 8) 8 (by omega)
    unfold jF
    generalize numOf (s.data.toList.extract (A + 7 + 8 * j) (A + 7 + 8 * j + 8)) = v at *
    have : (UInt8.ofNat v).toNat = v := by simp; omega
    omega)
  have SU := aA (fun j => FP.bytesF_succ s.data.toList (A + 7) j)
  have n1 := NL.out 1 12 11 (by omega)
  have n2 := NL.out 14 32 18 (by omega)
  have n3 := NL.out (A + 3) (A + 7) 4 (by omega)
  rw [← DL.out] at N3 n3
  clear NB NL BT GS EX
  generalize dlN s.data.toList = dl at *
  generalize numOf (s.data.toList.extract 1 12) = na at *
  generalize numOf (s.data.toList.extract 14 32) = nb at *
  generalize hrem : decide (s.data.toList[A]? = some 49) = rem at *
  generalize hext : decide (A + 7 = 39) = ext at *
  have HX := aA hext
  clear hrem hext hb
  have HD := aA hd
  have hge1 := hge.1
  clear hd hge
  have w1 : IntKind.u32.wrap (na : Int) = na := by simp [IntKind.wrap, IntKind.bits, IntKind.signed]; omega
  have w1' : (na : Int) % 4294967296 = na := by omega
  have w2 : IntKind.u32.wrap (nb : Int) = nb := by simp [IntKind.wrap, IntKind.bits, IntKind.signed]; omega
  have w2' : (nb : Int) % 4294967296 = nb := by omega
  have q0 : Below w.heap.size w ((w.alloc (.cells #[.string s] 9)).alloc (.cells #[.int .u32 0, .bool false, .bool false, .int .i64 0, .string ⟨#[]⟩] 35)) := ((Below.refl _ _).alloc (Nat.le_refl _) _).alloc (by simp) _
  have B0 := aA (show ((w.alloc (.cells #[.string s] 9)).alloc (.cells #[.int .u32 0, .bool false, .bool false, .int .i64 0, .string ⟨#[]⟩] 35)).heap[w.heap.size + 1]? = some (.cells #[.int .u32 0, .bool false, .bool false, .int .i64 0, .string ⟨#[]⟩] 35 (0, 0)) from (gT _ _ _).2)
  have B1 := aA (show ((w.alloc (.cells #[.string s] 9)).alloc (.cells #[.int .u32 0, .bool false, .bool false, .int .i64 0, .string ⟨#[]⟩] 35)).heap[w.heap.size]? = some (.cells #[.string s] 9 (0, 0)) from (gT _ _ _).1)
  go_enter Tryz.func176, Tryz.ntmps176
  go_wp2_with fail
  refine (SZ.out _).mono ?_
  rintro e1 w3 ⟨rfl, q1⟩
  have Q1 := aA (aC q0 q0.size q1)
  have Z1 := aA (aB B0.out q1)
  have S1 := aA (aB B1.out q1)
  clear q0 q1 B0 B1 SZ
  have c0 : w3.cell? ⟨w.heap.size, 0, none⟩ = some (.string s) := by simp [World.cell?, S1.out]
  go_upto_region 5 with fail
  clear c0
  go_cut [7] (fun v W => ∃ g, v = .pointer (some ⟨g, 0, none⟩) ∧ Hid (RdM w g s ⟨na, ext, false, 0, ⟨#[]⟩⟩ W))
  case first =>
    go_wp2_with fail
    refine bB [0, 3, 4, 5, 2, 6] [(3, fun W => W.heap[w.heap.size]? = some (.cells #[.string s] 9 (0, 0)))] (by kernel_rfl) ?_
    replace S1 : Hid (w3.drew.heap[w.heap.size]? = some (.cells #[.string s] 9 (0, 0))) := S1
    replace Z1 : Hid (w3.drew.heap[w.heap.size + 1]? = some (.cells #[.int .u32 0, .bool false, .bool false, .int .i64 0, .string ⟨#[]⟩] 35 (0, 0))) := Z1
    replace Q1 : Hid (Below w.heap.size w w3.drew) := aA Q1.out.drew
    generalize w3.drew = w4 at *
    refine aD (i := 0) (v := .func (.func 215) #[] #[.pointer (some ⟨w.heap.size, 0, none⟩)]) rfl rfl (by kernel_rfl) (by kernel_rfl) (by kernel_rfl) (by kernel_rfl) (by kernel_rfl) (fun _ _ _ h => h) rfl (fun W => by go_simp) ?_
    go_simp
    refine aQ (i := 3) (v := .string s) rfl rfl (by kernel_rfl) (by kernel_rfl) (by kernel_rfl) (by kernel_rfl) (by kernel_rfl) (fun _ _ _ h => h) rfl (fun W h => by (have hc0 : W.cell? ⟨w.heap.size, 0, none⟩ = some (.string s) := by simp [World.cell?, h]); clear h; go_simp) (S1.out) ?_
    go_simp
    refine aD (i := 4) (v := .int .u8 s[13].toNat) rfl rfl (by kernel_rfl) (by kernel_rfl) (by kernel_rfl) (by kernel_rfl) (by kernel_rfl) (fun _ _ _ h => h) rfl (fun W => by go_simp) ?_
    go_simp
    refine aD (i := 5) (v := .bool ext) rfl rfl (by kernel_rfl) (by kernel_rfl) (by kernel_rfl) (by kernel_rfl) (by kernel_rfl) (fun _ _ _ h => h) rfl (fun W => by go_simp) ?_
    go_simp
    refine cB (i := 1) (k := 7) (by kernel_rfl) ?_ ?_
    · refine aM rfl rfl ?_
      go_simp
      (with_reducible refine (N1.out _ _ S1.out).mono ?_)
      rintro e5 w5 ⟨rfl, q5⟩
      have S5 := aA (aB S1.out q5)
      have Z5 := aA (aB Z1.out q5)
      have Q5 := aA (aC Q1.out Q1.out.size q5)
      clear q5 S1 Z1 Q1
      go_simp
      refine ⟨aO (by kernel_rfl) (.cons S5.out .nil), ?_⟩
      refine aD (i := 2) (v := .int .u32 na) rfl rfl (by kernel_rfl) (by kernel_rfl) (by kernel_rfl) (by kernel_rfl) (by kernel_rfl) (fun _ _ _ h => h) rfl (fun W => by go_simp) ?_
      go_simp
      refine aD (i := 6) (v := .agg #[.int .u32 na, .bool ext, .bool false, .int .i64 0, .string ⟨#[]⟩]) rfl rfl (by kernel_rfl) (by kernel_rfl) (by kernel_rfl) (by kernel_rfl) (by kernel_rfl) (fun _ _ _ h => h) rfl (fun W => by go_simp) ?_
      go_simp
      refine aI (i := 7) (by kernel_rfl) ?_
      refine aM rfl rfl ?_
      go_simp
      have al := (Below.refl w5.heap.size w5).alloc (Nat.le_refl _) (.cells #[.int .u32 0, .bool false, .bool false, .int .i64 0, .string ⟨#[]⟩] 35)
      have S6 := aA (aB S5.out al)
      have Z6 := aA (aB Z5.out al)
      have Q6 := aA (aC Q5.out Q5.out.size al)
      have F6 := aA (World.alloc_heap_new w5 (.cells #[.int .u32 0, .bool false, .bool false, .int .i64 0, .string ⟨#[]⟩] 35))
      have zh : w.heap.size + 2 ≤ w5.heap.size := aH Z5.out
      clear al S5 Z5 Q5
      refine ⟨aO (by kernel_rfl) (.cons S6.out .nil), ?_⟩
      refine aI (i := 8) (by kernel_rfl) ?_
      refine aM rfl rfl ?_
      refine bP 35 (.tmp 7) (.tmp 31) rfl w5.heap.size 0 [.int .u32 na, .bool ext, .bool false, .int .i64 0, .string ⟨#[]⟩] (by rfl) (by rfl) (by exact kQ (id := 0) F6.out) (by kernel_rfl) (by simp [Value.oneCell']) ?_
      intro W7 e7
      have F7 := aJ [.int .u32 na, .bool ext, .bool false, .int .i64 0, .string ⟨#[]⟩] (xs := [_, _, _, _, _]) F6.out rfl
      have q7 := Q6.out.trans (aE (g := w5.heap.size) [.int .u32 na, .bool ext, .bool false, .int .i64 0, .string ⟨#[]⟩] 0 _ (by have := zh; omega))
      have S7 := aG (b := w5.heap.size) (x := w.heap.size) (by have := zh; omega) [.int .u32 na, .bool ext, .bool false, .int .i64 0, .string ⟨#[]⟩] 0 _ S6.out
      have Z7 := aG (b := w5.heap.size) (x := w.heap.size + 1) (by have := zh; omega) [.int .u32 na, .bool ext, .bool false, .int .i64 0, .string ⟨#[]⟩] 0 _ Z6.out
      rw [← e7] at F7 q7 S7 Z7
      have M7 : Hid (RdM w w5.heap.size s ⟨na, ext, false, 0, ⟨#[]⟩⟩ W7) := aA ⟨q7, S7, Z7, F7, zh⟩
      clear F7 q7 S7 Z7 e7 F6 Q6 S6 Z6
      refine ⟨aN (by kernel_rfl) (by kernel_rfl), ?_⟩
      refine aS (by kernel_rfl) ?_ _
      go_wp2_with fail
      go_meet
      exact ⟨w5.heap.size, rfl, M7⟩
    · refine aM rfl rfl ?_
      go_simp
      have al := (Below.refl w4.heap.size w4).alloc (Nat.le_refl _) (.cells #[.int .u32 0, .bool false, .bool false, .int .i64 0, .string ⟨#[]⟩] 35)
      have S5 := aA (aB S1.out al)
      have Z5 := aA (aB Z1.out al)
      have Q5 := aA (aC Q1.out Q1.out.size al)
      have F5 := aA (World.alloc_heap_new w4 (.cells #[.int .u32 0, .bool false, .bool false, .int .i64 0, .string ⟨#[]⟩] 35))
      have zh : w.heap.size + 2 ≤ w4.heap.size := aH Z1.out
      clear al S1 Z1 Q1
      refine ⟨aO (by kernel_rfl) (.cons S5.out .nil), ?_⟩
      refine aI (i := 1) (by kernel_rfl) ?_
      refine aM rfl rfl ?_
      go_simp
      (with_reducible refine (N1.out _ _ S5.out).mono ?_)
      rintro e6 w6 ⟨rfl, q6⟩
      have S6 := aA (aB S5.out q6)
      have Z6 := aA (aB Z5.out q6)
      have Q6 := aA (aC Q5.out Q5.out.size q6)
      have F6 := aA (aB F5.out q6)
      clear q6 S5 Z5 Q5 F5
      go_simp
      refine ⟨aO (by kernel_rfl) (.cons S6.out .nil), ?_⟩
      refine aD (i := 2) (v := .int .u32 na) rfl rfl (by kernel_rfl) (by kernel_rfl) (by kernel_rfl) (by kernel_rfl) (by kernel_rfl) (fun _ _ _ h => h) rfl (fun W => by go_simp) ?_
      go_simp
      refine aD (i := 6) (v := .agg #[.int .u32 na, .bool ext, .bool false, .int .i64 0, .string ⟨#[]⟩]) rfl rfl (by kernel_rfl) (by kernel_rfl) (by kernel_rfl) (by kernel_rfl) (by kernel_rfl) (fun _ _ _ h => h) rfl (fun W => by go_simp) ?_
      go_simp
      refine aI (i := 8) (by kernel_rfl) ?_
      refine aM rfl rfl ?_
      refine bP 35 (.tmp 7) (.tmp 31) rfl w4.heap.size 0 [.int .u32 na, .bool ext, .bool false, .int .i64 0, .string ⟨#[]⟩] (by rfl) (by rfl) (by exact kQ (id := 0) F6.out) (by kernel_rfl) (by simp [Value.oneCell']) ?_
      intro W7 e7
      have F7 := aJ [.int .u32 na, .bool ext, .bool false, .int .i64 0, .string ⟨#[]⟩] (xs := [_, _, _, _, _]) F6.out rfl
      have q7 := Q6.out.trans (aE (g := w4.heap.size) [.int .u32 na, .bool ext, .bool false, .int .i64 0, .string ⟨#[]⟩] 0 _ (by have := zh; omega))
      have S7 := aG (b := w4.heap.size) (x := w.heap.size) (by have := zh; omega) [.int .u32 na, .bool ext, .bool false, .int .i64 0, .string ⟨#[]⟩] 0 _ S6.out
      have Z7 := aG (b := w4.heap.size) (x := w.heap.size + 1) (by have := zh; omega) [.int .u32 na, .bool ext, .bool false, .int .i64 0, .string ⟨#[]⟩] 0 _ Z6.out
      rw [← e7] at F7 q7 S7 Z7
      have M7 : Hid (RdM w w4.heap.size s ⟨na, ext, false, 0, ⟨#[]⟩⟩ W7) := aA ⟨q7, S7, Z7, F7, zh⟩
      clear F7 q7 S7 Z7 e7 F6 Q6 S6 Z6
      refine ⟨aN (by kernel_rfl) (by kernel_rfl), ?_⟩
      refine aS (by kernel_rfl) ?_ _
      go_wp2_with fail
      go_meet
      exact ⟨w4.heap.size, rfl, M7⟩
  case rest =>
    clear S1 Z1 Q1
    obtain ⟨g, rfl, M⟩ := hcut
    obtain ⟨f0, f1, f2, f3, f4⟩ := eN M.out.fb
    go_upto_if 33 with fail
    clear f0 f1 f2 f3 f4
    go_cut [8] (fun v W => v = .int .i64 A ∧ Hid (RdM w g s ⟨idF s.data.toList, ext, false, 0, ⟨#[]⟩⟩ W))
    case first =>
      have HX2 := HX.out
      have ID2 := ID.out
      rcases ext with _ | _
      · have hA : A = 12 := by have := of_decide_eq_false HX2; omega
        rw [if_neg (by omega)] at ID2
        clear HX2 HX ID
        go_wp2_with fail
        go_meet
        exact ⟨by rw [hA]; rfl, by rw [ID2]; exact M⟩
      · have hA : A + 7 = 39 := of_decide_eq_true HX2
        have h32 : 32 ≤ s.size := by omega
        rw [if_pos hA] at ID2
        have sh : ((na : Int) * 262144) % 4294967296 = (na : Int) * 262144 := by omega
        have sh' : IntKind.u32.wrap ((na : Int) * 262144) = (na : Int) * 262144 := by simp [IntKind.wrap, IntKind.bits, IntKind.signed]; omega
        have ro := or18 na nb n1 n2
        rw [← ID2] at ro
        have N2' := aA (N2.out h32)
        have HA2 := aA (show A = 32 by omega)
        have HI := aA ID2
        clear HX2 HX ID N2 hA ID2
        generalize idF s.data.toList = idn at *
        go_wp2_with fail
        refine bB [0, 1, 2, 3, 5, 6] [(1, fun W => W.heap[g]? = some (.cells #[.int .u32 na, .bool true, .bool false, .int .i64 0, .string ⟨#[]⟩] 35 (0, 0)))] (by kernel_rfl) ?_
        replace M : Hid (RdM w g s ⟨na, true, false, 0, ⟨#[]⟩⟩ wc.drew) := aA M.out.drew
        generalize wc.drew = w5 at *
        refine aD (i := 0) (v := .pointer (some ⟨g, 0, none⟩)) rfl rfl (by kernel_rfl) (by kernel_rfl) (by kernel_rfl) (by kernel_rfl) (by kernel_rfl) (fun _ _ _ h => h) rfl (fun W => by go_simp) ?_
        go_simp
        refine aQ (i := 1) (v := .int .u32 na) rfl rfl (by kernel_rfl) (by kernel_rfl) (by kernel_rfl) (by kernel_rfl) (by kernel_rfl) (fun _ _ _ h => h) rfl (fun W h => by (have hc0 : W.cell? ⟨g, 0, none⟩ = some (.int .u32 na) := by simp [World.cell?, h]); clear h; go_simp) (M.out.fb) ?_
        go_simp
        refine aD (i := 2) (v := .int .u32 ((na : Int) * 262144)) rfl rfl (by kernel_rfl) (by kernel_rfl) (by kernel_rfl) (by kernel_rfl) (by kernel_rfl) (fun _ _ _ h => h) rfl (fun W => by go_simp) ?_
        go_simp
        refine aD (i := 3) (v := .func (.func 215) #[] #[.pointer (some ⟨w.heap.size, 0, none⟩)]) rfl rfl (by kernel_rfl) (by kernel_rfl) (by kernel_rfl) (by kernel_rfl) (by kernel_rfl) (fun _ _ _ h => h) rfl (fun W => by go_simp) ?_
        go_simp
        refine aI (i := 4) (by kernel_rfl) ?_
        refine aM rfl rfl ?_
        go_simp
        (with_reducible refine (N2'.out _ _ M.out.sb).mono ?_)
        rintro e6 w6 ⟨rfl, q6⟩
        have M6 := aA (M.out.below q6)
        clear q6 M
        go_simp
        refine ⟨aO (by kernel_rfl) (.cons M6.out.fb .nil), ?_⟩
        refine aD (i := 5) (v := .int .u32 nb) rfl rfl (by kernel_rfl) (by kernel_rfl) (by kernel_rfl) (by kernel_rfl) (by kernel_rfl) (fun _ _ _ h => h) rfl (fun W => by go_simp) ?_
        go_simp
        refine aD (i := 6) (v := .int .u32 idn) rfl rfl (by kernel_rfl) (by kernel_rfl) (by kernel_rfl) (by kernel_rfl) (by kernel_rfl) (fun _ _ _ h => h) rfl (fun W => by go_simp) ?_
        go_simp
        refine aI (i := 7) (by kernel_rfl) ?_
        refine aM rfl rfl ?_
        go_simp
        refine ⟨aN (by kernel_rfl) (by kernel_rfl), ?_⟩
        have c0 : w6.cell? ⟨g, 0, none⟩ = some (.int .u32 na) := (eN M6.out.fb).1
        have z0 : w6.frozen? ⟨g, 0, none⟩ = false := by simp [World.frozen?, M6.out.fb]
        have M7 := aA (M6.out.set 0 (.int .u32 idn) ⟨idn, true, false, 0, ⟨#[]⟩⟩ rfl)
        refine aI (i := 8) (by kernel_rfl) ?_
        refine aM rfl rfl ?_
        go_simp
        refine ⟨aN (by kernel_rfl) (by kernel_rfl), ?_⟩
        refine aS (by kernel_rfl) ?_ _
        clear M6 c0 z0
        go_wp2_with fail
        go_meet
        exact ⟨by rw [HA2.out]; rfl, M7⟩
    case rest =>
      clear M
      obtain ⟨rfl, M⟩ := hcut
      go_wp2_with fail
      refine bB [0, 1, 2, 3, 4, 5, 6, 8, 9] [(0, fun W => W.heap[w.heap.size]? = some (.cells #[.string s] 9 (0, 0)))] (by kernel_rfl) ?_
      replace M : Hid (RdM w g s ⟨idF s.data.toList, ext, false, 0, ⟨#[]⟩⟩ wc.drew) := aA M.out.drew
      generalize wc.drew = w5 at *
      clear N1 N2 w1 w1' w2 w2' b13 h13 h13'
      have hid : idF s.data.toList < 4294967296 := by rw [ID.out]; split <;> omega
      generalize hidn : idF s.data.toList = idn at *
      have hdl : IntKind.i64.wrap (dl : Int) = dl := IntWalk.i64_in _ (by omega)
      have hA3 : IntKind.i64.wrap ((A : Int) + 3) = (A : Int) + 3 := IntWalk.i64_in _ (by omega)
      refine aQ (i := 0) (v := .string s) rfl rfl (by kernel_rfl) (by kernel_rfl) (by kernel_rfl) (by kernel_rfl) (by kernel_rfl) (fun _ _ _ h => h) rfl (fun W h => by (have hc0 : W.cell? ⟨w.heap.size, 0, none⟩ = some (.string s) := by simp [World.cell?, h]); clear h; go_simp) (M.out.sb) ?_
      go_simp
      refine aD (i := 1) (v := .int .i64 A) rfl rfl (by kernel_rfl) (by kernel_rfl) (by kernel_rfl) (by kernel_rfl) (by kernel_rfl) (fun _ _ _ h => h) rfl (fun W => by go_simp) ?_
      go_simp
      refine aD (i := 2) (v := .int .u8 s[A].toNat) rfl rfl (by kernel_rfl) (by kernel_rfl) (by kernel_rfl) (by kernel_rfl) (by kernel_rfl) (fun _ _ _ h => h) rfl (fun W => by go_simp) ?_
      go_simp
      refine aD (i := 3) (v := .bool rem) rfl rfl (by kernel_rfl) (by kernel_rfl) (by kernel_rfl) (by kernel_rfl) (by kernel_rfl) (fun _ _ _ h => h) rfl (fun W => by go_simp) ?_
      go_simp
      refine aD (i := 4) (v := .func (.func 215) #[] #[.pointer (some ⟨w.heap.size, 0, none⟩)]) rfl rfl (by kernel_rfl) (by kernel_rfl) (by kernel_rfl) (by kernel_rfl) (by kernel_rfl) (fun _ _ _ h => h) rfl (fun W => by go_simp) ?_
      go_simp
      refine aD (i := 5) (v := .int .i64 A) rfl rfl (by kernel_rfl) (by kernel_rfl) (by kernel_rfl) (by kernel_rfl) (by kernel_rfl) (fun _ _ _ h => h) rfl (fun W => by go_simp) ?_
      go_simp
      refine aD (i := 6) (v := .int .i64 ((A : Int) + 3)) rfl rfl (by kernel_rfl) (by kernel_rfl) (by kernel_rfl) (by kernel_rfl) (by kernel_rfl) (fun _ _ _ h => h) rfl (fun W => by go_simp) ?_
      go_simp
      refine aD (i := 9) (v := .pointer (some ⟨g, 2, none⟩)) rfl rfl (by kernel_rfl) (by kernel_rfl) (by kernel_rfl) (by kernel_rfl) (by kernel_rfl) (fun _ _ _ h => h) rfl (fun W => by go_simp) ?_
      go_simp
      refine aI (i := 7) (by kernel_rfl) ?_
      refine aM rfl rfl ?_
      go_simp
      (with_reducible refine (N3.out _ _ M.out.sb).mono ?_)
      rintro e6 w6 ⟨rfl, q6⟩
      have M6 := aA (M.out.below q6)
      clear q6 M N3
      go_simp
      refine ⟨aO (by kernel_rfl) (.cons M6.out.sb .nil), ?_⟩
      refine aD (i := 8) (v := .int .i64 dl) rfl rfl (by kernel_rfl) (by kernel_rfl) (by kernel_rfl) (by kernel_rfl) (by kernel_rfl) (fun _ _ _ h => h) rfl (fun W => by go_simp) ?_
      go_simp
      have c2 : w6.cell? ⟨g, 2, none⟩ = some (.bool false) := (eN M6.out.fb).2.2.1
      have z2 : w6.frozen? ⟨g, 2, none⟩ = false := by simp [World.frozen?, M6.out.fb]
      have M7 := aA (M6.out.set 2 (.bool rem) ⟨idn, ext, rem, 0, ⟨#[]⟩⟩ rfl)
      refine aI (i := 10) (by kernel_rfl) ?_
      refine aM rfl rfl ?_
      go_simp
      refine ⟨aN (by kernel_rfl) (by kernel_rfl), ?_⟩
      clear c2 z2 M6
      generalize w6.setCell ⟨g, 2, none⟩ (.bool rem) = w7 at *
      refine aI (i := 11) (by kernel_rfl) ?_
      refine aM rfl rfl ?_
      go_simp
      refine ⟨aN (by kernel_rfl) (by kernel_rfl), ?_⟩
      have c3 : w7.cell? ⟨g, 3, none⟩ = some (.int .i64 0) := (eN M7.out.fb).2.2.2.1
      have z3 : w7.frozen? ⟨g, 3, none⟩ = false := by simp [World.frozen?, M7.out.fb]
      have M8 := aA (M7.out.set 3 (.int .i64 dl) ⟨idn, ext, rem, dl, ⟨#[]⟩⟩ rfl)
      refine aI (i := 12) (by kernel_rfl) ?_
      refine aM rfl rfl ?_
      go_simp
      refine ⟨aN (by kernel_rfl) (by kernel_rfl), ?_⟩
      clear c3 z3 M7
      generalize w7.setCell ⟨g, 3, none⟩ (.int .i64 dl) = w8 at *
      refine aS (by kernel_rfl) ?_ _
      clear hA3 bA hdl n1 n2 n3 DL ID
      have M := M8
      clear M8
      have hg8 := M.out.lt
      have hgw := M.out.hg
      have O0 := aA (Own.nil (w := w8) (base := w8.heap.size) (e := 5) (sz := 1))
      have c0 := M.out.scell
      go_wp2_with fail
      clear c0
      go_loopw [8, 9] (fun va vd W => ∃ (j : Nat) (B : Option Addr) (c : Nat), j ≤ d ∧ va = .int .i64 ((A : Int) + 7 + 8 * j) ∧ vd = .slice B j c ∧ Hid (Own W w8.heap.size 5 1 B c (cP (fD s.data.toList (A + 7) j))) ∧ Hid (RdM w g s ⟨idn, ext, rem, dl, ⟨#[]⟩⟩ W) ∧ w8.heap.size ≤ W.heap.size) (fun va _ _ => s.size - (intOf va).toNat)
      case atStart => exact ⟨0, none, 0, Nat.zero_le _, by congr 1, rfl, O0, M, Nat.le_refl _⟩
      case round =>
        clear O0 M
        obtain ⟨j, B, c, hj, rfl, rfl, hO, hM, hz⟩ := hrel
        have c0 := hM.out.scell
        by_cases hlt : j < d
        · have hin : decide ((A : Int) + 7 + 8 * j < s.size) = true := decide_eq_true (by have := HD.out; omega)
          have hin' : (A : Int) + 7 + 8 * j < s.size := by have := HD.out; omega
          have N := aA (N8.out j hlt)
          have V := V8.out j
          have hS := aA (SU.out j)
          have hv := aA (Nat.le_of_lt_succ (show (jF s.data.toList (A + 7) j).toNat < 255 + 1 from UInt8.toNat_lt _))
          generalize numOf (s.data.toList.extract (A + 7 + 8 * j) (A + 7 + 8 * j + 8)) = v at *
          go_wp2_with fail
          (with_reducible refine (N.out _ _ hM.out.sb).mono ?_)
          rintro e9 w9 ⟨rfl, q9⟩
          have M9 := aA (hM.out.below q9)
          have O9 := aA (Own.grown hO.out q9)
          have z9 : w8.heap.size ≤ w9.heap.size := by have := q9.size; omega
          clear q9 hM hO c0
          generalize jF s.data.toList (A + 7) j = bv at *
          have al := (Below.refl w9.heap.size w9).alloc (Nat.le_refl _) (.cells #[.int .u8 bv.toNat] 5)
          have MA := aA (M9.out.below al)
          have OA := aA (O9.out.alloc (.cells #[.int .u8 bv.toNat] 5))
          have R6 := aA (fun t => eY (cs := [.int .u8 bv.toNat]) (World.alloc_heap_new w9 (.cells #[.int .u8 bv.toNat] t)))
          have hl := FP.bytesF_len s.data.toList (A + 7) j
          generalize fD s.data.toList (A + 7) j = bl at *
          have E1 := aA (show ((cP bl).length + [([.int .u8 bv.toNat] : List Value)].length) * 1 ≤ 140737488355328 by rw [dH, hl]; simp; omega)
          have E2 := aA (show (cP bl).length + [([.int .u8 bv.toNat] : List Value)].length ≤ maxLen by rw [dH, hl]; simp [maxLen]; omega)
          have E3 := aA (show j = (cP bl).length by rw [dH, hl])
          clear al M9 O9 hl
          go_wp2_with (at_builtin; refine cU _ rfl _ _ 140 rfl slByte w8.heap.size _ _ _ (cP bl) (by rfl) (by exact OA.out) _ _ _ [[.int .u8 bv.toNat]] (by rfl) (by simpa using R6.out _) (by simp) (by simp [Value.oneCell']) (by exact E1.out) (by exact E2.out) (by simp; omega) (by exact E3.out) (by rfl) ?_)
          intro A6 c6 W6 o6 g6
          have z6 : w8.heap.size ≤ W6.heap.size := by have := g6.size; simp at this; omega
          have M6 := aA (MA.out.grown (fun k hk => by
            have hk' : (Value.slice B (cP bl).length c).ownBlock = some k := by rw [← hk]; cases B <;> rfl
            have := (World.ownsRow.lt OA.out k hk').1
            omega) g6)
          have NX : Hid (Own W6 w8.heap.size 5 1 A6 c6 (cP (fD s.data.toList (A + 7) (j + 1)))) := by
            rw [hS.out, j7]
            exact aA o6
          clear o6 g6 OA R6 E1 E2 E3 MA V hin
          have c0 := M6.out.scell
          go_wp2
          go_roundw
          case rel => exact ⟨j + 1, A6, c6, by omega, by congr 1, rfl, NX, M6, z6⟩
          case measure => simp [intOf]; omega
        · obtain rfl : j = d := by omega
          have hin : decide ((A : Int) + 7 + 8 * j < s.size) = false := decide_eq_false (by have := HD.out; omega)
          have hin' : ¬ (A : Int) + 7 + 8 * j < s.size := by have := HD.out; omega
          have hl := FP.bytesF_len s.data.toList (A + 7) j
          have RW := RAW.out
          generalize fD s.data.toList (A + 7) j = bl at *
          have hconv := jT (P := Tryz.prog) wr 140 9 5 Tryz.underlying140 Tryz.underlying5 Tryz.underlying9 hO.out j hl.symm
          obtain ⟨_, _, _, _, f4⟩ := eN hM.out.fb
          have z4 : wr.frozen? ⟨g, 4, none⟩ = false := by simp [World.frozen?, hM.out.fb]
          have M9 := aA (hM.out.set 4 (.string ⟨bl.toArray⟩) ⟨idn, ext, rem, dl, ⟨bl.toArray⟩⟩ rfl)
          clear hM hO N8 V8 SU RAW
          generalize hbs : (⟨bl.toArray⟩ : ByteArray) = bs at *
          go_upto_region 17 with fail
          clear hconv f4 z4 c0
          generalize wr.setCell ⟨g, 4, none⟩ (.string bs) = w9 at *
          have hg9 := M9.out.lt
          have hw9 : w.heap.size < w9.heap.size := aH M9.out.sb
          obtain ⟨f0, f1, f2, f3, f4⟩ := eN M9.out.fb
          have c0 := M9.out.scell
          have RG := aA (fun W => eL ⟨idn, ext, rem, dl, bs⟩ W hid)
          have HDD := aA (fun h W => head_any ⟨idn, ext, rem, dl, bs⟩ W h)
          rw [RW] at HR
          have HW := aA RW
          clear RW
          dsimp only at RG HDD
          cases hr : FP.rightB ⟨idn, ext, rem, dl, bs⟩ with
          | false =>
            rw [hr] at RG
            rw [hr, Bool.false_and] at HR
            clear hr HDD
            have m0 := fun s : InW w9 => s.cell hg9 f0
            have m1 := fun s : InW w9 => s.cell hg9 f1
            have m2 := fun s : InW w9 => s.cell hg9 f2
            have m3 := fun s : InW w9 => s.cell hg9 f3
            have m4 := fun s : InW w9 => s.cell hg9 f4
            have m5 := fun s : InW w9 => s.cell hw9 c0
            go_wp2_with fail
            refine bF (by kernel_rfl) (by kernel_rfl) ?_
            repeat (go_big_quiet_step ((go_at_call 85; exact cO (RG.out _))))
            refine wpQuiet_nil ?_
            rintro _ ⟨sw, rfl⟩
            have swh := sw.h
            clear m0 m1 m2 m3 m4 m5 f0 f1 f2 f3 f4 c0
            have RS := aA (aB M9.out.zb swh)
            have q10 := aA (aC M9.out.q M9.out.q.size swh)
            go_wp2_with (refine aF (by rfl) 35 (.tmp 2) (.tmp 80) (by rfl) (w.heap.size + 1) 0 [.int .u32 0, .bool false, .bool false, .int .i64 0, .string ⟨#[]⟩] (by rfl) (by rfl) (by exact kQ (id := 0) RS.out) (by kernel_rfl) (by simp [Value.oneCell']) ?_)
            intro W2 e2
            have C2 := aJ [.int .u32 0, .bool false, .bool false, .int .i64 0, .string ⟨#[]⟩] (xs := [_, _, _, _, _]) RS.out rfl
            have q2 := q10.out.trans (aE (g := w.heap.size + 1) [.int .u32 0, .bool false, .bool false, .int .i64 0, .string ⟨#[]⟩] 0 _ (by omega))
            rw [← e2.out] at C2 q2
            clear e2 RS q10
            obtain ⟨y0, y1, y2, y3, y4⟩ := eN (id := 0) C2
            have Q2 := aA q2
            clear C2 q2
            go_wp2
            refine bodyPost_ret (v := .tuple #[.agg #[.int .u32 0, .bool false, .bool false, .int .i64 0, .string ⟨#[]⟩], .int .i64 12]) (by simp [results, Tryz.results176, go_sem, y0, y1, y2, y3, y4]) rfl ⟨by rw [(RN.out HR.out).1, (RN.out HR.out).2]; rfl, Q2.out⟩
          | true =>
            rw [hr] at RG
            have HH := aA (HDD.out hr)
            rw [hr, Bool.true_and] at HR
            clear hr HDD
            generalize ehs : (⟨(cC ⟨idn, ext, rem, dl, bs⟩).toArray⟩ : ByteArray) = hd9 at *
            by_cases he : cC ⟨idn, ext, rem, dl, bs⟩ = s.data.toList
            · have ess : hd9 = s := by rw [← ehs, he]
              rw [decide_eq_true he] at HR
              subst ess
              clear he ehs
              have m0 := fun s : InW w9 => s.cell hg9 f0
              have m1 := fun s : InW w9 => s.cell hg9 f1
              have m2 := fun s : InW w9 => s.cell hg9 f2
              have m3 := fun s : InW w9 => s.cell hg9 f3
              have m4 := fun s : InW w9 => s.cell hg9 f4
              have m5 := fun s : InW w9 => s.cell hw9 c0
              go_wp2_with fail
              refine bF (by kernel_rfl) (by kernel_rfl) ?_
              repeat (go_big_quiet_step (first
                | (go_at_call 85; exact cO (RG.out _))
                | (go_at_call 178; exact cO (HH.out _))))
              refine wpQuiet_nil ?_
              rintro _ ⟨sw, rfl⟩
              have swh := sw.h
              clear m0 m1 m2 m3 m4 m5 f0 f1 f2 f3 f4 c0
              have RS := aA (aB M9.out.zb swh)
              have q10 := aA (aC M9.out.q M9.out.q.size swh)
              obtain ⟨f0, f1, f2, f3, f4⟩ := eN (aB M9.out.fb swh)
              go_wp2_with (refine aF (by rfl) 35 (.tmp 2) (.tmp 81) (by rfl) (w.heap.size + 1) 0 [.int .u32 idn, .bool ext, .bool rem, .int .i64 dl, .string bs] (by rfl) (by rfl) (by exact kQ (id := 0) RS.out) (by kernel_rfl) (by simp [Value.oneCell']) ?_)
              intro W2 e2
              have C2 := aJ [.int .u32 idn, .bool ext, .bool rem, .int .i64 dl, .string bs] (xs := [_, _, _, _, _]) RS.out rfl
              have q2 := q10.out.trans (aE (g := w.heap.size + 1) [.int .u32 idn, .bool ext, .bool rem, .int .i64 dl, .string bs] 0 _ (by omega))
              rw [← e2.out] at C2 q2
              clear e2 RS q10
              obtain ⟨y0, y1, y2, y3, y4⟩ := eN  C2
              have Q2 := aA q2
              clear C2 q2
              go_wp2
              refine bodyPost_ret (v := .tuple #[.agg #[.int .u32 idn, .bool ext, .bool rem, .int .i64 dl, .string bs], .int .i64 0]) (by simp [results, Tryz.results176, go_sem, y0, y1, y2, y3, y4]) rfl ⟨by rw [(RY.out HR.out).1, (RY.out HR.out).2, HW.out]; rfl, Q2.out⟩
            · have ess : hd9 ≠ s := fun e => he (by rw [← e, ← ehs])
              have n0 : hd9.toList ≠ s.toList := fun e => ess (by rw [ByteArray.ext_iff, ← Array.toList_inj]; rw [Lib.toList_data, Lib.toList_data] at e; exact e)
              have n1 : (hd9.toList == s.toList) = false := beq_eq_false_iff_ne.2 n0
              have n2 : (!hd9.toList == s.toList) = true := by rw [n1]; rfl
              rw [decide_eq_false he] at HR
              clear he ehs
              have m0 := fun s : InW w9 => s.cell hg9 f0
              have m1 := fun s : InW w9 => s.cell hg9 f1
              have m2 := fun s : InW w9 => s.cell hg9 f2
              have m3 := fun s : InW w9 => s.cell hg9 f3
              have m4 := fun s : InW w9 => s.cell hg9 f4
              have m5 := fun s : InW w9 => s.cell hw9 c0
              go_wp2_with fail
              refine bF (by kernel_rfl) (by kernel_rfl) ?_
              repeat (go_big_quiet_step (first
                | (go_at_call 85; exact cO (RG.out _))
                | (go_at_call 178; exact cO (HH.out _))))
              refine wpQuiet_nil ?_
              rintro _ ⟨sw, rfl⟩
              have swh := sw.h
              clear m0 m1 m2 m3 m4 m5 f0 f1 f2 f3 f4 c0
              have RS := aA (aB M9.out.zb swh)
              have q10 := aA (aC M9.out.q M9.out.q.size swh)
              go_wp2_with (refine aF (by rfl) 35 (.tmp 2) (.tmp 80) (by rfl) (w.heap.size + 1) 0 [.int .u32 0, .bool false, .bool false, .int .i64 0, .string ⟨#[]⟩] (by rfl) (by rfl) (by exact kQ (id := 0) RS.out) (by kernel_rfl) (by simp [Value.oneCell']) ?_)
              intro W2 e2
              have C2 := aJ [.int .u32 0, .bool false, .bool false, .int .i64 0, .string ⟨#[]⟩] (xs := [_, _, _, _, _]) RS.out rfl
              have q2 := q10.out.trans (aE (g := w.heap.size + 1) [.int .u32 0, .bool false, .bool false, .int .i64 0, .string ⟨#[]⟩] 0 _ (by omega))
              rw [← e2.out] at C2 q2
              clear e2 RS q10
              obtain ⟨y0, y1, y2, y3, y4⟩ := eN (id := 0) C2
              have Q2 := aA q2
              clear C2 q2
              go_wp2
              refine bodyPost_ret (v := .tuple #[.agg #[.int .u32 0, .bool false, .bool false, .int .i64 0, .string ⟨#[]⟩], .int .i64 12]) (by simp [results, Tryz.results176, go_sem, y0, y1, y2, y3, y4]) rfl ⟨by rw [(RN.out HR.out).1, (RN.out HR.out).2]; rfl, Q2.out⟩
end Go.Proofs.YtkmddjbialpppaaGreatDoor
