/- The walk of the reference's Read of heads. -/
import Derived.Test.YtmfgifinmeonjaaDoorReA
namespace Go.Proofs.YtmfgifinmeonjaaDoor
open Go.ChangeShapes Go.WideShapes Go.ChangeAt Go.RowKit
open FP (bit bitsOf numOf Fr headF sizeE sizeV fxN dlN rawF readB sizedB bytesF byteAt idF fr0)

/-- The reference's memory: the answer's box (zero), the frame's (block g). -/
structure RgM (w : World) (g : Nat) (f : Fr) (W : World) : Prop where
  q : Below w.heap.size w W
  zb : W.heap[w.heap.size]? = some (.cells #[.int .u32 0, .bool false, .bool false, .int .i64 0, .string ⟨#[]⟩] 24 (0, 0))
  fb : W.heap[g]? = some (.cells #[.int .u32 f.id, .bool f.ext, .bool f.rem, .int .i64 f.dlc, .string f.data] 24 (0, 0))
  hg : w.heap.size + 1 ≤ g
theorem RgM.below {w W W' : World} {g : Nat} {f : Fr} (h : RgM w g f W) (q : Below W.heap.size W W') : RgM w g f W' :=
  ⟨below_next h.q h.q.size q, heap_below h.zb q, heap_below h.fb q, h.hg⟩
theorem RgM.grown {w W W' : World} {g : Nat} {f : Fr} (h : RgM w g f W) {row : Option Nat} (hr : ∀ k, row = some k → g < k) (q : W.grownBy W' row) : RgM w g f W' := by
  have hg := h.hg
  refine ⟨h.q.grown q h.q.size (fun k hk => by have := hr k hk; omega), heap_grownB h.zb q ?_, heap_grownB h.fb q ?_, h.hg⟩
  · intro e; have := hr _ e; omega
  · intro e; have := hr _ e; omega
theorem RgM.set {w W : World} {g : Nat} {f : Fr} (h : RgM w g f W) (j : Nat) (v : Value) (f' : Fr) (hv : #[Value.int .u32 f.id, .bool f.ext, .bool f.rem, .int .i64 f.dlc, .string f.data].setIfInBounds j v = #[.int .u32 f'.id, .bool f'.ext, .bool f'.rem, .int .i64 f'.dlc, .string f'.data]) : RgM w g f' (W.setCell ⟨g, j, none⟩ v) := by
  have hg := h.hg
  refine ⟨h.q.setCell (p := ⟨g, j, none⟩) (by show w.heap.size ≤ g; omega) v, ?_, ?_, h.hg⟩
  · rw [heap_setCell_other W ⟨g, j, none⟩ _ v (by show w.heap.size ≠ g; omega)]; exact h.zb
  · rw [heap_setCell_same W g j _ 24 v h.fb, hv]
theorem RgM.drew {w W : World} {g : Nat} {f : Fr} (h : RgM w g f W) : RgM w g f W.drew := ⟨h.q.drew, h.zb, h.fb, h.hg⟩
theorem RgM.lt {w W : World} {g : Nat} {f : Fr} (h : RgM w g f W) : g < W.heap.size := heap_lt h.fb

theorem add18 (a b : Nat) (ha : a < 2048) (hb : b < 262144) : IntKind.u32.wrap ((a : Int) * 262144) = (a : Int) * 262144 ∧ IntKind.u32.wrap ((a : Int) * 262144 + b) = ((a * 262144 + b : Nat) : Int) ∧ ((a : Int) * 262144) % 4294967296 = (a : Int) * 262144 ∧ ((a : Int) * 262144 + b) % 4294967296 = ((a * 262144 + b : Nat) : Int) := by
  refine ⟨?_, ?_, ?_, ?_⟩
  · simp [IntKind.wrap, IntKind.bits, IntKind.signed]; omega
  · simp [IntKind.wrap, IntKind.bits, IntKind.signed]; omega
  · omega
  · omega

set_option maxRecDepth 100000 in
set_option maxHeartbeats 8000000 in
theorem ref04Read_sized (s : ByteArray) (w : World) (hb : ∀ c ∈ s.data.toList, c = 48 ∨ c = 49) (hs : s.size ≤ 4000) (hz : sizedB s.data.toList = true) :
    Calls Tryd.prog 33 #[.string s] w fun e w' => e = .returned (.tuple #[.agg #[.int .u32 (rawF s.data.toList).id, .bool (rawF s.data.toList).ext, .bool (rawF s.data.toList).rem, .int .i64 (rawF s.data.toList).dlc, .string (rawF s.data.toList).data], .bool (readB s.data.toList)]) ∧ Below w.heap.size w w' := by
  have LS := hide (show s.data.toList.length = s.size from Array.length_toList)
  have SZ := hide (fun W => refSize_any s W hb hs)
  have hzz : sizeE s.data.toList = 0 ∧ sizeV s.data.toList = s.data.toList.length := by
    unfold sizedB at hz
    simpa using hz
  obtain ⟨z1, z2⟩ := hzz
  have hR : readB s.data.toList = (FP.rightB (rawF s.data.toList) && decide (headF (rawF s.data.toList) = s.data.toList)) := by unfold readB; rw [hz]; rfl
  have HR := hide hR
  have hfx := FP.fxN_or s.data.toList
  have hge := FP.sizeV_ge z1
  have hbd := FP.sizeV_bd s.data.toList
  rw [z2, LS.out] at hge hbd
  rw [z1, z2, LS.out] at SZ
  obtain ⟨d, hd⟩ : ∃ d, s.size = fxN s.data.toList + 8 * d := ⟨(s.size - fxN s.data.toList) / 8, by omega⟩
  have hdd : (s.data.toList.length - fxN s.data.toList) / 8 = d := by rw [LS.out]; omega
  have RAW := hide (show rawF s.data.toList = ⟨idF s.data.toList, decide (fxN s.data.toList = 39), decide (s.data.toList[fxN s.data.toList - 7]? = some 49), (dlN s.data.toList : Int), ⟨(bytesF s.data.toList (fxN s.data.toList) d).toArray⟩⟩ by unfold rawF; rw [hdd])
  have ID := hide (show idF s.data.toList = if fxN s.data.toList = 39 then numOf (s.data.toList.extract 1 12) * 262144 + numOf (s.data.toList.extract 14 32) else numOf (s.data.toList.extract 1 12) from rfl)
  have DL := hide (show dlN s.data.toList = numOf (s.data.toList.extract (fxN s.data.toList - 4) (fxN s.data.toList)) from rfl)
  have EX := hide (show decide (fxN s.data.toList = 39) = decide (s.data.toList[13]? = some 49) by unfold fxN; by_cases h : s.data.toList[13]? = some 49 <;> simp [h])
  have BT := hide (fun j (hj : j < s.size) => show s[j] = 48 ∨ s[j] = 49 from hb _ (List.getElem_mem (l := s.data.toList) (by rw [LS.out]; exact hj)))
  have GS := hide (fun j (h : j < s.size) => get_some s j h)
  have NB := hide (fun a b (h : b ≤ s.size) (h2 : b ≤ a + 60) W => refNumber_any (s.extract a b) (by rw [ByteArray.size_extract]; omega) W)
  have NL := hide (fun a b k h => numOf_ext s.data.toList a b k h)
  clear hdd hR z1 z2 hz
  obtain ⟨A, hA⟩ : ∃ A, fxN s.data.toList = A + 7 := ⟨fxN s.data.toList - 7, by omega⟩
  rw [hA] at hfx hge hd RAW ID DL EX
  have hA3 : A + 7 - 4 = A + 3 := by omega
  have hA7 : A + 7 - 7 = A := by omega
  rw [hA7] at RAW
  rw [hA3] at DL
  clear hA hA3 hA7
  have h13 : 13 < s.size := by omega
  have hAs : A < s.size := by omega
  have h13' : (13 : Int) < s.size := by omega
  have hAs' : (A : Int) < s.size := by omega
  have b13 := bit_eq (BT.out 13 h13)
  rw [← GS.out 13 h13, ← EX.out] at b13
  have bA := bit_eq (BT.out A hAs)
  rw [← GS.out A hAs] at bA
  have N1 := hide (NB.out 1 12 (by omega) (by omega))
  have N2 := hide (fun (h32 : 32 ≤ s.size) => NB.out 14 32 h32 (by omega))
  have N3 := hide (NB.out (A + 3) (A + 7) (by omega) (by omega))
  have N8 := hide (fun j (hj : j < d) => NB.out (A + 7 + 8 * j) (A + 7 + 8 * j + 8) (by omega) (by omega))
  rw [toList_extract] at N1 N3
  have V8 := hide (fun j => show ((numOf (s.data.toList.extract (A + 7 + 8 * j) (A + 7 + 8 * j + 8)) : Int)) % 256 = ((byteAt s.data.toList (A + 7) j).toNat : Int) from by
    have h := NL.out (A + 7 + 8 * j) (A + 7 + 8 * j + 8) 8 (by omega)
    unfold byteAt
    generalize numOf (s.data.toList.extract (A + 7 + 8 * j) (A + 7 + 8 * j + 8)) = v at *
    have : (UInt8.ofNat v).toNat = v := by simp; omega
    omega)
  have SU := hide (fun j => FP.bytesF_succ s.data.toList (A + 7) j)
  have n1 := NL.out 1 12 11 (by omega)
  have n2 := NL.out 14 32 18 (by omega)
  have n3 := NL.out (A + 3) (A + 7) 4 (by omega)
  rw [← DL.out] at N3 n3
  clear NB NL BT GS EX
  generalize dlN s.data.toList = dl at *
  generalize numOf (s.data.toList.extract 1 12) = na at *
  generalize hnb : numOf (s.data.toList.extract 14 32) = nb at *
  generalize hrem : decide (s.data.toList[A]? = some 49) = rem at *
  generalize hext : decide (A + 7 = 39) = ext at *
  have HX := hide hext
  clear hrem hext hb
  have HD := hide hd
  have hge1 := hge.1
  clear hd hge
  have w1 : IntKind.u32.wrap (na : Int) = na := by simp [IntKind.wrap, IntKind.bits, IntKind.signed]; omega
  have w1' : (na : Int) % 4294967296 = na := by omega
  have w2 : IntKind.u32.wrap (nb : Int) = nb := by simp [IntKind.wrap, IntKind.bits, IntKind.signed]; omega
  have w2' : (nb : Int) % 4294967296 = nb := by omega
  have q0 : Below w.heap.size w (w.alloc (.cells #[.int .u32 0, .bool false, .bool false, .int .i64 0, .string ⟨#[]⟩] 24)) := (Below.refl _ _).alloc (Nat.le_refl _) _
  have B0 := hide (World.alloc_heap_new w (.cells #[.int .u32 0, .bool false, .bool false, .int .i64 0, .string ⟨#[]⟩] 24))
  have h12 : (12 : Int) ≤ s.size := by omega
  go_enter Tryd.func33, Tryd.ntmps33
  go_wp2_with fail
  refine (SZ.out _).mono ?_
  rintro e1 w3 ⟨rfl, rfl⟩
  go_wp2_with fail
  refine (N1.out _).mono ?_
  rintro e2 w4 ⟨rfl, rfl⟩
  generalize w.alloc (.cells #[.int .u32 0, .bool false, .bool false, .int .i64 0, .string ⟨#[]⟩] 24) = wa at *
  have al := (Below.refl wa.heap.size wa).alloc (Nat.le_refl _) (.cells #[.int .u32 0, .bool false, .bool false, .int .i64 0, .string ⟨#[]⟩] 24)
  have F5 := hide (World.alloc_heap_new wa (.cells #[.int .u32 0, .bool false, .bool false, .int .i64 0, .string ⟨#[]⟩] 24))
  have hz0 : w.heap.size + 1 ≤ wa.heap.size := heap_lt B0.out
  clear SZ
  go_wp2_with (refine wpList_store_hid (by rfl) 24 (.tmp 6) (.tmp 28) (by rfl) wa.heap.size 0 [.int .u32 na, .bool false, .bool false, .int .i64 0, .string ⟨#[]⟩] (by rfl) (by rfl) (by exact frThere (id := 0) F5.out) (by kernel_rfl) (by simp [Value.oneCell']) ?_)
  intro W6 e6
  have FA := whole_heap [.int .u32 na, .bool false, .bool false, .int .i64 0, .string ⟨#[]⟩] (xs := [_, _, _, _, _]) F5.out rfl
  have b6 := al.trans (below_setCells (g := wa.heap.size) [.int .u32 na, .bool false, .bool false, .int .i64 0, .string ⟨#[]⟩] 0 _ (Nat.le_refl _))
  rw [← e6.out] at FA b6
  have M : Hid (RgM w wa.heap.size ⟨na, false, false, 0, ⟨#[]⟩⟩ W6) := hide ⟨below_next q0 (by omega) b6, heap_below B0.out b6, FA, hz0⟩
  clear e6 b6 al F5 FA q0 B0
  obtain ⟨g, hgg⟩ : ∃ g, g = wa.heap.size := ⟨_, rfl⟩
  rw [← hgg] at M ⊢
  clear hgg hz0
  go_upto_if 31 with fail
  go_cut [7] (fun v W => v = .int .i64 ((A + 7 : Nat) : Int) ∧ Hid (RgM w g ⟨idF s.data.toList, ext, false, 0, ⟨#[]⟩⟩ W))
  case first =>
    have HX2 := HX.out
    have ID2 := ID.out
    rcases ext with _ | _
    · have hA : A = 12 := by have := of_decide_eq_false HX2; omega
      rw [if_neg (by omega)] at ID2
      clear HX2 HX ID
      go_wp2_with fail
      go_meet
      exact ⟨by rw [hA]; rfl, by rw [ID2]; exact M⟩
    · have hA : A + 7 = 39 := of_decide_eq_true HX2
      have h32 : 32 ≤ s.size := by omega
      rw [if_pos hA] at ID2
      obtain ⟨sh1, sh2, sh3, sh4⟩ := add18 na nb n1 n2
      rw [← ID2] at sh2 sh4
      have N2' := N2.out h32
      rw [toList_extract, hnb] at N2'
      have N2'' := hide N2'
      have HA2 := hide (show A = 32 by omega)
      have h32' : (32 : Int) ≤ s.size := by omega
      clear HX2 HX ID N2 hA ID2 N2'
      generalize idF s.data.toList = idn at *
      obtain ⟨_, c1, _, _, _⟩ := frCells M.out.fb
      have z1 : W6.frozen? ⟨g, 1, none⟩ = false := by simp [World.frozen?, M.out.fb]
      have M2 := hide (M.out.set 1 (.bool true) ⟨na, true, false, 0, ⟨#[]⟩⟩ rfl)
      clear M
      go_upto_region 8 with fail
      clear c1 z1
      generalize W6.setCell ⟨g, 1, none⟩ (.bool true) = w5 at *
      go_wp2_with fail
      refine wp_region_L [0, 1, 2, 3, 4, 6, 7] [(1, fun W => W.heap[g]? = some (.cells #[.int .u32 na, .bool true, .bool false, .int .i64 0, .string ⟨#[]⟩] 24 (0, 0)))] (by kernel_rfl) ?_
      replace M2 : Hid (RgM w g ⟨na, true, false, 0, ⟨#[]⟩⟩ w5.drew) := hide M2.out.drew
      generalize w5.drew = w6 at *
      refine wpAnyL_pure (i := 0) (v := .pointer (some ⟨g, 0, none⟩)) rfl rfl (by kernel_rfl) (by kernel_rfl) (by kernel_rfl) (by kernel_rfl) (by kernel_rfl) (fun _ _ _ h => h) rfl (fun W => by go_simp) ?_
      go_simp
      refine wpAnyL_load (i := 1) (v := .int .u32 na) rfl rfl (by kernel_rfl) (by kernel_rfl) (by kernel_rfl) (by kernel_rfl) (by kernel_rfl) (fun _ _ _ h => h) rfl (fun W h => by (have hc0 : W.cell? ⟨g, 0, none⟩ = some (.int .u32 na) := by simp [World.cell?, h]); clear h; go_simp) (M2.out.fb) ?_
      go_simp
      refine wpAnyL_pure (i := 2) (v := .int .u32 ((na : Int) * 262144)) rfl rfl (by kernel_rfl) (by kernel_rfl) (by kernel_rfl) (by kernel_rfl) (by kernel_rfl) (fun _ _ _ h => h) rfl (fun W => by go_simp) ?_
      go_simp
      refine wpAnyL_pure (i := 3) (v := .string s) rfl rfl (by kernel_rfl) (by kernel_rfl) (by kernel_rfl) (by kernel_rfl) (by kernel_rfl) (fun _ _ _ h => h) rfl (fun W => by go_simp) ?_
      go_simp
      refine wpAnyL_pure (i := 4) (v := .string (s.extract 14 32)) rfl rfl (by kernel_rfl) (by kernel_rfl) (by kernel_rfl) (by kernel_rfl) (by kernel_rfl) (fun _ _ _ h => h) rfl (fun W => by go_simp) ?_
      go_simp
      refine wpAnyL_one (i := 5) (by kernel_rfl) ?_
      refine wpOp_do rfl rfl ?_
      go_simp
      (with_reducible refine (N2''.out _).mono ?_)
      rintro e7 w7 ⟨rfl, rfl⟩
      go_simp
      refine ⟨keepsL_mk (by kernel_rfl) (.cons M2.out.fb .nil), ?_⟩
      refine wpAnyL_pure (i := 6) (v := .int .u32 nb) rfl rfl (by kernel_rfl) (by kernel_rfl) (by kernel_rfl) (by kernel_rfl) (by kernel_rfl) (fun _ _ _ h => h) rfl (fun W => by go_simp) ?_
      go_simp
      refine wpAnyL_pure (i := 7) (v := .int .u32 idn) rfl rfl (by kernel_rfl) (by kernel_rfl) (by kernel_rfl) (by kernel_rfl) (by kernel_rfl) (fun _ _ _ h => h) rfl (fun W => by go_simp) ?_
      go_simp
      refine wpAnyL_one (i := 8) (by kernel_rfl) ?_
      refine wpOp_do rfl rfl ?_
      go_simp
      refine ⟨keepsL_all (by kernel_rfl) (by kernel_rfl), ?_⟩
      have c0 : w6.cell? ⟨g, 0, none⟩ = some (.int .u32 na) := (frCells M2.out.fb).1
      have z0 : w6.frozen? ⟨g, 0, none⟩ = false := by simp [World.frozen?, M2.out.fb]
      have M7 := hide (M2.out.set 0 (.int .u32 idn) ⟨idn, true, false, 0, ⟨#[]⟩⟩ rfl)
      refine wpAnyL_one (i := 9) (by kernel_rfl) ?_
      refine wpOp_do rfl rfl ?_
      go_simp
      refine ⟨keepsL_all (by kernel_rfl) (by kernel_rfl), ?_⟩
      refine wpAnyL_done (by kernel_rfl) ?_ _
      clear M2 c0 z0
      go_wp2_with fail
      go_meet
      exact ⟨by rw [HA2.out]; rfl, M7⟩
  case rest =>
  clear M
  obtain ⟨rfl, M⟩ := hcut
  clear N1 N2 w1 w1' w2 w2' b13 h13 h13'
  have hid : idF s.data.toList < 4294967296 := by rw [ID.out]; split <;> omega
  generalize hidn : idF s.data.toList = idn at *
  generalize hK : A + 7 = K at *
  have hdl : IntKind.i64.wrap (dl : Int) = dl := IntWalk.i64_in _ (by omega)
  have k7 : (K : Int) - 7 = A := by omega
  obtain ⟨a3, k4⟩ : ∃ a3 : Nat, (K : Int) - 4 = a3 := ⟨K - 4, by omega⟩
  have e3 : A + 3 = a3 := by omega
  rw [e3] at N3 DL
  have k3 : (a3 : Int) ≤ K := by omega
  have k3n : a3 ≤ K := by omega
  have ks : (K : Int) ≤ s.size := by omega
  have ksn : K ≤ s.size := by omega
  clear e3
  have HKA := hide hK
  clear hK
  obtain ⟨_, _, c2, _, _⟩ := frCells M.out.fb
  have z2 : wc.frozen? ⟨g, 2, none⟩ = false := by simp [World.frozen?, M.out.fb]
  have M7 := hide (M.out.set 2 (.bool rem) ⟨idn, ext, rem, 0, ⟨#[]⟩⟩ rfl)
  clear M
  go_upto_region 11 with fail
  clear c2 z2
  generalize wc.setCell ⟨g, 2, none⟩ (.bool rem) = w7 at *
  go_wp2_with fail
  (with_reducible refine (N3.out _).mono ?_)
  rintro e8 w8 ⟨rfl, rfl⟩
  obtain ⟨_, _, _, c3, _⟩ := frCells M7.out.fb
  have z3 : w7.frozen? ⟨g, 3, none⟩ = false := by simp [World.frozen?, M7.out.fb]
  have M8 := hide (M7.out.set 3 (.int .i64 dl) ⟨idn, ext, rem, dl, ⟨#[]⟩⟩ rfl)
  clear M7
  go_upto_region 12 with fail
  clear c3 z3
  generalize w7.setCell ⟨g, 3, none⟩ (.int .i64 dl) = w8 at *
  clear bA hdl n1 n2 n3 DL ID k7 k4 k3 k3n N3
  have hg8 := M8.out.lt
  have hgw := M8.out.hg
  have O0 := hide (Own.lit w8 w8.heap.size 5 1 [] (Nat.le_refl _) (by simp) (by simp))
  have MA := hide (M8.out.below ((Below.refl _ _).alloc (Nat.le_refl _) (.cells #[] 5)))
  clear M8
  go_wp2_with fail
  go_loopw [8, 9] (fun vd va W => ∃ (j a : Nat) (B : Option Addr) (c : Nat), j ≤ d ∧ va = .int .i64 a ∧ vd = .slice B j c ∧ Hid (a = K + 8 * j) ∧ Hid (Own W w8.heap.size 5 1 B c (byRow (bytesF s.data.toList K j))) ∧ Hid (RgM w g ⟨idn, ext, rem, dl, ⟨#[]⟩⟩ W) ∧ w8.heap.size ≤ W.heap.size) (fun _ va _ => s.size - (intOf va).toNat)
  case atStart => exact ⟨0, K, _, 0, Nat.zero_le _, rfl, rfl, rfl, O0, MA, by simp⟩
  case round =>
    clear O0 MA
    obtain ⟨j, a, B, c, hj, rfl, rfl, ha, hO, hM, hz⟩ := hrel
    by_cases hlt : j < d
    · have hin : (a : Int) < s.size := by have := HD.out; have := ha.out; omega
      obtain ⟨b, hb⟩ : ∃ b : Nat, (a : Int) + 8 = b := ⟨a + 8, by omega⟩
      have hbs : (b : Int) ≤ s.size := by have := HD.out; have := ha.out; omega
      have hbn : b ≤ s.size := by omega
      have hjb : j ≤ 103 := by have := ha.out; omega
      have hab : (a : Int) ≤ b := by omega
      have hab' : a ≤ b := by omega
      have hb8 : b = a + 8 := by omega
      have N := N8.out j hlt
      have V := V8.out j
      rw [← ha.out, ← hb8] at N V
      rw [toList_extract] at N
      replace N := hide N
      have hS := hide (SU.out j)
      have HA1 := hide (show b = K + 8 * (j + 1) by have := ha.out; omega)
      clear hb8
      generalize numOf (s.data.toList.extract a b) = v at *
      go_wp2_with fail
      (with_reducible refine (N.out _).mono ?_)
      rintro e9 w9 ⟨rfl, rfl⟩
      generalize byteAt s.data.toList K j = bv at *
      have al := (Below.refl wr.heap.size wr).alloc (Nat.le_refl _) (.cells #[.int .u8 bv.toNat] 5)
      have MA := hide (hM.out.below al)
      have OA := hide (hO.out.alloc (.cells #[.int .u8 bv.toNat] 5))
      have R6 := hide (fun t => rd_row (cs := [.int .u8 bv.toNat]) (World.alloc_heap_new wr (.cells #[.int .u8 bv.toNat] t)))
      have hl := FP.bytesF_len s.data.toList K j
      generalize bytesF s.data.toList K j = bl at *
      have E1 := hide (show ((byRow bl).length + [([.int .u8 bv.toNat] : List Value)].length) * 1 ≤ 140737488355328 by rw [byRow_len, hl]; simp; omega)
      have E2 := hide (show (byRow bl).length + [([.int .u8 bv.toNat] : List Value)].length ≤ maxLen by rw [byRow_len, hl]; simp [maxLen]; omega)
      have E3 := hide (show j = (byRow bl).length by rw [byRow_len, hl])
      clear al hM hO hl
      go_wp2_with (at_builtin; refine wpList_append_rows _ rfl _ _ 68 rfl slByte w8.heap.size _ _ _ (byRow bl) (by rfl) (by exact OA.out) _ _ _ [[.int .u8 bv.toNat]] (by rfl) (by simpa using R6.out _) (by simp) (by simp [Value.oneCell']) (by exact E1.out) (by exact E2.out) (by simp; omega) (by exact E3.out) (by rfl) ?_)
      intro A6 c6 W6 o6 g6
      have z6 : w8.heap.size ≤ W6.heap.size := by have := g6.size; simp at this; omega
      have M6 := hide (MA.out.grown (fun k hk => by
        have hk' : (Value.slice B (byRow bl).length c).ownBlock = some k := by rw [← hk]; cases B <;> rfl
        have := (World.ownsRow.lt OA.out k hk').1
        omega) g6)
      have NX : Hid (Own W6 w8.heap.size 5 1 A6 c6 (byRow (bytesF s.data.toList K (j + 1)))) := by
        rw [hS.out, byRow_snoc]
        exact hide o6
      clear o6 g6 OA R6 E1 E2 E3 MA V
      go_wp2
      go_roundw
      case rel => exact ⟨j + 1, b, A6, c6, by omega, rfl, rfl, HA1, NX, M6, z6⟩
      case measure => simp [intOf]; omega
    · obtain rfl : j = d := by omega
      have hin : ¬ (a : Int) < s.size := by have := HD.out; have := ha.out; omega
      have hl := FP.bytesF_len s.data.toList K j
      have RW := RAW.out
      generalize bytesF s.data.toList K j = bl at *
      have hconv := run_bytes_own (P := Tryd.prog) wr 68 9 5 Tryd.underlying68 Tryd.underlying5 Tryd.underlying9 hO.out j hl.symm
      obtain ⟨_, _, _, _, f4⟩ := frCells hM.out.fb
      have z4 : wr.frozen? ⟨g, 4, none⟩ = false := by simp [World.frozen?, hM.out.fb]
      have M9 := hide (hM.out.set 4 (.string ⟨bl.toArray⟩) ⟨idn, ext, rem, dl, ⟨bl.toArray⟩⟩ rfl)
      clear hM hO N8 V8 SU RAW
      generalize hbs : (⟨bl.toArray⟩ : ByteArray) = bs at *
      go_upto_region 18 with fail
      clear hconv f4 z4
      generalize wr.setCell ⟨g, 4, none⟩ (.string bs) = w9 at *
      have RG := hide (fun W => refRight04_any ⟨idn, ext, rem, dl, bs⟩ W hid)
      have HDD := hide (fun h W => refHead_any ⟨idn, ext, rem, dl, bs⟩ W h)
      rw [RW] at HR
      have HW := hide RW
      clear RW
      dsimp only at RG HDD
      replace M9 : Hid (RgM w g ⟨idn, ext, rem, dl, bs⟩ w9.drew) := hide M9.out.drew
      cases hr : FP.rightB ⟨idn, ext, rem, dl, bs⟩ with
      | false =>
        rw [hr] at RG
        rw [hr, Bool.false_and] at HR
        clear hr HDD
        refine wp_region_L [0, 1, 3, 4, 5, 6, 7, 8] [(0, fun W => W.heap[g]? = some (.cells #[.int .u32 idn, .bool ext, .bool rem, .int .i64 dl, .string bs] 24 (0, 0))), (1, fun W => W.heap[g]? = some (.cells #[.int .u32 idn, .bool ext, .bool rem, .int .i64 dl, .string bs] 24 (0, 0)))] (by kernel_rfl) ?_
        generalize w9.drew = wA at *
        refine wpAnyL_load (i := 0) (v := .agg #[.int .u32 idn, .bool ext, .bool rem, .int .i64 dl, .string bs]) rfl rfl (by kernel_rfl) (by kernel_rfl) (by kernel_rfl) (by kernel_rfl) (by kernel_rfl) (fun _ _ _ h => h) rfl (fun W h => exec_heap W g 24 _ _ h Tryd.underlying24 rfl (by kernel_rfl) _ _ (.tmp 6) (by rfl) (by rfl)) (M9.out.fb) ?_
        refine wpAnyL_load (i := 1) (v := .agg #[.int .u32 idn, .bool ext, .bool rem, .int .i64 dl, .string bs]) rfl rfl (by kernel_rfl) (by kernel_rfl) (by kernel_rfl) (by kernel_rfl) (by kernel_rfl) (fun _ _ _ h => h) rfl (fun W h => exec_heap W g 24 _ _ h Tryd.underlying24 rfl (by kernel_rfl) _ _ (.tmp 6) (by rfl) (by rfl)) (M9.out.fb) ?_
        refine wpAnyL_one (i := 2) (by kernel_rfl) ?_
        refine wpOp_do rfl rfl ?_
        go_simp
        (with_reducible refine (RG.out _).mono ?_)
        rintro eB wB ⟨rfl, qB⟩
        have MM := hide (M9.out.below qB)
        clear qB M9
        go_simp
        refine ⟨keepsL_mk (by kernel_rfl) (.cons MM.out.fb (.past (by kernel_rfl) .nil)), ?_⟩
        refine wpAnyL_pure (i := 3) (v := .bool false) rfl rfl (by kernel_rfl) (by kernel_rfl) (by kernel_rfl) (by kernel_rfl) (by kernel_rfl) (fun _ _ _ h => h) rfl (fun W => by go_simp) ?_
        go_simp
        refine wpAnyL_skip (i := 4) rfl rfl (by kernel_rfl) (by kernel_rfl) (by kernel_rfl) (by kernel_rfl) (by kernel_rfl) (fun _ _ _ h => h) (by kernel_rfl) ?_
        refine wpAnyL_skip (i := 5) rfl rfl (by kernel_rfl) (by kernel_rfl) (by kernel_rfl) (by kernel_rfl) (by kernel_rfl) (fun _ _ _ h => h) (by kernel_rfl) ?_
        refine wpAnyL_skip (i := 6) rfl rfl (by kernel_rfl) (by kernel_rfl) (by kernel_rfl) (by kernel_rfl) (by kernel_rfl) (fun _ _ _ h => h) (by kernel_rfl) ?_
        refine wpAnyL_skip (i := 7) rfl rfl (by kernel_rfl) (by kernel_rfl) (by kernel_rfl) (by kernel_rfl) (by kernel_rfl) (fun _ _ _ h => h) (by kernel_rfl) ?_
        refine wpAnyL_pure (i := 8) (v := .bool false) rfl rfl (by kernel_rfl) (by kernel_rfl) (by kernel_rfl) (by kernel_rfl) (by kernel_rfl) (fun _ _ _ h => h) rfl (fun W => by go_simp) ?_
        go_simp
        refine wpAnyL_one (i := 9) (by kernel_rfl) ?_
        refine wpOp_do rfl rfl ?_
        refine wp_store_as 24 (.tmp 2) (.tmp 77) rfl w.heap.size 0 [.int .u32 idn, .bool ext, .bool rem, .int .i64 dl, .string bs] (by rfl) (by rfl) (by exact frThere (id := 0) MM.out.zb) (by kernel_rfl) (by simp [Value.oneCell']) ?_
        intro Wz ez
        have Cz := whole_heap [.int .u32 idn, .bool ext, .bool rem, .int .i64 dl, .string bs] (xs := [_, _, _, _, _]) MM.out.zb rfl
        have qz := MM.out.q.trans (below_setCells (g := w.heap.size) [.int .u32 idn, .bool ext, .bool rem, .int .i64 dl, .string bs] 0 _ (Nat.le_refl _))
        rw [← ez] at Cz qz
        clear ez
        refine ⟨keepsL_all (by kernel_rfl) (by kernel_rfl), ?_⟩
        refine wpAnyL_one (i := 10) (by kernel_rfl) ?_
        refine wpOp_do rfl rfl ?_
        go_simp
        refine ⟨keepsL_all (by kernel_rfl) (by kernel_rfl), ?_⟩
        refine wpAnyL_done (by kernel_rfl) ?_ _
        obtain ⟨y0, y1, y2, y3, y4⟩ := frCells Cz
        have Qz := hide qz
        clear Cz qz
        go_wp2_with fail
        refine bodyPost_ret (v := .tuple #[.agg #[.int .u32 idn, .bool ext, .bool rem, .int .i64 dl, .string bs], .bool false]) (by simp [results, Tryd.results33, go_sem, y0, y1, y2, y3, y4]) rfl ⟨by rw [HW.out, HR.out], Qz.out⟩
      | true =>
        rw [hr] at RG
        have HH := hide (HDD.out hr)
        rw [hr, Bool.true_and] at HR
        clear hr HDD
        generalize hhs : (⟨(headF ⟨idn, ext, rem, dl, bs⟩).toArray⟩ : ByteArray) = hd9 at *
        have EQ : (hd9.toList == s.toList) = decide (headF ⟨idn, ext, rem, dl, bs⟩ = s.data.toList) := by
          rw [← hhs, Lib.toList_data, Lib.toList_data, Bool.eq_iff_iff]
          simp
        rw [← EQ] at HR
        clear EQ hhs
        refine wp_region_L [0, 1, 3, 4, 6, 7, 8] [(0, fun W => W.heap[g]? = some (.cells #[.int .u32 idn, .bool ext, .bool rem, .int .i64 dl, .string bs] 24 (0, 0))), (1, fun W => W.heap[g]? = some (.cells #[.int .u32 idn, .bool ext, .bool rem, .int .i64 dl, .string bs] 24 (0, 0))), (4, fun W => W.heap[g]? = some (.cells #[.int .u32 idn, .bool ext, .bool rem, .int .i64 dl, .string bs] 24 (0, 0)))] (by kernel_rfl) ?_
        generalize w9.drew = wA at *
        refine wpAnyL_load (i := 0) (v := .agg #[.int .u32 idn, .bool ext, .bool rem, .int .i64 dl, .string bs]) rfl rfl (by kernel_rfl) (by kernel_rfl) (by kernel_rfl) (by kernel_rfl) (by kernel_rfl) (fun _ _ _ h => h) rfl (fun W h => exec_heap W g 24 _ _ h Tryd.underlying24 rfl (by kernel_rfl) _ _ (.tmp 6) (by rfl) (by rfl)) (M9.out.fb) ?_
        refine wpAnyL_load (i := 1) (v := .agg #[.int .u32 idn, .bool ext, .bool rem, .int .i64 dl, .string bs]) rfl rfl (by kernel_rfl) (by kernel_rfl) (by kernel_rfl) (by kernel_rfl) (by kernel_rfl) (fun _ _ _ h => h) rfl (fun W h => exec_heap W g 24 _ _ h Tryd.underlying24 rfl (by kernel_rfl) _ _ (.tmp 6) (by rfl) (by rfl)) (M9.out.fb) ?_
        refine wpAnyL_one (i := 2) (by kernel_rfl) ?_
        refine wpOp_do rfl rfl ?_
        go_simp
        (with_reducible refine (RG.out _).mono ?_)
        rintro eB wB ⟨rfl, qB⟩
        have MB := hide (M9.out.below qB)
        clear qB M9
        go_simp
        refine ⟨keepsL_mk (by kernel_rfl) (.cons MB.out.fb (.past (by kernel_rfl) (.cons MB.out.fb .nil))), ?_⟩
        refine wpAnyL_pure (i := 3) (v := .bool true) rfl rfl (by kernel_rfl) (by kernel_rfl) (by kernel_rfl) (by kernel_rfl) (by kernel_rfl) (fun _ _ _ h => h) rfl (fun W => by go_simp) ?_
        go_simp
        refine wpAnyL_loadG (i := 4) (v := .agg #[.int .u32 idn, .bool ext, .bool rem, .int .i64 dl, .string bs]) rfl rfl (by kernel_rfl) (by kernel_rfl) (by kernel_rfl) (by kernel_rfl) (by kernel_rfl) (fun _ _ _ h => h) (by kernel_rfl) (fun W h => exec_heap W g 24 _ _ h Tryd.underlying24 rfl (by kernel_rfl) _ _ (.tmp 6) (by rfl) (by rfl)) (MB.out.fb) ?_
        refine wpAnyL_pureG (i := 6) (v := .string s) rfl rfl (by kernel_rfl) (by kernel_rfl) (by kernel_rfl) (by kernel_rfl) (by kernel_rfl) (fun _ _ _ h => h) (by kernel_rfl) (fun W => by go_simp) ?_
        go_simp
        refine wpAnyL_one (i := 5) (by kernel_rfl) ?_
        refine wpOp_guard rfl (by kernel_rfl) ?_
        go_simp
        (with_reducible refine (HH.out _).mono ?_)
        rintro eC wC ⟨rfl, qC⟩
        have MM := hide (MB.out.below qC)
        clear qC MB
        go_simp
        refine ⟨keepsL_mk (by kernel_rfl) (.cons MM.out.fb (.past (by kernel_rfl) (.past (by kernel_rfl) .nil))), ?_⟩
        refine wpAnyL_pureG (i := 7) (v := .bool (hd9.toList == s.toList)) rfl rfl (by kernel_rfl) (by kernel_rfl) (by kernel_rfl) (by kernel_rfl) (by kernel_rfl) (fun _ _ _ h => h) (by kernel_rfl) (fun W => by go_simp) ?_
        go_simp
        refine wpAnyL_pure (i := 8) (v := .bool (hd9.toList == s.toList)) rfl rfl (by kernel_rfl) (by kernel_rfl) (by kernel_rfl) (by kernel_rfl) (by kernel_rfl) (fun _ _ _ h => h) rfl (fun W => by go_simp) ?_
        go_simp
        refine wpAnyL_one (i := 9) (by kernel_rfl) ?_
        refine wpOp_do rfl rfl ?_
        refine wp_store_as 24 (.tmp 2) (.tmp 77) rfl w.heap.size 0 [.int .u32 idn, .bool ext, .bool rem, .int .i64 dl, .string bs] (by rfl) (by rfl) (by exact frThere (id := 0) MM.out.zb) (by kernel_rfl) (by simp [Value.oneCell']) ?_
        intro Wz ez
        have Cz := whole_heap [.int .u32 idn, .bool ext, .bool rem, .int .i64 dl, .string bs] (xs := [_, _, _, _, _]) MM.out.zb rfl
        have qz := MM.out.q.trans (below_setCells (g := w.heap.size) [.int .u32 idn, .bool ext, .bool rem, .int .i64 dl, .string bs] 0 _ (Nat.le_refl _))
        rw [← ez] at Cz qz
        clear ez
        refine ⟨keepsL_all (by kernel_rfl) (by kernel_rfl), ?_⟩
        refine wpAnyL_one (i := 10) (by kernel_rfl) ?_
        refine wpOp_do rfl rfl ?_
        go_simp
        refine ⟨keepsL_all (by kernel_rfl) (by kernel_rfl), ?_⟩
        refine wpAnyL_done (by kernel_rfl) ?_ _
        obtain ⟨y0, y1, y2, y3, y4⟩ := frCells Cz
        have Qz := hide qz
        clear Cz qz
        go_wp2_with fail
        refine bodyPost_ret (v := .tuple #[.agg #[.int .u32 idn, .bool ext, .bool rem, .int .i64 dl, .string bs], .bool (hd9.toList == s.toList)]) (by simp [results, Tryd.results33, go_sem, y0, y1, y2, y3, y4]) rfl ⟨by rw [HW.out, HR.out], Qz.out⟩
end Go.Proofs.YtmfgifinmeonjaaDoor
