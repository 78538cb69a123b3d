/- The walk of PduAgain. -/
import Derived.Test.YtplpnnjjjfcibaaMgPdH
import Derived.Test.YtplpnnjjjfcibaaPdX
namespace Go.Proofs.Ytplpnnjjjfcibaa
open Go.ChangeShapes Go.WideShapes Go.ChangeAt Go.RowKit
open SG PD

theorem boRow_rows (l : List Bool) : ∀ r ∈ boRow l, r.length = 1 := by
  intro r hr
  obtain ⟨p, _, rfl⟩ := List.mem_map.1 hr
  rfl
theorem inOwn_rd {W : World} {base : Nat} {A : Option Addr} {c : Nat} {l : List Int} {e : TypeId} (h : Own W base e 1 A c (inRow l)) : InR W W.heap.size A l := h.rd (inRow_rows _)
theorem boOwn_rd {W : World} {base : Nat} {A : Option Addr} {c : Nat} {l : List Bool} {e : TypeId} (h : Own W base e 1 A c (boRow l)) : BoR W W.heap.size A l := h.rd (boRow_rows _)

set_option maxRecDepth 100000 in
set_option maxHeartbeats 8000000 in
theorem pduAgain_walk (L0 : Ly) (A : Option Addr) (c : Nat) (B : Option Addr) (d : Nat) (s0 : ByteArray) (w : World) (hA0 : SgR w w.heap.size A L0.sgs) (hB0 : InR w w.heap.size B L0.nws)
    (hc0 : L0.sgs.length ≤ c) (hd0 : L0.nws.length ≤ d) (hs : s0.size ≤ maxLen) :
    Calls Try.prog 6 #[.agg (lyV L0 A c B d), .string s0] w fun e w' => e = .returned (.bool true) ∧ Below w.heap.size w w' := by
  have FW := hide (fun W => few_any L0 A c B d W hc0 hd0)
  obtain ⟨L, hL⟩ : ∃ L, L = fewL L0 := ⟨_, rfl⟩
  have hA : SgR w w.heap.size A L.sgs := by
    have := hA0.take 20
    rw [← List.map_take] at this
    rw [hL]; exact this
  have hB : InR w w.heap.size B L.nws := by
    have := hB0.take 20
    unfold inRow at this
    rw [← List.map_take] at this
    rw [hL]; exact this
  have hl20 : L.sgs.length ≤ 20 := by rw [hL]; show (L0.sgs.take 20).length ≤ 20; rw [List.length_take]; omega
  have hn20 : L.nws.length ≤ 20 := by rw [hL]; show (L0.nws.take 20).length ≤ 20; rw [List.length_take]; omega
  have hc : L.sgs.length ≤ c := by rw [hL]; show (L0.sgs.take 20).length ≤ c; rw [List.length_take]; omega
  have hd : L.nws.length ≤ d := by rw [hL]; show (L0.nws.take 20).length ≤ d; rw [List.length_take]; omega
  rw [← hL] at FW
  unfold maxLen at hs
  obtain ⟨m, em, hm⟩ := run_min (P := Try.prog) (s0.size : Int) 10
  obtain ⟨k0, hk0⟩ : ∃ k : Nat, k = min s0.size 10 := ⟨_, rfl⟩
  have hmk : m = k0 := by omega
  subst hmk
  have hkl : k0 ≤ s0.size := by omega
  have hk10 : k0 ≤ 10 := by omega
  have hsz : (s0.extract 0 k0).size = k0 := by rw [ByteArray.size_extract]; omega
  clear hk0 em
  have UP := hide (fun (W : World) (hb : Below w.heap.size w W) (s : ByteArray) (hz : s.size ≤ 10) => unpack_any L A c B d s W (Rd.next hA hb hb.size) (Rd.next hB hb hb.size) (by omega) (by omega) hc hd (by omega))
  have CL := hide (fun (W : World) (hb : Below w.heap.size w W) (s : ByteArray) (hz : s.size ≤ 10) => clear_any L A c B d s W (Rd.next hA hb hb.size) (Rd.next hB hb hb.size) (by omega) (by omega) hc hd (by omega))
  have HA := hide hA
  have HB := hide hB
  have AL := hide (fun W => alive15_any W)
  clear hL hA0 hB0 hA hB
  have q0 : Below w.heap.size w (w.alloc (.cells (lyV L0 A c B d) 25)) := (Below.refl _ _).alloc (Nat.le_refl _) _
  have B0 := hide (World.alloc_heap_new w (.cells (lyV L0 A c B d) 25))
  unfold lyV at *
  obtain ⟨c0, c1, c2⟩ := three_cells B0.out
  go_enter Try.func6, Try.ntmps6
  go_wp2_with fail
  (with_reducible refine (FW.out _).mono ?_)
  rintro e1 w1 ⟨rfl, q1⟩
  have B1 := hide (heap_below B0.out q1)
  have Q1 := hide (below_next q0 q0.size q1)
  clear q0 q1 B0 FW c0 c1 c2
  have TH := hide (show w1.there w.heap.size 0 3 from there_heap (cs := [_, _, _]) B1.out)
  go_wp2_with (refine wpList_store_hid (by rfl) 25 (.tmp 2) (.tmp 17) (by rfl) w.heap.size 0 [.int .i64 L.size, .slice A L.sgs.length c, .slice B L.nws.length d] (by rfl) (by rfl) (by exact TH.out) (by kernel_rfl) (by simp [Value.oneCell']) ?_)
  intro w2 e2
  have B2 := hide (show w2.heap[w.heap.size]? = some (.cells #[.int .i64 L.size, .slice A L.sgs.length c, .slice B L.nws.length d] 25 (0, 0)) by rw [e2.out]; exact whole_heap [.int .i64 L.size, .slice A L.sgs.length c, .slice B L.nws.length d] (xs := [_, _, _]) B1.out rfl)
  have Q2 := hide (show Below w.heap.size w w2 by rw [e2.out]; exact Q1.out.trans (below_setCells (g := w.heap.size) _ 0 _ (Nat.le_refl _)))
  clear TH e2 B1 Q1
  obtain ⟨c0, c1, c2⟩ := three_cells B2.out
  go_upto_region 3 with fail
  generalize s0.extract 0 k0 = s at *
  subst hsz
  have U1 := hide (UP.out _ Q2.out s hk10)
  go_wp2_with fail
  (with_reducible refine (U1.out).mono ?_)
  rintro e3 w3 ⟨hu3, q3⟩
  have B3 := hide (heap_below B2.out q3)
  have Q3 := hide (below_next Q2.out Q2.out.size q3)
  have C1 := hide (CL.out _ Q3.out s hk10)
  clear c0 c1 c2 B2 U1
  obtain ⟨c0, c1, c2⟩ := three_cells B3.out
  rcases hu3 with ⟨hx, rfl⟩ | ⟨hx, VA, vc, NA, nc, rfl, ov, on⟩
  · have hcv : clrV L s = ⟨#[]⟩ := by unfold clrV; rw [if_neg hx]
    rw [hcv] at C1
    clear hcv
    generalize wellL L s.size = x at *
    have e1 : (x == 0) = false := by rw [beq_eq_false_iff_ne]; exact hx
    have e2 : (x != 0) = true := by simp [bne, e1]
    clear hx Q2 q3
    go_wp2_with fail
    (with_reducible refine (C1.out).mono ?_)
    rintro e4 w4 ⟨rfl, q4⟩
    have Q4 := hide (below_next Q3.out Q3.out.size q4)
    clear q4 c0 c1 c2 C1 B3
    go_wp2_with fail
    (with_reducible refine (AL.out _).mono ?_)
    rintro e5 w5 ⟨rfl, q5⟩
    have Q5 := hide (below_next Q4.out Q4.out.size q5)
    clear q5 Q4
    go_wp2_with fail
    go_ret
    exact ⟨rfl, Q5.out⟩
  · obtain ⟨hr, hsl⟩ := wellL_zero.1 hx
    have hcv : clrV L s = ⟨(clrF L s.data.toList).toArray⟩ := by unfold clrV; rw [if_pos hx]
    have hds : s.data.toList.length = s.size := by simp
    have hdl : (s.data.toList.length : Int) = L.size := by rw [hds]; exact hsl
    have hcl : (clrF L s.data.toList).length = s.size := by rw [clrF_length, hds]
    obtain ⟨t, ht⟩ : ∃ t : ByteArray, t = ⟨(clrF L s.data.toList).toArray⟩ := ⟨_, rfl⟩
    have htl : t.data.toList = clrF L s.data.toList := by rw [ht]
    have htz : t.size = s.size := by rw [ht, size_ofL, hcl]
    have hwt : wellL L t.size = 0 := by rw [htz]; exact hx
    have EV : unV L t.data.toList = unV L s.data.toList := by rw [htl]; exact clr_vals hr hdl
    have EN : unN L t.data.toList = L.nws.map (fun a => decide (a < 0)) := by rw [htl]; exact clr_news hr hdl
    have ET : clrV L t = t := by
      unfold clrV
      rw [if_pos hwt, htl, clr_clr hr hdl, ht]
    rw [hcv, ← ht, hx] at C1
    have LV : (unV L s.data.toList).length = L.sgs.length := by simp [unV]
    have LN : (unN L s.data.toList).length = L.nws.length := by simp [unN]
    have hnl := (right_iff.1 hr).2.2.2.1
    have NN := hide (fun k (hk : k < L.nws.length) (hk2 : k < (unN L s.data.toList).length) (h : L.nws[k] < 0) => show (unN L s.data.toList)[k] = true from by
      simp only [unN, List.getElem_map]
      unfold newB
      rw [if_neg (by omega)])
    have HNL := hide hnl
    have HLV := hide LV
    have HLN := hide LN
    have UT := hide (fun (W : World) (hb : Below w.heap.size w W) => UP.out W hb t (by omega))
    have CT := hide (fun (W : World) (hb : Below w.heap.size w W) => CL.out W hb t (by omega))
    unfold UnpV at UT
    rw [hwt, EV, EN] at UT
    rw [hwt, ET] at CT
    have OV3 := hide ov
    have ON3 := hide on
    generalize unV L s.data.toList = V at *
    generalize unN L s.data.toList = N at *
    clear hcv hcl ht htl hwt EV EN ET hx hsl hdl hds ov on UP CL hr LV LN hnl
    go_wp2_with fail
    (with_reducible refine (C1.out).mono ?_)
    rintro e4 w4 ⟨rfl, q4⟩
    have Q4 := hide (below_next Q3.out Q3.out.size q4)
    have B4 := hide (heap_below B3.out q4)
    have OV4 := hide (OV3.out.grown q4)
    have ON4 := hide (ON3.out.grown q4)
    clear q4 c0 c1 c2 C1 B3 OV3 ON3
    obtain ⟨c0, c1, c2⟩ := three_cells B4.out
    have U2 := hide (UT.out _ Q4.out)
    clear UT
    go_wp2_with fail
    (with_reducible refine (U2.out).mono ?_)
    rintro e5 w5 ⟨hu5, q5⟩
    rcases hu5 with ⟨hx, _⟩ | ⟨_, WA, wc, MA, mc, rfl, ow, om⟩
    · exact absurd rfl hx
    have Q5 := hide (below_next Q4.out Q4.out.size q5)
    have B5 := hide (heap_below B4.out q5)
    have OV5 := hide (OV4.out.grown q5)
    have ON5 := hide (ON4.out.grown q5)
    have OW5 := hide ow
    have OM5 := hide om
    clear q5 c0 c1 c2 B4 OV4 ON4 ow om U2
    obtain ⟨c0, c1, c2⟩ := three_cells B5.out
    have C2 := hide (CT.out _ Q5.out)
    clear CT
    go_wp2_with fail
    (with_reducible refine (C2.out).mono ?_)
    rintro e6 w6 ⟨rfl, q6⟩
    have Q6 := hide (below_next Q5.out Q5.out.size q6)
    have B6 := hide (heap_below B5.out q6)
    have OV6 := hide (OV5.out.grown q6)
    have ON6 := hide (ON5.out.grown q6)
    have OW6 := hide (OW5.out.grown q6)
    have OM6 := hide (OM5.out.grown q6)
    clear q6 c0 c1 c2 C2 B5 OV5 ON5 OW5 OM5
    obtain ⟨c0, c1, c2⟩ := three_cells B6.out
    have e7 : (L.nws.length : Int) = (L.sgs.length : Int) := by rw [HNL.out]
    go_wp2_with fail
    (with_reducible refine (AL.out _).mono ?_)
    rintro e7 w7 ⟨rfl, q7⟩
    have Q7 := hide (below_next Q6.out Q6.out.size q7)
    have B7 := hide (heap_below B6.out q7)
    have RV := hide (Rd.next (inOwn_rd OV6.out) q7 q7.size)
    have RN := hide (Rd.next (boOwn_rd ON6.out) q7 q7.size)
    have RW := hide (Rd.next (inOwn_rd OW6.out) q7 q7.size)
    have RM := hide (Rd.next (boOwn_rd OM6.out) q7 q7.size)
    clear q7 c0 c1 c2 B6 OV6 ON6 OW6 OM6 Q6
    obtain ⟨c0, c1, c2⟩ := three_cells B7.out
    go_wp2_with fail
    go_loopw [119] (fun vi W => ∃ k : Nat, k ≤ L.sgs.length ∧ vi = .int .i64 k ∧ Hid (Below w7.heap.size w7 W)) (fun vi _ => L.sgs.length - (intOf vi).toNat)
    case atStart => exact ⟨0, Nat.zero_le _, rfl, hide (Below.refl _ _)⟩
    case round =>
      obtain ⟨k, hk, rfl, hq⟩ := hrel
      clear c0 c1 c2
      by_cases hlt : k < L.sgs.length
      · have hkn : k < L.nws.length := by rw [HNL.out]; exact hlt
        have hkv : k < V.length := by rw [HLV.out]; exact hlt
        have hkN : k < N.length := by rw [HLN.out]; exact hkn
        have NK := NN.out k hkn hkN
        obtain ⟨b1, o1, rfl, h1, v1⟩ := InR.at_ (Rd.below RV.out hq.out) hkv
        obtain ⟨b2, o2, rfl, h2, v2⟩ := BoR.at_ (Rd.below RN.out hq.out) hkN
        obtain ⟨b3, o3, rfl, h3, v3⟩ := InR.at_ (Rd.below RW.out hq.out) hkv
        have hkm : k < (L.nws.map (fun a => decide (a < 0))).length := by simpa using hkn
        obtain ⟨b4, o4, rfl, h4, v4⟩ := BoR.at_ (Rd.below RM.out hq.out) hkm
        rw [List.getElem_map] at v4
        have Q8 := hide (below_next Q7.out Q7.out.size hq.out)
        obtain ⟨b5, o5, rfl, h5, v5⟩ := InR.at_ (Rd.below HB.out Q8.out) hkn
        have hz7 : w7.heap.size ≤ wr.heap.size := hq.out.size
        have z1 : b1 < wr.heap.size := Nat.lt_of_lt_of_le h1 hz7
        have z2 : b2 < wr.heap.size := Nat.lt_of_lt_of_le h2 hz7
        have z3 : b3 < wr.heap.size := Nat.lt_of_lt_of_le h3 hz7
        have z4 : b4 < wr.heap.size := Nat.lt_of_lt_of_le h4 hz7
        have z5 : b5 < wr.heap.size := Nat.lt_of_lt_of_le h5 Q8.out.size
        have B8 := hide (heap_below B7.out hq.out)
        have zW : w.heap.size < wr.heap.size := heap_lt B8.out
        obtain ⟨c0, c1, c2⟩ := three_cells B8.out
        have hki : (k : Int) < (L.sgs.length : Int) := by omega
        have hkni : (k : Int) < (L.nws.length : Int) := by omega
        generalize V[k] = v at *
        generalize N[k] = n at *
        generalize L.nws[k] = a at *
        clear hkn hkv hkN hkm NN RV RN RW RM HB HA h1 h2 h3 h4 h5
        go_wp2_with fail
        have f1 := fun s : InW wr => s.cell z1 v1
        have f2 := fun s : InW wr => s.cell z2 v2
        have f3 := fun s : InW wr => s.cell z3 v3
        have f4 := fun s : InW wr => s.cell z4 v4
        have f5 := fun s : InW wr => s.cell z5 v5
        have f6 := fun s : InW wr => s.cell zW c2
        clear v1 v2 v3 v4 v5 c0 c1 c2
        by_cases ha : a < 0
        · have hn := NK ha
          subst hn
          clear NK
          have hda : decide (a < 0) = true := decide_eq_true ha
          refine wp_region_tame (by kernel_rfl) (by kernel_rfl) ?_
          repeat (go_big_quiet_step (fail))
          refine wpQuiet_nil ?_
          rintro _ ⟨sw, rfl⟩
          clear f1 f2 f3 f4 f5 f6
          have hq2 := hide (below_next hq.out hz7 sw.h)
          go_wp2_with fail
          go_roundw
          case rel => exact ⟨k + 1, by omega, by go_num, hq2⟩
          case measure => simp [intOf]; omega
        · have hda : decide (a < 0) = false := decide_eq_false ha
          clear NK
          cases n with
          | true =>
            refine wp_region_tame (by kernel_rfl) (by kernel_rfl) ?_
            repeat (go_big_quiet_step (fail))
            refine wpQuiet_nil ?_
            rintro _ ⟨sw, rfl⟩
            clear f1 f2 f3 f4 f5 f6
            have hq2 := hide (below_next hq.out hz7 sw.h)
            go_wp2_with fail
            go_roundw
            case rel => exact ⟨k + 1, by omega, by go_num, hq2⟩
            case measure => simp [intOf]; omega
          | false =>
            refine wp_region_tame (by kernel_rfl) (by kernel_rfl) ?_
            repeat (go_big_quiet_step (fail))
            refine wpQuiet_nil ?_
            rintro _ ⟨sw, rfl⟩
            clear f1 f2 f3 f4 f5 f6
            have hq2 := hide (below_next hq.out hz7 sw.h)
            go_wp2_with fail
            go_roundw
            case rel => exact ⟨k + 1, by omega, by go_num, hq2⟩
            case measure => simp [intOf]; omega
      · obtain rfl : k = L.sgs.length := by omega
        have Q8 := hide (below_next Q7.out Q7.out.size hq.out)
        clear RV RN RW RM NN HB HA
        go_wp2_with fail
        go_ret
        exact ⟨rfl, Q8.out⟩
end Go.Proofs.Ytplpnnjjjfcibaa
