/- The walk of PduPacks. -/
import Derived.Test.YtplpnnjjjfcibaaRsE
import Derived.Test.YtplpnnjjjfcibaaPdI
namespace Go.Proofs.Ytplpnnjjjfcibaa
open Go.ChangeShapes Go.WideShapes Go.ChangeAt Go.RowKit
open SG PD

set_option maxRecDepth 100000 in
set_option maxHeartbeats 16000000 in
theorem pduPacks_walk (L0 : Ly) (A : Option Addr) (c : Nat) (B : Option Addr) (d : Nat) (vs : List Int) (nb : List Bool) (VA : Option Addr) (vc : Nat) (NA : Option Addr) (nc : Nat) (fill : UInt8) (s0 : ByteArray) (w : World) (hA0 : SgR w w.heap.size A L0.sgs) (hB0 : InR w w.heap.size B L0.nws)
    (hV : InR w w.heap.size VA vs) (hN : BoR w w.heap.size NA nb) (hc0 : L0.sgs.length ≤ c) (hd0 : L0.nws.length ≤ d) (hvc : vs.length ≤ vc) (hnc : nb.length ≤ nc) (hvs : ∀ x ∈ vs, -9223372036854775808 ≤ x ∧ x < 9223372036854775808) (hs : s0.size ≤ maxLen) :
    Calls Try.prog 5 #[.agg (lyV L0 A c B d), .slice VA vs.length vc, .slice NA nb.length nc, .int .u8 fill.toNat, .string s0] w fun e w' => e = .returned (.bool true) ∧ Below w.heap.size w w' := by
  have FW := hide (fun W => few_any L0 A c B d W hc0 hd0)
  obtain ⟨L, hL⟩ : ∃ L, L = fewL L0 := ⟨_, rfl⟩
  have hA : SgR w w.heap.size A L.sgs := by
    have := hA0.take 20
    rw [← List.map_take] at this
    rw [hL]; exact this
  have hB : InR w w.heap.size B L.nws := by
    have := hB0.take 20
    unfold inRow at this
    rw [← List.map_take] at this
    rw [hL]; exact this
  have hl20 : L.sgs.length ≤ 20 := by rw [hL]; show (L0.sgs.take 20).length ≤ 20; rw [List.length_take]; omega
  have hn20 : L.nws.length ≤ 20 := by rw [hL]; show (L0.nws.take 20).length ≤ 20; rw [List.length_take]; omega
  have hc : L.sgs.length ≤ c := by rw [hL]; show (L0.sgs.take 20).length ≤ c; rw [List.length_take]; omega
  have hd : L.nws.length ≤ d := by rw [hL]; show (L0.nws.take 20).length ≤ d; rw [List.length_take]; omega
  rw [← hL] at FW
  unfold maxLen at hs
  obtain ⟨m, em, hm⟩ := run_min (P := Try.prog) (s0.size : Int) 10
  obtain ⟨k0, hk0⟩ : ∃ k : Nat, k = min s0.size 10 := ⟨_, rfl⟩
  have hmk : m = k0 := by omega
  subst hmk
  have hkl : k0 ≤ s0.size := by omega
  have hk10 : k0 ≤ 10 := by omega
  have hsz : (s0.extract 0 k0).size = k0 := by rw [ByteArray.size_extract]; omega
  clear hk0 em
  have UP := hide (fun (W : World) (hb : Below w.heap.size w W) (s : ByteArray) (hz : s.size ≤ 10) => unpack_any L A c B d s W (Rd.next hA hb hb.size) (Rd.next hB hb hb.size) (by omega) (by omega) hc hd (by omega))
  have CL := hide (fun (W : World) (hb : Below w.heap.size w W) (s : ByteArray) (hz : s.size ≤ 10) => clear_any L A c B d s W (Rd.next hA hb hb.size) (Rd.next hB hb hb.size) (by omega) (by omega) hc hd (by omega))
  have RT := hide (fun (W : World) (hb : Below w.heap.size w W) => pduRight_any L A c B d W (Rd.next hA hb hb.size) (Rd.next hB hb hb.size) (by omega) (by omega) hc hd)
  have RR := hide (fun (W : World) (hb : Below w.heap.size w W) => refRight15_any L A c B d W (Rd.next hA hb hb.size) (Rd.next hB hb hb.size) (by omega) (by omega) hc hd)
  have PB := hide (fun (W : World) (hb : Below w.heap.size w W) (h : packB L vs.length nb.length = false) => pack_bad L A c B d vs.length nb.length VA vc NA nc fill W (Rd.next hA hb hb.size) (Rd.next hB hb hb.size) (by omega) (by omega) hc hd h)
  have PI := hide (fun (W : World) (hb : Below w.heap.size w W) (hr : rightB L = true) (h1 : vs.length = L.sgs.length) (h2 : nb.length = L.sgs.length) => pack_in L A c B d vs nb VA vc NA nc fill W (Rd.next hA hb hb.size) (Rd.next hB hb hb.size) (by omega) (by omega) hc hd (Rd.next hV hb hb.size) (Rd.next hN hb hb.size) hvs hr h1 h2 hvc hnc)
  have RP := hide (fun (W : World) (hb : Below w.heap.size w W) (hr : rightB L = true) (h1 : vs.length = L.sgs.length) (h2 : nb.length = L.sgs.length) => refPack_any L A c B d vs nb VA vc NA nc fill W (Rd.next hA hb hb.size) (Rd.next hB hb hb.size) hc hd (Rd.next hV hb hb.size) (Rd.next hN hb hb.size) hvs hr h1 h2 hvc hnc)
  have RC := hide (fun (W : World) (hb : Below w.heap.size w W) (s : ByteArray) (hr : rightB L = true) (hz : (s.size : Int) = L.size) => refClear_any L A c B d s W (Rd.next hA hb hb.size) (Rd.next hB hb hb.size) hc hd hr hz)
  have RV := hide (fun (W : World) (hb : Below w.heap.size w W) (s : ByteArray) (hr : rightB L = true) (hz : (s.size : Int) = L.size) k hk hkn => refValue_any L A c B d s k W (Rd.next hA hb hb.size) (Rd.next hB hb hb.size) hc hd hr hz hk hkn)
  have AL := hide (fun W => alive15_any W)
  clear hL hA0 hB0 hA hB hV hN hvs
  have q0 : Below w.heap.size w (w.alloc (.cells (lyV L0 A c B d) 25)) := (Below.refl _ _).alloc (Nat.le_refl _) _
  have B0 := hide (World.alloc_heap_new w (.cells (lyV L0 A c B d) 25))
  unfold lyV at *
  obtain ⟨c0, c1, c2⟩ := three_cells B0.out
  go_enter Try.func5, Try.ntmps5
  go_wp2_with fail
  (with_reducible refine (FW.out _).mono ?_)
  rintro e1 w1 ⟨rfl, q1⟩
  have B1 := hide (heap_below B0.out q1)
  have Q1 := hide (below_next q0 q0.size q1)
  clear q0 q1 B0 FW c0 c1 c2
  have TH := hide (show w1.there w.heap.size 0 3 from there_heap (cs := [_, _, _]) B1.out)
  go_wp2_with (refine wpList_store_hid (by rfl) 25 (.tmp 5) (.tmp 24) (by rfl) w.heap.size 0 [.int .i64 L.size, .slice A L.sgs.length c, .slice B L.nws.length d] (by rfl) (by rfl) (by exact TH.out) (by kernel_rfl) (by simp [Value.oneCell']) ?_)
  intro w2 e2
  have B2 := hide (show w2.heap[w.heap.size]? = some (.cells #[.int .i64 L.size, .slice A L.sgs.length c, .slice B L.nws.length d] 25 (0, 0)) by rw [e2.out]; exact whole_heap [.int .i64 L.size, .slice A L.sgs.length c, .slice B L.nws.length d] (xs := [_, _, _]) B1.out rfl)
  have Q2 := hide (show Below w.heap.size w w2 by rw [e2.out]; exact Q1.out.trans (below_setCells (g := w.heap.size) _ 0 _ (Nat.le_refl _)))
  clear TH e2 B1 Q1
  obtain ⟨c0, c1, c2⟩ := three_cells B2.out
  go_upto_region 3 with fail
  generalize s0.extract 0 k0 = s at *
  subst hsz
  -- what Pack answers
  have PKA : ∃ (a : ByteArray) (e : Int), Hid (Calls Try.prog 11 #[.agg #[.int .i64 L.size, .slice A L.sgs.length c, .slice B L.nws.length d], .slice VA vs.length vc, .slice NA nb.length nc, .int .u8 fill.toNat] w2 fun e' w' => e' = .returned (.tuple #[.string a, .int .i64 e]) ∧ Below w2.heap.size w2 w') ∧ Hid ((packB L vs.length nb.length = false ∧ a = ⟨#[]⟩ ∧ e = 1) ∨ (packB L vs.length nb.length = true ∧ ∀ e', PackV L vs nb fill e' → e' = .returned (.tuple #[.string a, .int .i64 e]))) := by
    by_cases hok : packB L vs.length nb.length = true
    · have hok2 : rightB L = true ∧ vs.length = L.sgs.length ∧ nb.length = L.sgs.length := by
        unfold packB at hok
        simpa using hok
      obtain ⟨hr, hvl, hnl⟩ := hok2
      have PK := PI.out _ Q2.out hr hvl hnl
      by_cases hf : fitAll L vs
      · refine ⟨⟨(packF L vs nb fill).toArray⟩, 0, hide (PK.mono ?_), hide (.inr ⟨hok, ?_⟩)⟩
        · rintro e' w' ⟨⟨_, h⟩ | ⟨h, _⟩, q⟩
          · exact ⟨h, q⟩
          · exact absurd hf h
        · rintro e' (⟨_, h⟩ | ⟨h, _⟩)
          · exact h
          · exact absurd hf h
      · refine ⟨⟨#[]⟩, 32, hide (PK.mono ?_), hide (.inr ⟨hok, ?_⟩)⟩
        · rintro e' w' ⟨⟨h, _⟩ | ⟨_, h⟩, q⟩
          · exact absurd h hf
          · exact ⟨h, q⟩
        · rintro e' (⟨h, _⟩ | ⟨_, h⟩)
          · exact absurd h hf
          · exact h
    · have hok2 : packB L vs.length nb.length = false := by simpa using hok
      exact ⟨⟨#[]⟩, 1, hide (PB.out _ Q2.out hok2), hide (.inl ⟨hok2, rfl, rfl⟩)⟩
  obtain ⟨a, e, PK, HPK⟩ := PKA
  clear PI PB
  go_wp2_with fail
  (with_reducible refine (PK.out).mono ?_)
  rintro e1 w3 ⟨rfl, q3⟩
  have B3 := hide (heap_below B2.out q3)
  have Q3 := hide (below_next Q2.out Q2.out.size q3)
  clear q3 PK c0 c1 c2 B2 Q2
  obtain ⟨c0, c1, c2⟩ := three_cells B3.out
  have U1 := hide (UP.out _ Q3.out s hk10)
  clear UP
  go_wp2_with fail
  (with_reducible refine (U1.out).mono ?_)
  rintro e1 w4 ⟨hu, q4⟩
  have B4 := hide (heap_below B3.out q4)
  have Q4 := hide (below_next Q3.out Q3.out.size q4)
  have C1 := hide (CL.out _ Q4.out s hk10)
  clear q4 U1 c0 c1 c2 B3 CL
  obtain ⟨c0, c1, c2⟩ := three_cells B4.out
  -- the three kinds of bytes
  have HU : ∃ (n1 n2 : Nat) (XA : Option Addr) (xc : Nat) (YA : Option Addr) (yc : Nat), e1 = .returned (.tuple #[.slice XA n1 xc, .slice YA n2 yc, .int .i64 (wellL L s.size)]) ∧ Hid ((wellL L s.size ≠ 0 ∧ n1 = 0 ∧ n2 = 0) ∨ (wellL L s.size = 0 ∧ n1 = L.sgs.length ∧ n2 = L.sgs.length ∧ InR w4 w4.heap.size XA (unV L s.data.toList) ∧ BoR w4 w4.heap.size YA (unN L s.data.toList))) := by
    rcases hu with ⟨hx, rfl⟩ | ⟨hx, XA, xc, YA, yc, rfl, ox, oy⟩
    · exact ⟨0, 0, none, 0, none, 0, rfl, hide (.inl ⟨hx, rfl, rfl⟩)⟩
    · exact ⟨_, _, XA, xc, YA, yc, by rw [hx], hide (.inr ⟨hx, rfl, rfl, inOwn_rd ox, boOwn_rd oy⟩)⟩
  obtain ⟨n1, n2, XA, xc, YA, yc, rfl, HUK⟩ := HU
  clear hu
  have HW := hide (show wellL L s.size = if rightB L = false then 1 else if (s.size : Int) ≠ L.size then 23 else 0 from rfl)
  have HCV := hide (show clrV L s = if wellL L s.size = 0 then ⟨(clrF L s.data.toList).toArray⟩ else ⟨#[]⟩ from rfl)
  obtain ⟨x, hx⟩ : ∃ x, x = wellL L s.size := ⟨_, rfl⟩
  obtain ⟨t, ht⟩ : ∃ t, t = clrV L s := ⟨_, rfl⟩
  rw [← hx, ← ht] at C1
  rw [← hx] at HUK HW HCV ⊢
  rw [← ht] at HCV
  clear hx ht
  go_wp2_with fail
  (with_reducible refine (C1.out).mono ?_)
  rintro e1 w5 ⟨rfl, q5⟩
  have B5 := hide (heap_below B4.out q5)
  have Q5 := hide (below_next Q4.out Q4.out.size q5)
  have q45 := hide q5
  clear q5 C1 c0 c1 c2 B4
  have zW : w.heap.size < w5.heap.size := heap_lt B5.out
  obtain ⟨c0, c1, c2⟩ := three_cells B5.out
  go_wp2_with fail
  have T5 := hide (fun s : InW w5 => RT.out s.W (below_next Q5.out Q5.out.size s.h))
  have R5 := hide (fun s : InW w5 => RR.out s.W (below_next Q5.out Q5.out.size s.h))
  have A5 := hide (fun s : InW w5 => AL.out s.W)
  have f0 := fun s : InW w5 => s.cell zW c0
  have f1 := fun s : InW w5 => s.cell zW c1
  have f2 := fun s : InW w5 => s.cell zW c2
  obtain ⟨R, hR⟩ : ∃ R, R = rightB L := ⟨_, rfl⟩
  rw [← hR] at T5 R5
  have HR := hide hR
  clear c0 c1 c2 hR RT
  refine wp_region_tame (by kernel_rfl) (by kernel_rfl) ?_
  repeat (go_big_quiet_step ((first | (go_at_call 17; exact tame_of (T5.out _)) | (go_at_call 18; exact tame_of (R5.out _)) | (go_at_call 12; exact tame_of (A5.out _)))))
  refine wpQuiet_nil ?_
  rintro _ ⟨sw, rfl⟩
  clear f0 f1 f2 T5 R5 A5
  have B6 := hide (heap_below B5.out sw.h)
  have Q6 := hide (below_next Q5.out Q5.out.size sw.h)
  have q46 := hide (below_next q45.out q45.out.size sw.h)
  clear q45 B5 Q5
  generalize sw.W = w6 at *
  clear sw zW
  have R6 := RR.out _ Q6.out
  rw [← HR.out] at R6
  replace R6 := hide R6
  obtain ⟨c0, c1, c2⟩ := three_cells B6.out
  go_wp2_with fail
  (with_reducible refine (R6.out).mono ?_)
  rintro e1 w7 ⟨rfl, q7⟩
  have B7 := hide (heap_below B6.out q7)
  have Q7 := hide (below_next Q6.out Q6.out.size q7)
  have q47 := hide (below_next q46.out q46.out.size q7)
  clear q7 R6 c0 c1 c2 B6 Q6 q46 RR
  cases R with
  | false =>
    have hr : rightB L = false := HR.out.symm
    have hx : x = 1 := by rw [HW.out, hr, if_pos rfl]
    subst hx
    have ht : t = ⟨#[]⟩ := by rw [HCV.out, if_neg (by omega)]
    subst ht
    have hpb : a = ⟨#[]⟩ ∧ e = 1 := by
      rcases HPK.out with ⟨_, h1, h2⟩ | ⟨h, _⟩
      · exact ⟨h1, h2⟩
      · unfold packB at h; rw [hr] at h; cases h
    obtain ⟨rfl, rfl⟩ := hpb
    have hn : n1 = 0 ∧ n2 = 0 := by
      rcases HUK.out with ⟨_, h1, h2⟩ | ⟨h, _⟩
      · exact ⟨h1, h2⟩
      · omega
    obtain ⟨rfl, rfl⟩ := hn
    clear HW HCV HPK HUK
    go_wp2_with fail
    go_ret
    exact ⟨rfl, Q7.out⟩
  | true =>
    have hr : rightB L = true := HR.out.symm
    have HRR := hide hr
    obtain ⟨c0, c1, c2⟩ := three_cells B7.out
    have hnl := (right_iff.1 hr).2.2.2.1
    have HNL := hide hnl
    clear hnl
    obtain ⟨P, hP⟩ : ∃ P, P = packB L vs.length nb.length := ⟨_, rfl⟩
    rw [← hP] at HPK
    have HP := hide (show P = (decide (vs.length = L.sgs.length) && decide (nb.length = L.sgs.length)) from by rw [hP]; unfold packB; rw [HRR.out, Bool.true_and])
    have HWS := hide (show x = if (s.size : Int) ≠ L.size then 23 else 0 from by rw [HW.out, HRR.out, if_neg (by simp)])
    clear hP hr HW HR
    go_upto_region 10 with fail
    go_cut [104] from 91 (fun v W => v = .bool (!P) ∧ w7 = W)
    case first =>
      by_cases h1 : vs.length = L.sgs.length
      · have e1 : ((vs.length : Int) == (L.sgs.length : Int)) = true := by rw [beq_iff_eq]; omega
        have e2 : ((vs.length : Int) != (L.sgs.length : Int)) = false := by simp [bne, e1]
        by_cases h2 : nb.length = L.sgs.length
        · have e3 : ((nb.length : Int) == (L.sgs.length : Int)) = true := by rw [beq_iff_eq]; omega
          have e4 : ((nb.length : Int) != (L.sgs.length : Int)) = false := by simp [bne, e3]
          have hP : Hid (P = true) := hide (by rw [HP.out, decide_eq_true h1, decide_eq_true h2]; rfl)
          clear h1 h2
          go_wp2_with fail
          go_meet
          exact ⟨by rw [hP.out]; rfl, rfl⟩
        · have e3 : ((nb.length : Int) == (L.sgs.length : Int)) = false := by rw [beq_eq_false_iff_ne]; omega
          have e4 : ((nb.length : Int) != (L.sgs.length : Int)) = true := by simp [bne, e3]
          have hP : Hid (P = false) := hide (by rw [HP.out, decide_eq_false h2, Bool.and_false])
          clear h1 h2
          go_wp2_with fail
          go_meet
          exact ⟨by rw [hP.out]; rfl, rfl⟩
      · have e1 : ((vs.length : Int) == (L.sgs.length : Int)) = false := by rw [beq_eq_false_iff_ne]; omega
        have e2 : ((vs.length : Int) != (L.sgs.length : Int)) = true := by simp [bne, e1]
        have hP : Hid (P = false) := hide (by rw [HP.out, decide_eq_false h1, Bool.false_and])
        clear h1
        go_wp2_with fail
        go_meet
        exact ⟨by rw [hP.out]; rfl, rfl⟩
    case rest =>
      obtain ⟨rfl, rfl⟩ := hcut
      rename_i hK2 _ hK
      refine hK _ _ ?_
      go_cut [18, 19] from 105 (fun _ _ W => Hid (Below w7.heap.size w7 W))
      case first =>
        have sq : (a.toList == a.toList) = true := by simp
        have sq2 : (a.toList != a.toList) = false := by simp
        cases P with
        | false =>
          have hpb : a = ⟨#[]⟩ ∧ e = 1 := by
            rcases HPK.out with ⟨_, h1, h2⟩ | ⟨h, _⟩
            · exact ⟨h1, h2⟩
            · cases h
          obtain ⟨rfl, rfl⟩ := hpb
          clear RP RC RV HPK HUK HCV
          go_wp2_with fail
          go_meet
          exact hide (Below.refl _ _)
        | true =>
          have hl : vs.length = L.sgs.length ∧ nb.length = L.sgs.length := by
            have := HP.out
            simpa using this.symm
          have RPW := hide (RP.out _ Q7.out HRR.out hl.1 hl.2)
          have HE := hide (show ∀ e', PackV L vs nb fill e' → e' = .returned (.tuple #[.string a, .int .i64 e]) from by
            rcases HPK.out with ⟨h, _⟩ | ⟨_, h⟩
            · cases h
            · exact h)
          clear RP RC RV HPK HUK HCV hl
          go_wp2_with fail
          (with_reducible refine (RPW.out).mono ?_)
          rintro e2 w8 ⟨hpv, q8⟩
          have he := HE.out _ hpv
          subst he
          have q := hide q8
          clear HE hpv RPW q8 c0 c1 c2
          go_wp2_with fail
          go_meet
          exact q
      case rest =>
        rename_i hKb
        refine hK2 _ _ ?_
        have B8 := hide (heap_below B7.out hcut.out)
        have Q8 := hide (below_next Q7.out Q7.out.size hcut.out)
        have q48 := hide (below_next q47.out q47.out.size hcut.out)
        clear B7 Q7 q47 c0 c1 c2 RP HPK hcut
        obtain ⟨c0, c1, c2⟩ := three_cells B8.out
        by_cases hsl : (s.size : Int) = L.size
        · have e1 : ((s.size : Int) == L.size) = true := by rw [beq_iff_eq]; exact hsl
          have e2 : ((s.size : Int) != L.size) = false := by simp [bne, e1]
          have hx : x = 0 := by rw [HWS.out, if_neg (by simpa using hsl)]
          subst hx
          have ht : t = ⟨(clrF L s.data.toList).toArray⟩ := by rw [HCV.out, if_pos rfl]
          have hn : n1 = L.sgs.length ∧ n2 = L.sgs.length ∧ InR w4 w4.heap.size XA (unV L s.data.toList) ∧ BoR w4 w4.heap.size YA (unN L s.data.toList) := by
            rcases HUK.out with ⟨h, _⟩ | ⟨_, h1, h2, h3, h4⟩
            · exact absurd rfl h
            · exact ⟨h1, h2, h3, h4⟩
          obtain ⟨rfl, rfl, hX, hY⟩ := hn
          have RX := hide (Rd.next hX q48.out q48.out.size)
          have RY := hide (Rd.next hY q48.out q48.out.size)
          have RCW := RC.out _ Q8.out s HRR.out hsl
          rw [← ht] at RCW
          replace RCW := hide RCW
          have RVW := hide (fun (W : World) (hb : Below w.heap.size w W) k hk hkn => RV.out W hb s HRR.out hsl k hk hkn)
          have hl16 := (right_iff.1 HRR.out).2.2.1
          have sq : (t.toList == t.toList) = true := by simp
          have sq2 : (t.toList != t.toList) = false := by simp
          clear HCV HUK RC RV hsl ht hX hY q48 HP HWS
          go_wp2_with fail
          (with_reducible refine (RCW.out).mono ?_)
          rintro e2 w9 ⟨rfl, q9⟩
          have B9 := hide (heap_below B8.out q9)
          have Q9 := hide (below_next Q8.out Q8.out.size q9)
          have RX9 := hide (Rd.next RX.out q9 q9.size)
          have RY9 := hide (Rd.next RY.out q9 q9.size)
          clear q9 RCW c0 c1 c2 B8 Q8 RX RY
          obtain ⟨c0, c1, c2⟩ := three_cells B9.out
          go_wp2_with fail
          clear c0 c1 c2
          go_loopw [182] (fun vi W => ∃ k : Nat, k ≤ L.sgs.length ∧ vi = .int .i64 k ∧ Hid (Below w9.heap.size w9 W)) (fun vi _ => L.sgs.length - (intOf vi).toNat)
          case atStart => exact ⟨0, Nat.zero_le _, rfl, hide (Below.refl _ _)⟩
          case round =>
            obtain ⟨k, hk, rfl, hq⟩ := hrel
            have QW := hide (below_next Q9.out Q9.out.size hq.out)
            by_cases hlt : k < L.sgs.length
            · have hkn : k < L.nws.length := by rw [HNL.out]; exact hlt
              have RVK := hide (RVW.out _ QW.out k hlt hkn)
              have BW := hide (heap_below B9.out hq.out)
              obtain ⟨c0, c1, c2⟩ := three_cells BW.out
              have hkv : k < (unV L s.data.toList).length := by simpa [unV] using hlt
              have hkN : k < (unN L s.data.toList).length := by simpa [unN] using hkn
              obtain ⟨b1, o1, rfl, h1, v1⟩ := InR.at_ RX9.out hkv
              obtain ⟨b2, o2, rfl, h2, v2⟩ := BoR.at_ RY9.out hkN
              have ev : (unV L s.data.toList)[k] = getF s.data.toList L.sgs[k] := by simp [unV]
              have en : (unN L s.data.toList)[k] = newB s.data.toList L.nws[k] := by simp [unN]
              rw [ev] at v1
              rw [en] at v2
              have hki : (k : Int) < (L.sgs.length : Int) := by omega
              generalize getF s.data.toList L.sgs[k] = v at *
              generalize newB s.data.toList L.nws[k] = n at *
              clear hkv hkN ev en RVW
              go_wp2_with fail
              (with_reducible refine (RVK.out).mono ?_)
              rintro e3 w10 ⟨rfl, q10⟩
              have hq2 := hide (below_next hq.out hq.out.size q10)
              have y1 := cellBelow hq2.out h1 v1
              have y2 := cellBelow hq2.out h2 v2
              clear q10 RVK c0 c1 c2 v1 v2 BW QW
              have bq : (n != n) = false := by simp
              go_wp2_with fail
              go_roundw
              case rel => exact ⟨k + 1, by omega, by go_num, hq2⟩
              case measure => simp [intOf]; omega
            · obtain rfl : k = L.sgs.length := by omega
              have hnl : ¬ (L.sgs.length : Int) < (L.sgs.length : Int) := by omega
              clear hlt hk RVW RX9 RY9
              go_wp2_with fail
              go_ret
              exact ⟨rfl, QW.out⟩
        · have e1 : ((s.size : Int) == L.size) = false := by rw [beq_eq_false_iff_ne]; exact hsl
          have e2 : ((s.size : Int) != L.size) = true := by simp [bne, e1]
          have hx : x = 23 := by rw [HWS.out, if_pos hsl]
          subst hx
          have ht : t = ⟨#[]⟩ := by rw [HCV.out, if_neg (by omega)]
          subst ht
          have hn : n1 = 0 ∧ n2 = 0 := by
            rcases HUK.out with ⟨_, h1, h2⟩ | ⟨h, _⟩
            · exact ⟨h1, h2⟩
            · omega
          obtain ⟨rfl, rfl⟩ := hn
          clear HCV HUK RC RV hsl
          go_wp2_with fail
          go_ret
          exact ⟨rfl, Q8.out⟩
end Go.Proofs.Ytplpnnjjjfcibaa
