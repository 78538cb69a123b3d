/- Walks of ref15.Pack, Value, Clear. -/
import Derived.Test.YtplpnnjjjfcibaaRsD
namespace Go.Proofs.Ytplpnnjjjfcibaa
open Go.ChangeShapes Go.WideShapes Go.ChangeAt Go.RowKit
open SG PD

theorem rep_snoc (x : UInt8) (i : Nat) : (⟨(List.replicate i x).toArray⟩ : ByteArray) ++ ⟨#[x]⟩ = ⟨(List.replicate (i + 1) x).toArray⟩ := by
  rw [List.replicate_succ']
  apply ByteArray.ext
  rw [ByteArray.data_append]
  apply Array.toList_inj.1
  simp

set_option maxRecDepth 100000 in
set_option maxHeartbeats 8000000 in
theorem refPack_any (L : Ly) (A : Option Addr) (c : Nat) (B : Option Addr) (d : Nat) (vs : List Int) (nb : List Bool) (VA : Option Addr) (vc : Nat) (NA : Option Addr) (nc : Nat) (fill : UInt8) (w : World) (hA : SgR w w.heap.size A L.sgs) (hB : InR w w.heap.size B L.nws) (hc : L.sgs.length ≤ c) (hd : L.nws.length ≤ d)
    (hV : InR w w.heap.size VA vs) (hN : BoR w w.heap.size NA nb) (hvs : ∀ v ∈ vs, -9223372036854775808 ≤ v ∧ v < 9223372036854775808) (hr : rightB L = true) (h1 : vs.length = L.sgs.length) (h2 : nb.length = L.sgs.length) (hvc : vs.length ≤ vc) (hnc : nb.length ≤ nc) :
    Calls Try.prog 19 #[.agg (lyV L A c B d), .slice VA vs.length vc, .slice NA nb.length nc, .int .u8 fill.toNat] w fun e w' => PackV L vs nb fill e ∧ Below w.heap.size w w' := by
  have q0 : Below w.heap.size w (w.alloc (.cells (lyV L A c B d) 25)) := (Below.refl _ _).alloc (Nat.le_refl _) _
  have B0 := hide (World.alloc_heap_new w (.cells (lyV L A c B d) 25))
  have HA := hide hA
  have HB := hide hB
  have HV := hide hV
  have HN := hide hN
  have HR := hide (right_iff.1 hr)
  have HVS := hide hvs
  have hz0 := HR.out.1
  have hz8 := HR.out.2.1
  have hl16 := HR.out.2.2.1
  have HNL := hide (HR.out.2.2.2.1)
  have H1 := hide h1
  have H2 := hide h2
  obtain ⟨z, hzz⟩ : ∃ z : Nat, L.size = z := ⟨L.size.toNat, by omega⟩
  have hzt : L.size.toNat = z := by omega
  have hz88 : z ≤ 8 := by omega
  have HZT := hide hzt
  have HZ := hide hzz
  clear hA hB hV hN hvs hr h1 h2
  unfold lyV at *
  obtain ⟨c0, c1, c2⟩ := three_cells B0.out
  rw [hzz] at c0
  have Q0 := hide q0
  clear q0 hzz hzt
  generalize hw0 : w.alloc (.cells #[.int .i64 L.size, .slice A L.sgs.length c, .slice B L.nws.length d] 25) = w0 at *
  have PK := hide (show packN (List.replicate z fill) L vs nb 0 = List.replicate z fill from rfl)
  have PF := hide (show packF L vs nb fill = packN (List.replicate z fill) L vs nb L.sgs.length from by unfold packF; rw [HZT.out])
  have LEN := hide (fun k => show (packN (List.replicate z fill) L vs nb k).length = z by rw [packN_length, List.length_replicate])
  have R0 := hide (show (⟨(List.replicate 0 fill).toArray⟩ : ByteArray) = ⟨#[]⟩ from rfl)
  go_enter Try.func19, Try.ntmps19
  go_wp2_with fail
  clear c0 c1 c2 hw0
  go_loopw [10, 11] (fun vo vi W => ∃ i : Nat, i ≤ z ∧ vi = .int .i64 i ∧ vo = .string ⟨(List.replicate i fill).toArray⟩ ∧ Hid (W.heap[w.heap.size]? = some (.cells #[.int .i64 L.size, .slice A L.sgs.length c, .slice B L.nws.length d] 25 (0, 0))) ∧ Hid (Below w.heap.size w W)) (fun _ vi _ => z - (intOf vi).toNat)
  case atStart => exact ⟨0, Nat.zero_le _, rfl, by rw [R0.out], B0, Q0⟩
  case round =>
    obtain ⟨i, hi, rfl, rfl, hB, hQ⟩ := hrel
    clear B0 Q0 R0
    obtain ⟨c0, c1, c2⟩ := three_cells hB.out
    rw [HZ.out] at c0
    by_cases hiz : i < z
    · have hii : (i : Int) < (z : Int) := by omega
      have hcv : (convert 87 9 (.slice (some ⟨wr.heap.size, 0, none⟩) 1 1)).run Try.prog (wr.alloc (.cells #[.int .u8 fill.toNat] 5)) = .ok (.string ⟨#[fill]⟩) (wr.alloc (.cells #[.int .u8 fill.toNat] 5)) :=
        run_bytes_str _ _ _ _ Try.underlying87 Try.underlying5 Try.underlying9 wr.heap.size 1 1 [fill] rfl (fun i hi => by
          have : i = 0 := by simpa using hi
          subst this
          exact (by simp only [World.cell?, World.alloc_heap_new]; rfl))
      have q2 : Below wr.heap.size wr (wr.alloc (.cells #[.int .u8 fill.toNat] 5)) := (Below.refl _ _).alloc (Nat.le_refl _) _
      have B2 := hide (heap_below hB.out q2)
      have Q2 := hide (below_next hQ.out hQ.out.size q2)
      have RS := hide (rep_snoc fill i)
      obtain ⟨m1, hm1⟩ : ∃ m1 : ByteArray, m1 = ⟨(List.replicate (i + 1) fill).toArray⟩ := ⟨_, rfl⟩
      rw [← hm1] at RS
      have HM1 := hide hm1
      clear hm1 PK PF LEN q2 hB hQ
      have hmsz : (⟨(List.replicate i fill).toArray⟩ : ByteArray).size = i := by rw [size_ofL, List.length_replicate]
      generalize (⟨(List.replicate i fill).toArray⟩ : ByteArray) = m at *
      have hms1 : (⟨#[fill]⟩ : ByteArray).size = 1 := rfl
      have hms8 : m.size ≤ 8 := by omega
      clear hmsz
      go_wp2_with fail
      go_roundw
      case rel => exact ⟨i + 1, by omega, by go_num, by rw [← HM1.out, ← RS.out], B2, Q2⟩
      case measure => simp [intOf]; omega
    · obtain rfl : i = z := by omega
      have hnl : ¬ (i : Int) < (i : Int) := by omega
      obtain ⟨l0, hl0⟩ : ∃ l0, l0 = List.replicate i fill := ⟨_, rfl⟩
      rw [← hl0] at PK PF LEN ⊢
      clear hl0 hiz hi
      go_wp2_with fail
      clear c0 c1 c2 hnl
      go_loopw [10, 28] (fun vo vi W => ∃ k : Nat, k ≤ L.sgs.length ∧ vi = .int .i64 k ∧ vo = .string ⟨(packN l0 L vs nb k).toArray⟩ ∧ Hid (∀ j < k, fitsB (L.sgs.getD j dflt) (vs.getD j 0) = true) ∧ Hid (W.heap[w.heap.size]? = some (.cells #[.int .i64 L.size, .slice A L.sgs.length c, .slice B L.nws.length d] 25 (0, 0))) ∧ Hid (Below w.heap.size w W)) (fun _ vi _ => L.sgs.length - (intOf vi).toNat)
      case atStart => exact ⟨0, Nat.zero_le _, rfl, by rw [PK.out], hide (fun j hj => absurd hj (Nat.not_lt_zero _)), hB, hQ⟩
      case round =>
        obtain ⟨k, hk, rfl, rfl, hF, hB3, hQ3⟩ := hrel
        clear hB hQ PK
        by_cases hlt : k < L.sgs.length
        · have hkn : k < L.nws.length := by rw [HNL.out]; exact hlt
          have hkv : k < vs.length := by rw [H1.out]; exact hlt
          have hkb : k < nb.length := by rw [H2.out]; exact hlt
          have HRT := HR.out.2.2.2.2.1 _ (List.getElem_mem hlt)
          have hrs := rightS_iff.1 HRT
          have hmy := (plL_may hrs.1).1
          have hnb := HR.out.2.2.2.2.2.1 _ (List.getElem_mem hkn)
          have hvb := HVS.out _ (List.getElem_mem hkv)
          have gs : L.sgs.getD k dflt = L.sgs[k] := by simp [List.getD_eq_getElem?_getD, hlt]
          have gv : vs.getD k 0 = vs[k] := by simp [List.getD_eq_getElem?_getD, hkv]
          have gn : L.nws.getD k 0 = L.nws[k] := by simp [List.getD_eq_getElem?_getD, hkn]
          have gb : nb.getD k false = nb[k] := by simp [List.getD_eq_getElem?_getD, hkb]
          have ST := packN_succ l0 L vs nb k
          have hml := LEN.out k
          have HFIT := hide (fun (hf : fitsB L.sgs[k] vs[k] = true) => show ∀ j < k + 1, fitsB (L.sgs.getD j dflt) (vs.getD j 0) = true from fun j hj => by
            by_cases e : j = k
            · subst e; rw [gs, gv]; exact hf
            · exact hF.out j (by omega))
          have HMIS := hide (fun (hf : fitsB L.sgs[k] vs[k] = false) => show PackV L vs nb fill (.returned (.tuple #[.string ⟨#[]⟩, .int .i64 32])) from .inr ⟨fun ha => (by have := ha k hlt; rw [gs, gv, hf] at this; cases this), rfl⟩)
          rw [gs, gv, gn, gb] at ST
          obtain ⟨ab, ao, rfl, hab, s0, s1, s2, s3⟩ := SgR.at_ (Rd.below HA.out hQ3.out) hlt
          obtain ⟨vb, vo, rfl, hvb2, v0⟩ := InR.at_ (Rd.below HV.out hQ3.out) hkv
          obtain ⟨nbk, no, rfl, hnb2, n0⟩ := InR.at_ (Rd.below HB.out hQ3.out) hkn
          obtain ⟨bb, bo, rfl, hbb2, b0⟩ := BoR.at_ (Rd.below HN.out hQ3.out) hkb
          have hki : (k : Int) < (L.sgs.length : Int) := by omega
          have hkvi : (k : Int) < (vs.length : Int) := by omega
          have hkni : (k : Int) < (L.nws.length : Int) := by omega
          have hkbi : (k : Int) < (nb.length : Int) := by omega
          have zW : w.heap.size < wr.heap.size := heap_lt hB3.out
          clear gs gv gn gb hF LEN PF
          have STN := hide ST
          clear ST
          obtain ⟨m2, hm2⟩ : ∃ m2, m2 = packN l0 L vs nb (k + 1) := ⟨_, rfl⟩
          rw [← hm2] at STN
          have HM2 := hide hm2
          clear hm2
          have HPL := hide (fun p (hp : p ∈ plL L.sgs[k]) => show p < 8 * i from by have := hrs.2.2.2 p hp; rw [HZ.out] at this; omega)
          have FT := hide (fun W => refFits_any L.sgs[k] vs[k] W hvb.1 hvb.2 hmy)
          rw [HZ.out] at hnb
          generalize packN l0 L vs nb k = m at *
          have hms : (⟨m.toArray⟩ : ByteArray).size = i := by rw [size_ofL, hml]
          have PT := hide (fun W => refPut_any ⟨m.toArray⟩ L.sgs[k] vs[k] W (by rw [hms]; omega) (by rw [hms]; exact HPL.out) hvb.1 hvb.2)
          have hpm := putF_length m (plL L.sgs[k]) vs[k]
          have etl : (⟨m.toArray⟩ : ByteArray).data.toList = m := rfl
          rw [etl] at PT
          generalize L.sgs[k] = S at *
          generalize vs[k] = v at *
          generalize L.nws[k] = nw at *
          generalize nb[k] = bk at *
          generalize putF m (plL S) v = m3x at *
          clear hkn hkv hkb hrs hmy HRT hvb etl HPL
          have th := hide (show (wr.alloc (.cells #[.int .i64 0, .int .i64 0, .bool false, .bool false] 36)).there wr.heap.size 0 4 from there_heap (cs := [_, _, _, _]) (World.alloc_heap_new wr _))
          go_wp2_with (refine wpList_store_hid (by rfl) 36 (.tmp 13) (.tmp 32) (by rfl) wr.heap.size 0 [.int .i64 S.start, .int .i64 S.width, .bool S.big, .bool S.sgn] (by rfl) (by rfl) (by exact th.out) (by kernel_rfl) (by simp [Value.oneCell']) ?_)
          intro w2 e2
          have bs := hide (show w2.heap[wr.heap.size]? = some (.cells #[.int .i64 S.start, .int .i64 S.width, .bool S.big, .bool S.sgn] 36 (0, 0)) by rw [e2.out]; exact whole_heap [.int .i64 S.start, .int .i64 S.width, .bool S.big, .bool S.sgn] (xs := [_, _, _, _]) (World.alloc_heap_new wr _) rfl)
          have qb : Below wr.heap.size wr w2 := by
            rw [e2.out]
            exact ((Below.refl _ _).alloc (Nat.le_refl _) _).trans (below_setCells (g := wr.heap.size) _ 0 _ (Nat.le_refl _))
          have B2 := hide (heap_below hB3.out qb)
          have Q2 := hide (below_next hQ3.out hQ3.out.size qb)
          have v1 := hide (cellBelow qb (by omega : vb < wr.heap.size) v0)
          have n1 := hide (cellBelow qb (by omega : nbk < wr.heap.size) n0)
          have b1 := hide (cellBelow qb (by omega : bb < wr.heap.size) b0)
          have z2 : wr.heap.size < w2.heap.size := heap_lt bs.out
          clear th e2 qb hB3 hQ3 s0 s1 s2 s3 v0 n0 b0
          generalize wr.heap.size = sb at *
          go_wp2_with fail
          obtain ⟨x0, x1, x2, x3⟩ := sg_cells bs.out
          have y1 := v1.out
          have m0 := fun s : InW w2 => s.cell z2 x0
          have m1 := fun s : InW w2 => s.cell z2 x1
          have m2' := fun s : InW w2 => s.cell z2 x2
          have m3 := fun s : InW w2 => s.cell z2 x3
          have m4 := fun s : InW w2 => s.cell (by omega : vb < w2.heap.size) y1
          clear x0 x1 x2 x3 y1
          rcases hfb : fitsB S v with _ | _
          · rw [hfb] at FT
            have MIS := hide (HMIS.out hfb)
            clear HMIS HFIT hfb PT STN
            refine wp_region_tame (by kernel_rfl) (by kernel_rfl) ?_
            repeat (go_big_quiet_step ((go_at_call 51; exact tame_of (FT.out _))))
            refine wpQuiet_nil ?_
            rintro _ ⟨sw, rfl⟩
            have Q3 := hide (below_next Q2.out Q2.out.size sw.h)
            clear m0 m1 m2' m3 m4
            go_wp2_with fail
            refine bodyPost_ret (v := .tuple #[.string ⟨#[]⟩, .int .i64 32]) (by simp [results, Try.results19, go_sem]) rfl ⟨MIS.out, Q3.out⟩
          · rw [hfb] at FT
            have FIT := hide (HFIT.out hfb)
            clear HMIS HFIT hfb
            refine wp_region_tame (by kernel_rfl) (by kernel_rfl) ?_
            repeat (go_big_quiet_step ((go_at_call 51; exact tame_of (FT.out _))))
            refine wpQuiet_nil ?_
            rintro _ ⟨sw, rfl⟩
            have Q3 := hide (below_next Q2.out Q2.out.size sw.h)
            have B3 := hide (heap_below B2.out sw.h)
            have bs3 := hide (heap_below bs.out sw.h)
            have v2 := hide (cellBelow sw.h (by omega : vb < w2.heap.size) v1.out)
            have n2 := hide (cellBelow sw.h (by omega : nbk < w2.heap.size) n1.out)
            have b2 := hide (cellBelow sw.h (by omega : bb < w2.heap.size) b1.out)
            have z3 : sb < sw.W.heap.size := heap_lt bs3.out
            have hz23 := sw.h.size
            clear m0 m1 m2' m3 m4 FT B2 Q2 v1 n1 b1 bs
            generalize sw.W = w4 at *
            clear sw
            go_wp2_with fail
            obtain ⟨x0, x1, x2, x3⟩ := sg_cells bs3.out
            have y1 := v2.out
            have m0 := fun s : InW w4 => s.cell z3 x0
            have m1 := fun s : InW w4 => s.cell z3 x1
            have m2' := fun s : InW w4 => s.cell z3 x2
            have m3 := fun s : InW w4 => s.cell z3 x3
            have m4 := fun s : InW w4 => s.cell (by omega : vb < w4.heap.size) y1
            clear x0 x1 x2 x3 y1
            refine wp_region_tame (by kernel_rfl) (by kernel_rfl) ?_
            repeat (go_big_quiet_step ((go_at_call 52; exact tame_of (PT.out _))))
            refine wpQuiet_nil ?_
            rintro _ ⟨sw, rfl⟩
            have Q5 := hide (below_next Q3.out Q3.out.size sw.h)
            have B5 := hide (heap_below B3.out sw.h)
            have n3 := cellBelow sw.h (by omega : nbk < w4.heap.size) n2.out
            have b3 := cellBelow sw.h (by omega : bb < w4.heap.size) b2.out
            have hz45 := sw.h.size
            clear m0 m1 m2' m3 m4 PT B3 Q3 v2 n2 b2 bs3
            generalize sw.W = w5 at *
            clear sw
            obtain ⟨c0, c1, c2⟩ := three_cells B5.out
            by_cases h0 : 0 ≤ nw
            · obtain ⟨p, rfl⟩ := Int.eq_ofNat_of_zero_le h0
              have hms3 : (⟨m3x.toArray⟩ : ByteArray).size = i := by rw [size_ofL, hpm, hml]
              have MK := hide (fun W => show Calls Try.prog 53 #[.string ⟨m3x.toArray⟩, .int .i64 p, .bool bk] W fun e w' => e = .returned (.string ⟨(setB m3x p bk).toArray⟩) ∧ Below W.heap.size W w' from refWith_any ⟨m3x.toArray⟩ p bk W (by rw [hms3]; omega) (by rw [hms3]; omega))
              have EM := hide (show setB m3x p bk = m2 by rw [STN.out, if_pos h0]; rfl)
              rw [EM.out] at MK
              clear EM STN hms3
              go_wp2_with fail
              have k0 := fun s : InW w5 => s.cell (by omega : w.heap.size < w5.heap.size) c2
              have k1 := fun s : InW w5 => s.cell (by omega : nbk < w5.heap.size) n3
              have k2 := fun s : InW w5 => s.cell (by omega : bb < w5.heap.size) b3
              clear c0 c1 c2 n3 b3
              refine wp_region_tame (by kernel_rfl) (by kernel_rfl) ?_
              repeat (go_big_quiet_step ((go_at_call 53; exact tame_of (MK.out _))))
              refine wpQuiet_nil ?_
              rintro _ ⟨s2, rfl⟩
              have Q6 := hide (below_next Q5.out Q5.out.size s2.h)
              have B6 := hide (heap_below B5.out s2.h)
              clear k0 k1 k2
              go_wp2_with fail
              go_roundw
              case rel => exact ⟨k + 1, by omega, by go_num, by rw [HM2.out], FIT, B6, Q6⟩
              case measure => simp [intOf]; omega
            · have EM := hide (show m3x = m2 by rw [STN.out, if_neg h0])
              clear STN
              go_wp2_with fail
              go_roundw
              case rel => exact ⟨k + 1, by omega, by go_num, by rw [EM.out, HM2.out], FIT, B5, Q5⟩
              case measure => simp [intOf]; omega
        · obtain rfl : k = L.sgs.length := by omega
          have hnl : ¬ (L.sgs.length : Int) < (L.sgs.length : Int) := by omega
          have FIN := hide (show PackV L vs nb fill (.returned (.tuple #[.string ⟨(packN l0 L vs nb L.sgs.length).toArray⟩, .int .i64 0])) from .inl ⟨hF.out, by rw [PF.out]⟩)
          clear hF PF LEN
          go_wp2_with fail
          refine bodyPost_ret (v := .tuple #[.string ⟨(packN l0 L vs nb L.sgs.length).toArray⟩, .int .i64 0]) (by simp [results, Try.results19, go_sem]) rfl ⟨FIN.out, hQ3.out⟩

set_option maxRecDepth 100000 in
set_option maxHeartbeats 4000000 in
theorem refClear_any (L : Ly) (A : Option Addr) (c : Nat) (B : Option Addr) (d : Nat) (s : ByteArray) (w : World) (hA : SgR w w.heap.size A L.sgs) (hB : InR w w.heap.size B L.nws) (hc : L.sgs.length ≤ c) (hd : L.nws.length ≤ d) (hr : rightB L = true) (hz : (s.size : Int) = L.size) :
    Calls Try.prog 20 #[.agg (lyV L A c B d), .string s] w fun e w' => e = .returned (.string ⟨(clrF L s.data.toList).toArray⟩) ∧ Below w.heap.size w w' := by
  have q0 : Below w.heap.size w (w.alloc (.cells (lyV L A c B d) 25)) := (Below.refl _ _).alloc (Nat.le_refl _) _
  have B0 := hide (World.alloc_heap_new w (.cells (lyV L A c B d) 25))
  have HB := hide hB
  have HR := hide (right_iff.1 hr)
  have h8 : s.size ≤ 8 := by have := HR.out.2.1; omega
  have hl16 := HR.out.2.2.1
  have hnl := HR.out.2.2.2.1
  have hds : s.data.toList.length = s.size := by simp
  have HN := hide (right_news (d := s.data.toList) hr (by rw [hds]; exact hz))
  have LEN := hide (fun k => show (clrN L.nws s.data.toList k).length = s.size by rw [clrN_length, hds])
  have PF := hide (show clrF L s.data.toList = clrN L.nws s.data.toList L.nws.length from rfl)
  have P0 := hide (show (⟨(clrN L.nws s.data.toList 0).toArray⟩ : ByteArray) = s from by simp [clrN])
  have HNL := hide (show L.nws.length ≤ 16 by omega)
  rw [PF.out]
  clear hA hB hr hz PF hds HR hnl hl16
  unfold lyV at *
  obtain ⟨c0, c1, c2⟩ := three_cells B0.out
  have Q0 := hide q0
  clear q0
  have hl16 := HNL.out
  go_enter Try.func20, Try.ntmps20
  go_wp2_with fail
  clear c0 c1 c2
  go_loopw [1, 10] (fun vd vi W => ∃ k : Nat, k ≤ L.nws.length ∧ vi = .int .i64 k ∧ vd = .string ⟨(clrN L.nws s.data.toList k).toArray⟩ ∧ Hid (Below w.heap.size w W)) (fun _ vi _ => L.nws.length - (intOf vi).toNat)
  case atStart => exact ⟨0, Nat.zero_le _, rfl, by rw [P0.out], Q0⟩
  case round =>
    obtain ⟨k, hk, rfl, rfl, hQ⟩ := hrel
    clear Q0 P0 B0
    by_cases hlt : k < L.nws.length
    · have NX := hide (clrN_succ L.nws s.data.toList k)
      have hgd : L.nws.getD k 0 = L.nws[k] := by rw [List.getD_eq_getElem?_getD, List.getElem?_eq_getElem hlt]; rfl
      rw [hgd] at NX
      have hb := HN.out _ (List.getElem_mem hlt)
      have hml := LEN.out k
      obtain ⟨bk, ok, rfl, hbk, ck⟩ := InR.at_ (Rd.below HB.out hQ.out) hlt
      have hki : (k : Int) < (L.nws.length : Int) := by omega
      obtain ⟨m1, hm1⟩ : ∃ m1, m1 = clrN L.nws s.data.toList (k + 1) := ⟨_, rfl⟩
      rw [← hm1] at NX
      have HM1 := hide hm1
      clear hm1
      generalize clrN L.nws s.data.toList k = m at *
      generalize L.nws[k] = a at *
      clear hgd LEN HN HB
      by_cases h0 : 0 ≤ a
      · rw [if_pos h0] at NX
        obtain ⟨p, rfl⟩ := Int.eq_ofNat_of_zero_le h0
        have hms : (⟨m.toArray⟩ : ByteArray).size = m.length := size_ofL m
        have hsl : s.data.toList.length = s.size := by simp
        rw [hsl] at hb
        have MK := hide (fun W => show Calls Try.prog 53 #[.string ⟨m.toArray⟩, .int .i64 p, .bool false] W fun e w' => e = .returned (.string ⟨(setB m p false).toArray⟩) ∧ Below W.heap.size W w' from refWith_any ⟨m.toArray⟩ p false W (by rw [hms]; omega) (by rw [hms]; omega))
        have NX2 : setB m p false = m1 := NX.out.symm
        rw [NX2] at MK
        clear NX NX2 hms hsl
        go_wp2_with fail
        (with_reducible refine (MK.out _).mono ?_)
        rintro e2 w2 ⟨rfl, q2⟩
        have Q2 := hide (below_next hQ.out hQ.out.size q2)
        clear hQ q2 ck
        go_wp2_with fail
        go_roundw
        case rel => exact ⟨k + 1, by omega, by go_num, by rw [HM1.out], Q2⟩
        case measure => simp [intOf]; omega
      · rw [if_neg h0] at NX
        have NX2 : Hid (m1 = m) := NX
        clear NX
        go_wp2_with fail
        go_roundw
        case rel => exact ⟨k + 1, by omega, by go_num, by rw [← HM1.out, NX2.out], hQ⟩
        case measure => simp [intOf]; omega
    · obtain rfl : k = L.nws.length := by omega
      have hnl : ¬ (L.nws.length : Int) < (L.nws.length : Int) := by omega
      clear HN LEN HB hlt hk
      go_wp2_with fail
      go_ret
      exact ⟨rfl, hQ.out⟩

set_option maxRecDepth 100000 in
set_option maxHeartbeats 4000000 in
theorem refValue_any (L : Ly) (A : Option Addr) (c : Nat) (B : Option Addr) (d : Nat) (s : ByteArray) (k : Nat) (w : World) (hA : SgR w w.heap.size A L.sgs) (hB : InR w w.heap.size B L.nws) (hc : L.sgs.length ≤ c) (hd : L.nws.length ≤ d) (hr : rightB L = true) (hz : (s.size : Int) = L.size) (hk : k < L.sgs.length) (hkn : k < L.nws.length) :
    Calls Try.prog 21 #[.agg (lyV L A c B d), .string s, .int .i64 k] w fun e w' => e = .returned (.tuple #[.int .i64 (getF s.data.toList L.sgs[k]), .bool (newB s.data.toList L.nws[k])]) ∧ Below w.heap.size w w' := by
  have q0 : Below w.heap.size w (w.alloc (.cells (lyV L A c B d) 25)) := (Below.refl _ _).alloc (Nat.le_refl _) _
  have B0 := hide (World.alloc_heap_new w (.cells (lyV L A c B d) 25))
  have HA := hide hA
  have HB := hide hB
  have HR := right_iff.1 hr
  have h8 : s.size ≤ 8 := by have := HR.2.1; omega
  have hl16 := HR.2.2.1
  have hrs := rightS_iff.1 (HR.2.2.2.2.1 _ (List.getElem_mem hk))
  have hnb := HR.2.2.2.2.2.1 _ (List.getElem_mem hkn)
  have GT := hide (fun W => refGet_any s L.sgs[k] W h8 (fun p hp => by have := hrs.2.2.2 p hp; omega) hrs.1)
  obtain ⟨nb, hnbv⟩ : ∃ nb, nb = newB s.data.toList L.nws[k] := ⟨_, rfl⟩
  rw [← hnbv]
  have HNB := hide (show nb = if 0 ≤ L.nws[k] then bitL s.data.toList L.nws[k].toNat else true from hnbv)
  have Q0 := hide q0
  unfold lyV at *
  obtain ⟨sb, so, rfl, hsb, s0, s1, s2, s3⟩ := SgR.at_ (Rd.below HA.out Q0.out) hk
  obtain ⟨ab, ao, rfl, hab, nW0⟩ := InR.at_ HB.out hkn
  have nW := hide nW0
  have hki : (k : Int) < (L.sgs.length : Int) := by omega
  have hkni : (k : Int) < (L.nws.length : Int) := by omega
  have hk16 : (k : Int) ≤ 16 := by omega
  obtain ⟨c0, c1, c2⟩ := three_cells B0.out
  generalize L.sgs[k] = S at *
  generalize L.nws[k] = a at *
  generalize getF s.data.toList S = v at *
  clear hA hB HR hr hrs hnbv q0 HA HB nW0
  generalize hw0 : w.alloc (.cells #[.int .i64 L.size, .slice (some ⟨sb, so, none⟩) L.sgs.length c, .slice (some ⟨ab, ao, none⟩) L.nws.length d] 25) = w0 at *
  go_enter Try.func21, Try.ntmps21
  go_wp2_with fail
  (with_reducible refine (GT.out _).mono ?_)
  rintro e1 w1 ⟨rfl, q1⟩
  have Q1 := hide (below_next Q0.out Q0.out.size q1)
  have B1 := hide (heap_below B0.out q1)
  have n1 := cellBelow Q1.out hab nW.out
  clear c0 c1 c2 s0 s1 s2 s3 q1 hw0 B0
  obtain ⟨c0, c1, c2⟩ := three_cells B1.out
  by_cases h0 : 0 ≤ a
  · obtain ⟨p, rfl⟩ := Int.eq_ofNat_of_zero_le h0
    have E := hide (show nb = bitL s.data.toList p by rw [HNB.out, if_pos h0]; rfl)
    have BT := hide (fun W => refBit_any s p W (by omega) (by omega))
    rw [← E.out] at BT
    have hp0 : ¬ (p : Int) < 0 := by omega
    have ei : ((if nb = true then (1 : Int) else 0) == 1) = nb := by cases nb <;> rfl
    generalize (if nb = true then (1 : Int) else 0) = bi at *
    clear E HNB
    go_wp2_with fail
    (with_reducible refine (BT.out _).mono ?_)
    rintro e2 w2 ⟨rfl, rfl⟩
    go_wp2_with fail
    refine bodyPost_ret (v := .tuple #[.int .i64 v, .bool nb]) (by simp [results, Try.results21, go_sem]; intro h; exfalso; clear hp0; omega) rfl ⟨rfl, Q1.out⟩
  · have E := hide (show nb = true by rw [HNB.out, if_neg h0])
    clear HNB
    go_wp2_with fail
    refine bodyPost_ret (v := .tuple #[.int .i64 v, .bool true]) (by simp [results, Try.results21, go_sem]) rfl ⟨by rw [E.out], Q1.out⟩
end Go.Proofs.Ytplpnnjjjfcibaa
