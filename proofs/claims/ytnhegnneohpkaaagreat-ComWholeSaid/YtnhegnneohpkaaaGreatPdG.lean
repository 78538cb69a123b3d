/- The walk of pdu.Pack. -/
import Derived.Test.YtnhegnneohpkaaaGreatMgPdC
namespace Go.Proofs.YtnhegnneohpkaaaGreat
open Go.ChangeShapes Go.WideShapes Go.ChangeAt Go.RowKit
open SG PD

def boRow (l : List Bool) : List (List Value) := l.map fun x => [Value.bool x]
def BoR (w : World) (B : Nat) (A : Option Addr) (l : List Bool) : Prop := Rd w B A 1 (boRow l)
theorem BoR.at_ {w : World} {B : Nat} {A : Option Addr} {l : List Bool} (h : BoR w B A l) {k : Nat} (hk : k < l.length) : ∃ b off, A = some ⟨b, off, none⟩ ∧ b < B ∧ w.cell? ⟨b, off + k, none⟩ = some (.bool l[k]) := by
  obtain ⟨b, off, e, hb, hc⟩ := h (by simp [boRow]; omega)
  refine ⟨b, off, e, hb, ?_⟩
  have := hc k _ 0 _ (show (boRow l)[k]? = some [.bool l[k]] by simp [boRow, hk]) rfl
  simpa using this

/-- May values be packed? -/
def packB (L : Ly) (n m : Nat) : Bool := rightB L && (decide (n = L.sgs.length) && decide (m = L.sgs.length))
theorem right_well {s : Sg} {n : Int} (h : rightS s n = true) : wellF n s = 0 := by
  have := rightS_iff.1 h
  unfold wellF
  rw [if_neg this.1, if_neg]
  rintro (h1 | h1)
  · omega
  · rw [h] at h1; cases h1

set_option maxRecDepth 100000 in
set_option maxHeartbeats 4000000 in
theorem pack_bad (L : Ly) (A : Option Addr) (c : Nat) (B : Option Addr) (d : Nat) (vs nbn : Nat) (VA : Option Addr) (vc : Nat) (NA : Option Addr) (nc : Nat) (fill : UInt8) (w : World) (hA : SgR w w.heap.size A L.sgs) (hB : InR w w.heap.size B L.nws) (hs : L.sgs.length ≤ 1000) (hn : L.nws.length ≤ 1000) (hc : L.sgs.length ≤ c) (hd : L.nws.length ≤ d)
    (hbad : packB L vs nbn = false) :
    Calls Tryz.prog 35 #[.agg (lyV L A c B d), .slice VA vs vc, .slice NA nbn nc, .int .u8 fill.toNat] w fun e w' => e = .returned (.tuple #[.string ⟨#[]⟩, .int .i64 1]) ∧ Below w.heap.size w w' := by
  have q0 : Below w.heap.size w (w.alloc (.cells (lyV L A c B d) 27)) := (Below.refl _ _).alloc (Nat.le_refl _) _
  have B0 := hide (World.alloc_heap_new w (.cells (lyV L A c B d) 27))
  have RT := hide (fun (W : World) (hb : Below w.heap.size w W) => pduRight_any L A c B d W (Rd.next hA hb hb.size) (Rd.next hB hb hb.size) hs hn hc hd)
  unfold packB at hbad
  generalize rightB L = R at *
  clear hA hB
  unfold lyV at *
  obtain ⟨c0, c1, c2⟩ := three_cells B0.out
  have Q0 := hide q0
  clear q0
  generalize hw0 : w.alloc (.cells #[.int .i64 L.size, .slice A L.sgs.length c, .slice B L.nws.length d] 27) = w0 at *
  cases R with
  | false =>
    clear hbad
    go_enter Tryz.func35, Tryz.ntmps35
    go_wp2_with fail
    (with_reducible refine (RT.out _ Q0.out).mono ?_)
    rintro e1 w1 ⟨rfl, q1⟩
    have q := below_next Q0.out Q0.out.size q1
    clear q1 c0 c1 c2 hw0
    go_wp2_with fail
    refine bodyPost_ret (v := .tuple #[.string ⟨#[]⟩, .int .i64 1]) (by simp [results, Tryz.results35, go_sem]) rfl ⟨rfl, q⟩
  | true =>
    rw [Bool.true_and] at hbad
    by_cases h1 : vs = L.sgs.length
    · have h2 : ¬ nbn = L.sgs.length := by
        intro e
        rw [decide_eq_true h1, decide_eq_true e] at hbad
        cases hbad
      have e1 : ((vs : Int) == (L.sgs.length : Int)) = true := by rw [beq_iff_eq]; omega
      have e2 : ((vs : Int) != (L.sgs.length : Int)) = false := by simp [bne, e1]
      have e3 : ((nbn : Int) == (L.sgs.length : Int)) = false := by rw [beq_eq_false_iff_ne]; omega
      have e4 : ((nbn : Int) != (L.sgs.length : Int)) = true := by simp [bne, e3]
      clear h1 h2 hbad
      go_enter Tryz.func35, Tryz.ntmps35
      go_wp2_with fail
      (with_reducible refine (RT.out _ Q0.out).mono ?_)
      rintro e1 w1 ⟨rfl, q1⟩
      have q := below_next Q0.out Q0.out.size q1
      have B1 := heap_below B0.out q1
      clear q1 c0 c1 c2 hw0
      obtain ⟨c0, c1, c2⟩ := three_cells B1
      clear B1
      go_wp2_with fail
      refine bodyPost_ret (v := .tuple #[.string ⟨#[]⟩, .int .i64 1]) (by simp [results, Tryz.results35, go_sem]) rfl ⟨rfl, q⟩
    · have e1 : ((vs : Int) == (L.sgs.length : Int)) = false := by rw [beq_eq_false_iff_ne]; omega
      have e2 : ((vs : Int) != (L.sgs.length : Int)) = true := by simp [bne, e1]
      clear h1 hbad
      go_enter Tryz.func35, Tryz.ntmps35
      go_wp2_with fail
      (with_reducible refine (RT.out _ Q0.out).mono ?_)
      rintro e1 w1 ⟨rfl, q1⟩
      have q := below_next Q0.out Q0.out.size q1
      have B1 := heap_below B0.out q1
      clear q1 c0 c1 c2 hw0
      obtain ⟨c0, c1, c2⟩ := three_cells B1
      clear B1
      go_wp2_with fail
      refine bodyPost_ret (v := .tuple #[.string ⟨#[]⟩, .int .i64 1]) (by simp [results, Tryz.results35, go_sem]) rfl ⟨rfl, q⟩

theorem size_ofL (l : List UInt8) : (⟨l.toArray⟩ : ByteArray).size = l.length := by show l.toArray.size = _; simp
theorem packN_succ (l0 : List UInt8) (L : Ly) (vs : List Int) (nb : List Bool) (k : Nat) : packN l0 L vs nb (k + 1) = if 0 ≤ L.nws.getD k 0 then setB (putF (packN l0 L vs nb k) (plL (L.sgs.getD k dflt)) (vs.getD k 0)) (L.nws.getD k 0).toNat (nb.getD k false) else putF (packN l0 L vs nb k) (plL (L.sgs.getD k dflt)) (vs.getD k 0) := rfl

/-- What Pack answers where it may. -/
def PackV (L : Ly) (vs : List Int) (nb : List Bool) (fill : UInt8) (e : Ending) : Prop :=
  fitAll L vs ∧ e = .returned (.tuple #[.string ⟨(packF L vs nb fill).toArray⟩, .int .i64 0]) ∨ ¬ fitAll L vs ∧ e = .returned (.tuple #[.string ⟨#[]⟩, .int .i64 32])

set_option maxRecDepth 100000 in
set_option maxHeartbeats 8000000 in
theorem pack_in0 (L : Ly) (A : Option Addr) (c : Nat) (B : Option Addr) (d : Nat) (vs : List Int) (nb : List Bool) (VA : Option Addr) (vc : Nat) (NA : Option Addr) (nc : Nat) (fill : UInt8) (w : World) (hA : SgR w w.heap.size A L.sgs) (hB : InR w w.heap.size B L.nws) (hs : L.sgs.length ≤ 1000) (hn : L.nws.length ≤ 1000) (hc : L.sgs.length ≤ c) (hd : L.nws.length ≤ d)
    (hV : InR w w.heap.size VA vs) (hN : BoR w w.heap.size NA nb) (hvs : ∀ v ∈ vs, -9223372036854775808 ≤ v ∧ v < 9223372036854775808) (hr : rightB L = true) (h1 : vs.length = L.sgs.length) (h2 : nb.length = L.sgs.length) :
    Calls Tryz.prog 35 #[.agg (lyV L A c B d), .slice VA vs.length vc, .slice NA nb.length nc, .int .u8 fill.toNat] w fun e w' => PackV L vs nb fill e ∧ Below w.heap.size w w' := by
  have q0 : Below w.heap.size w (w.alloc (.cells (lyV L A c B d) 27)) := (Below.refl _ _).alloc (Nat.le_refl _) _
  have B0 := hide (World.alloc_heap_new w (.cells (lyV L A c B d) 27))
  have RT := hide (fun (W : World) (hb : Below w.heap.size w W) => pduRight_any L A c B d W (Rd.next hA hb hb.size) (Rd.next hB hb hb.size) hs hn hc hd)
  rw [hr] at RT
  have HA := hide hA
  have HB := hide hB
  have HV := hide hV
  have HN := hide hN
  have HR := hide (right_iff.1 hr)
  have HVS := hide hvs
  have hz0 := HR.out.1
  have hz8 := HR.out.2.1
  have hl16 := HR.out.2.2.1
  have HNL := hide (HR.out.2.2.2.1)
  have H1 := hide h1
  have H2 := hide h2
  have RP := hide (fun W => show Calls Tryz.prog 72 #[.string ⟨#[fill]⟩, .int .i64 L.size] W fun e w' => e = .returned (.string ⟨(List.replicate L.size.toNat fill).toArray⟩) ∧ Below W.heap.size W w' from by
    obtain ⟨sz, hsz⟩ := Int.eq_ofNat_of_zero_le hz0
    rw [hsz]
    exact repeat_any fill sz W (by omega))
  clear hA hB hV hN hvs hr
  unfold lyV at *
  obtain ⟨c0, c1, c2⟩ := three_cells B0.out
  have Q0 := hide q0
  clear q0
  generalize hw0 : w.alloc (.cells #[.int .i64 L.size, .slice A L.sgs.length c, .slice B L.nws.length d] 27) = w0 at *
  have e1 : ((vs.length : Int) == (L.sgs.length : Int)) = true := by rw [beq_iff_eq]; omega
  have e2 : ((vs.length : Int) != (L.sgs.length : Int)) = false := by simp [bne, e1]
  have e3 : ((nb.length : Int) == (L.sgs.length : Int)) = true := by rw [beq_iff_eq]; omega
  have e4 : ((nb.length : Int) != (L.sgs.length : Int)) = false := by simp [bne, e3]
  clear h1 h2
  go_enter Tryz.func35, Tryz.ntmps35
  go_wp2_with fail
  (with_reducible refine (RT.out _ Q0.out).mono ?_)
  rintro e5 w1 ⟨rfl, q1⟩
  have Q1 := hide (below_next Q0.out Q0.out.size q1)
  have B1 := hide (heap_below B0.out q1)
  clear q1 c0 c1 c2 hw0 RT
  obtain ⟨c0, c1, c2⟩ := three_cells B1.out
  have hcv : (convert 132 9 (.slice (some ⟨w1.heap.size, 0, none⟩) 1 1)).run Tryz.prog (w1.alloc (.cells #[.int .u8 fill.toNat] 5)) = .ok (.string ⟨#[fill]⟩) (w1.alloc (.cells #[.int .u8 fill.toNat] 5)) :=
    run_bytes_str _ _ _ _ Tryz.underlying132 Tryz.underlying5 Tryz.underlying9 w1.heap.size 1 1 [fill] rfl (fun i hi => by
      have : i = 0 := by simpa using hi
      subst this
      exact (by simp only [World.cell?, World.alloc_heap_new]; rfl))
  have q2 : Below w1.heap.size w1 (w1.alloc (.cells #[.int .u8 fill.toNat] 5)) := (Below.refl _ _).alloc (Nat.le_refl _) _
  have B2 := hide (heap_below B1.out q2)
  have Q2 := hide (below_next Q1.out Q1.out.size q2)
  obtain ⟨d0, d1, d2⟩ := three_cells B2.out
  go_wp2_with fail
  (with_reducible refine (RP.out _).mono ?_)
  rintro e6 w3 ⟨rfl, q3⟩
  have B3 := hide (heap_below B2.out q3)
  have Q3 := hide (below_next Q2.out Q2.out.size q3)
  clear q2 q3 c0 c1 c2 d0 d1 d2 B1 B2 Q1 Q2 hcv RP e1 e2 e3 e4
  obtain ⟨c0, c1, c2⟩ := three_cells B3.out
  have PK := hide (show packN (List.replicate L.size.toNat fill) L vs nb 0 = List.replicate L.size.toNat fill from rfl)
  have PF := hide (show packF L vs nb fill = packN (List.replicate L.size.toNat fill) L vs nb L.sgs.length from rfl)
  have LEN := hide (fun k => show (packN (List.replicate L.size.toNat fill) L vs nb k).length = L.size.toNat by rw [packN_length, List.length_replicate])
  obtain ⟨l0, hl0⟩ : ∃ l0, l0 = List.replicate L.size.toNat fill := ⟨_, rfl⟩
  rw [← hl0] at PK PF LEN ⊢
  clear hl0
  go_wp2_with fail
  clear c0 c1 c2
  go_loopw [10, 43] (fun vo vi W => ∃ k : Nat, k ≤ L.sgs.length ∧ vi = .int .i64 k ∧ vo = .string ⟨(packN l0 L vs nb k).toArray⟩ ∧ Hid (∀ j < k, fitsB (L.sgs.getD j dflt) (vs.getD j 0) = true) ∧ Hid (W.heap[w.heap.size]? = some (.cells #[.int .i64 L.size, .slice A L.sgs.length c, .slice B L.nws.length d] 27 (0, 0))) ∧ Hid (Below w.heap.size w W)) (fun _ vi _ => L.sgs.length - (intOf vi).toNat)
  case atStart => exact ⟨0, Nat.zero_le _, rfl, by rw [PK.out], hide (fun j hj => absurd hj (Nat.not_lt_zero _)), B3, Q3⟩
  case round =>
    obtain ⟨k, hk, rfl, rfl, hF, hB, hQ⟩ := hrel
    clear B3 Q3 PK
    by_cases hlt : k < L.sgs.length
    · have hkn : k < L.nws.length := by rw [HNL.out]; exact hlt
      have hkv : k < vs.length := by rw [H1.out]; exact hlt
      have hkb : k < nb.length := by rw [H2.out]; exact hlt
      have HRT := HR.out.2.2.2.2.1 _ (List.getElem_mem hlt)
      have HWL := right_well HRT
      have hnb := HR.out.2.2.2.2.2.1 _ (List.getElem_mem hkn)
      have hvb := HVS.out _ (List.getElem_mem hkv)
      have gs : L.sgs.getD k dflt = L.sgs[k] := by simp [List.getD_eq_getElem?_getD, hlt]
      have gv : vs.getD k 0 = vs[k] := by simp [List.getD_eq_getElem?_getD, hkv]
      have gn : L.nws.getD k 0 = L.nws[k] := by simp [List.getD_eq_getElem?_getD, hkn]
      have gb : nb.getD k false = nb[k] := by simp [List.getD_eq_getElem?_getD, hkb]
      have ST := packN_succ l0 L vs nb k
      have hml := LEN.out k
      have HFIT := hide (fun (hf : fitsB L.sgs[k] vs[k] = true) => show ∀ j < k + 1, fitsB (L.sgs.getD j dflt) (vs.getD j 0) = true from fun j hj => by
        by_cases e : j = k
        · subst e; rw [gs, gv]; exact hf
        · exact hF.out j (by omega))
      have HMIS := hide (fun (hf : fitsB L.sgs[k] vs[k] = false) => show PackV L vs nb fill (.returned (.tuple #[.string ⟨#[]⟩, .int .i64 32])) from .inr ⟨fun ha => (by have := ha k hlt; rw [gs, gv, hf] at this; cases this), rfl⟩)
      rw [gs, gv, gn, gb] at ST
      obtain ⟨ab, ao, rfl, hab, s0, s1, s2, s3⟩ := SgR.at_ (Rd.below HA.out hQ.out) hlt
      obtain ⟨vb, vo, rfl, hvb2, v0⟩ := InR.at_ (Rd.below HV.out hQ.out) hkv
      obtain ⟨nbk, no, rfl, hnb2, n0⟩ := InR.at_ (Rd.below HB.out hQ.out) hkn
      obtain ⟨bb, bo, rfl, hbb2, b0⟩ := BoR.at_ (Rd.below HN.out hQ.out) hkb
      have hki : (k : Int) < (L.sgs.length : Int) := by omega
      have hkvi : (k : Int) < (vs.length : Int) := by omega
      have hkni : (k : Int) < (L.nws.length : Int) := by omega
      have hkbi : (k : Int) < (nb.length : Int) := by omega
      have zW : w.heap.size < wr.heap.size := heap_lt hB.out
      clear gs gv gn gb hF LEN PF
      have STN := hide ST
      clear ST
      obtain ⟨m2, hm2⟩ : ∃ m2, m2 = packN l0 L vs nb (k + 1) := ⟨_, rfl⟩
      rw [← hm2] at STN
      have HM2 := hide hm2
      clear hm2
      generalize packN l0 L vs nb k = m at *
      generalize L.sgs[k] = S at *
      generalize vs[k] = v at *
      generalize L.nws[k] = nw at *
      generalize nb[k] = bk at *
      clear hkn hkv hkb
      have LEN2 := fun (m : List UInt8) (ps : List Nat) (v : Int) => putF_length m ps v
      have hms : ((⟨m.toArray⟩ : ByteArray).size : Int) = L.size := by
        rw [size_ofL, hml]; omega
      have th := hide (show (wr.alloc (.cells #[.int .i64 0, .int .i64 0, .bool false, .bool false] 23)).there wr.heap.size 0 4 from there_heap (cs := [_, _, _, _]) (World.alloc_heap_new wr _))
      go_wp2_with (refine wpList_store_hid (by rfl) 23 (.tmp 12) (.tmp 47) (by rfl) wr.heap.size 0 [.int .i64 S.start, .int .i64 S.width, .bool S.big, .bool S.sgn] (by rfl) (by rfl) (by exact th.out) (by kernel_rfl) (by simp [Value.oneCell']) ?_)
      intro w2 e2
      have bs := hide (show w2.heap[wr.heap.size]? = some (.cells #[.int .i64 S.start, .int .i64 S.width, .bool S.big, .bool S.sgn] 23 (0, 0)) by rw [e2.out]; exact whole_heap [.int .i64 S.start, .int .i64 S.width, .bool S.big, .bool S.sgn] (xs := [_, _, _, _]) (World.alloc_heap_new wr _) rfl)
      have qb : Below wr.heap.size wr w2 := by
        rw [e2.out]
        exact ((Below.refl _ _).alloc (Nat.le_refl _) _).trans (below_setCells (g := wr.heap.size) _ 0 _ (Nat.le_refl _))
      have B2 := hide (heap_below hB.out qb)
      have Q2 := hide (below_next hQ.out hQ.out.size qb)
      have v1 := hide (cellBelow qb (by omega : vb < wr.heap.size) v0)
      have n1 := hide (cellBelow qb (by omega : nbk < wr.heap.size) n0)
      have b1 := hide (cellBelow qb (by omega : bb < wr.heap.size) b0)
      have z2 : wr.heap.size < w2.heap.size := heap_lt bs.out
      clear th e2 qb hB hQ s0 s1 s2 s3 v0 n0 b0
      obtain ⟨x0, x1, x2, x3⟩ := sg_cells bs.out
      have y1 := v1.out
      generalize wr.heap.size = sb at *
      have m0 := fun s : InW w2 => s.cell z2 x0
      have m1 := fun s : InW w2 => s.cell z2 x1
      have m2' := fun s : InW w2 => s.cell z2 x2
      have m3 := fun s : InW w2 => s.cell z2 x3
      have m4 := fun s : InW w2 => s.cell (by omega : vb < w2.heap.size) y1
      clear x0 x1 x2 x3 y1
      rcases hfb : fitsB S v with _ | _
      · have PT := hide (fun W => put_range ⟨m.toArray⟩ S v W (by omega) hvb.1 hvb.2 (by rw [hms]; exact HWL) hfb)
        have MIS := hide (HMIS.out hfb)
        clear HMIS HFIT
        go_wp2_with fail
        refine wp_region_tame (by kernel_rfl) (by kernel_rfl) ?_
        repeat (go_big_quiet_step ((go_at_call 73; exact tame_of (PT.out _))))
        refine wpQuiet_nil ?_
        rintro _ ⟨sw, rfl⟩
        have Q3 := hide (below_next Q2.out Q2.out.size sw.h)
        clear m0 m1 m2' m3 m4
        go_wp2_with fail
        refine bodyPost_ret (v := .tuple #[.string ⟨#[]⟩, .int .i64 32]) (by simp [results, Tryz.results35, go_sem]) rfl ⟨MIS.out, Q3.out⟩
      · have hpm := LEN2 m (plL S) v
        have PT := hide (fun W => show Calls Tryz.prog 73 #[.string ⟨m.toArray⟩, .agg #[.int .i64 S.start, .int .i64 S.width, .bool S.big, .bool S.sgn], .int .i64 v] W fun e w' => e = .returned (.tuple #[.string ⟨(putF m (plL S) v).toArray⟩, .int .i64 0]) ∧ Below W.heap.size W w' from put_ok ⟨m.toArray⟩ S v W (by omega) hvb.1 hvb.2 (by rw [hms]; exact HWL) hfb)
        have FIT := hide (HFIT.out hfb)
        clear HMIS HFIT HWL HRT hvb hfb
        generalize putF m (plL S) v = m3x at *
        go_wp2_with fail
        refine wp_region_tame (by kernel_rfl) (by kernel_rfl) ?_
        repeat (go_big_quiet_step ((go_at_call 73; exact tame_of (PT.out _))))
        refine wpQuiet_nil ?_
        rintro _ ⟨sw, rfl⟩
        have Q3 := hide (below_next Q2.out Q2.out.size sw.h)
        have B3 := hide (heap_below B2.out sw.h)
        have n2 := hide (cellBelow sw.h (by omega : nbk < w2.heap.size) n1.out)
        have b2 := hide (cellBelow sw.h (by omega : bb < w2.heap.size) b1.out)
        have zS : w.heap.size < sw.W.heap.size := heap_lt B3.out
        clear m0 m1 m2' m3 m4 PT
        generalize sw.W = w4 at *
        obtain ⟨c0, c1, c2⟩ := three_cells B3.out
        have n3 := n2.out
        by_cases h0 : 0 ≤ nw
        · obtain ⟨p, rfl⟩ := Int.eq_ofNat_of_zero_le h0
          have MK := hide (fun W => show Calls Tryz.prog 74 #[.string ⟨m3x.toArray⟩, .int .i64 p, .bool bk] W fun e w' => e = .returned (.string ⟨(setB m3x p bk).toArray⟩) ∧ Below W.heap.size W w' from mark_any ⟨m3x.toArray⟩ p bk W (by rw [size_ofL, hpm]; omega) (by rw [size_ofL, hpm]; omega))
          have EM := hide (show setB m3x p bk = m2 by rw [STN.out, if_pos h0]; rfl)
          rw [EM.out] at MK
          clear EM STN
          go_wp2_with fail
          have k0 := fun s : InW w4 => s.cell (by omega : w.heap.size < w4.heap.size) c2
          have k1 := fun s : InW w4 => s.cell (by omega : nbk < w4.heap.size) n3
          have k2 := fun s : InW w4 => s.cell (by omega : bb < w4.heap.size) b2.out
          clear c0 c1 c2 n3
          refine wp_region_tame (by kernel_rfl) (by kernel_rfl) ?_
          repeat (go_big_quiet_step ((go_at_call 74; exact tame_of (MK.out _))))
          refine wpQuiet_nil ?_
          rintro _ ⟨s2, rfl⟩
          have Q4 := hide (below_next Q3.out Q3.out.size s2.h)
          have B4 := hide (heap_below B3.out s2.h)
          clear k0 k1 k2
          go_wp2_with fail
          go_roundw
          case rel => exact ⟨k + 1, by omega, by go_num, by rw [HM2.out], FIT, B4, Q4⟩
          case measure => simp [intOf]; omega
        · have EM := hide (show m3x = m2 by rw [STN.out, if_neg h0])
          clear STN
          go_wp2_with fail
          go_roundw
          case rel => exact ⟨k + 1, by omega, by go_num, by rw [EM.out, HM2.out], FIT, B3, Q3⟩
          case measure => simp [intOf]; omega
    · obtain rfl : k = L.sgs.length := by omega
      have FIN := hide (show PackV L vs nb fill (.returned (.tuple #[.string ⟨(packN l0 L vs nb L.sgs.length).toArray⟩, .int .i64 0])) from .inl ⟨hF.out, by rw [PF.out]⟩)
      clear hF PF LEN
      go_wp2_with fail
      refine bodyPost_ret (v := .tuple #[.string ⟨(packN l0 L vs nb L.sgs.length).toArray⟩, .int .i64 0]) (by simp [results, Tryz.results35, go_sem]) rfl ⟨FIN.out, hQ.out⟩
theorem pack_in (L : Ly) (A : Option Addr) (c : Nat) (B : Option Addr) (d : Nat) (vs : List Int) (nb : List Bool) (VA : Option Addr) (vc : Nat) (NA : Option Addr) (nc : Nat) (fill : UInt8) (w : World) (hA : SgR w w.heap.size A L.sgs) (hB : InR w w.heap.size B L.nws) (hs : L.sgs.length ≤ 1000) (hn : L.nws.length ≤ 1000) (hc : L.sgs.length ≤ c) (hd : L.nws.length ≤ d)
    (hV : InR w w.heap.size VA vs) (hN : BoR w w.heap.size NA nb) (hvs : ∀ v ∈ vs, -9223372036854775808 ≤ v ∧ v < 9223372036854775808) (hr : rightB L = true) (h1 : vs.length = L.sgs.length) (h2 : nb.length = L.sgs.length) (hvc : vs.length ≤ vc) (hnc : nb.length ≤ nc) :
    Calls Tryz.prog 35 #[.agg (lyV L A c B d), .slice VA vs.length vc, .slice NA nb.length nc, .int .u8 fill.toNat] w fun e w' => PackV L vs nb fill e ∧ Below w.heap.size w w' :=
  pack_in0 L A c B d vs nb VA vc NA nc fill w hA hB hs hn hc hd hV hN hvs hr h1 h2
end Go.Proofs.YtnhegnneohpkaaaGreat
