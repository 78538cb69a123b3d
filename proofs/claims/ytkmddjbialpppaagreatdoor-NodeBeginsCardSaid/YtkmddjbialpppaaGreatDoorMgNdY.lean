import Derived.Test.YtkmddjbialpppaaGreatDoorMgNdV
import Derived.Test.YtkmddjbialpppaaGreatDoorNdH
import Derived.Test.YtkmddjbialpppaaGreatDoorNdE
import Derived.Test.YtkmddjbialpppaaGreatDoorMgCoJ
namespace Go.Proofs.YtkmddjbialpppaaGreatDoor
open Go.ChangeShapes Go.WideShapes Go.ChangeAt Go.RowKit
open CM PD SG ND
theorem fast_right (z y : Nat) : cF (iO z y) = true := by kernel_rfl
namespace ND
def aNd (z y : Nat) (os : List Ou) (oA : Option Addr) (oc : Nat) (iA : Option Addr) (ic : Nat) : Nd := eD (iO z y) 0 os oA oc [] iA ic ((slpT 1).go 3) 1
def aNd1 (z y : Nat) (os : List Ou) (oA : Option Addr) (oc : Nat) (iA : Option Addr) (ic : Nat) : Nd := { aNd z y os oA oc iA ic with pn := (aNd z y os oA oc iA ic).pn.want 0 true, nm := (aNd z y os oA oc iA ic).nm.want (((aNd z y os oA oc iA ic).pn.want 0 true).own != 0) }
end ND
theorem aNd_told (z y : Nat) (os : List Ou) (oA : Option Addr) (oc : Nat) (iA : Option Addr) (ic : Nat) : dC (aNd z y os oA oc iA ic) (aNd1 z y os oA oc iA ic).rise0 = [⟨4, 0, 3⟩, ⟨4, 1, 1⟩] := by kernel_rfl
theorem aNd_ok {z y : Nat} {os : List Ou} {oA : Option Addr} {oc : Nat} {iA : Option Addr} {ic : Nat} {W : World} (h : (aNd z y os oA oc iA ic).Ok W) : ((aNd1 z y os oA oc iA ic).rise0).Ok W :=
  ⟨h.cf, h.outs, Rd.nil, h.o, fun i hi => by (cases hi), h.no, Nat.zero_le _, ⟨Rd.nil, newFi8_okp.cl, newFi8_okp.id, newFi8_okp.rt, newFi8_okp.hs, newFi8_okp.st, newFi8_okp.lt, fun e => by (cases e)⟩⟩
theorem aNd_rt {z y : Nat} {os : List Ou} {oA : Option Addr} {oc : Nat} {iA : Option Addr} {ic : Nat} (h : (aNd z y os oA oc iA ic).Rt) : ((aNd1 z y os oA oc iA ic).rise0).Rt :=
  ⟨h.cf, h.shape, h.now, h.outs, fun i hi => absurd hi (Nat.not_lt_zero _), zCl_ok, by kernel_rfl, ⟨⟨by show (1 : Int) ≤ 5; decide, by show (5 : Int) ≤ 1000000; decide⟩, by kernel_rfl, fun k _ => ⟨Int.le_refl _, by show (0 : Int) ≤ 5; decide⟩⟩, by kernel_rfl, by kernel_rfl, ⟨by kernel_rfl, by kernel_rfl, by kernel_rfl, by kernel_rfl⟩, ⟨rfl, rfl, rfl⟩, by kernel_rfl, by kernel_rfl, by kernel_rfl, by kernel_rfl⟩
set_option maxRecDepth 100000 in
set_option maxHeartbeats 16000000 in
theorem alive28 (w : World) :
    Calls Tryz.prog 9 #[] w fun e w' => e = .returned (.bool true) ∧ Below w.heap.size w w' := by
  have FA := aA fast28
  have SL := aA (fun W => sleeper28 1 (by decide) W)
  have Q := aA (Below.refl w.heap.size w)
  go_enter Tryz.func9, Tryz.ntmps9
  go_wp2_with fail
  (with_reducible refine (FA.out _).mono ?_)
  rintro e1 w1 ⟨z, y, rfl, hok, q1⟩
  replace Q := aA (aC Q.out Q.out.size q1)
  have HO1 := aA hok
  clear FA hok q1
  go_wp2_with fail
  (with_reducible refine (SL.out _).mono ?_)
  rintro e2 w2 ⟨rfl, q2⟩
  have HO2 := aA (HO1.out.next q2)
  replace Q := aA (aC Q.out Q.out.size q2)
  clear SL q2 HO1
  have NE := aA (ndNew_in (iO z y) 0 (slpT 1) 1 w2 HO2.out (fast_right z y) (Int.le_refl _) (by show (0 : Int) < 2; decide) (by decide))
  go_wp2_with fail
  (with_reducible refine (NE.out).mono ?_)
  rintro e3 w3 ⟨⟨E, hE⟩, q3⟩
  rcases hE with ⟨ht, _, _⟩ | ⟨_, rfl, os, oA, oc, is, iA, ic, rfl, hok, hrt, _, _⟩
  · exact absurd ht (by decide)
  have his : is = [] := by
    have h1 := (Nd.shape_iff.1 hrt.shape).2.2
    have h2 : (eD (iO z y) 0 os oA oc is iA ic ((slpT 1).go 3) 1).hears.length = 0 := by kernel_rfl
    rw [h2] at h1
    exact List.length_eq_zero_iff.1 h1
  subst his
  replace Q := aA (aC Q.out Q.out.size q3)
  have HOK := aA (show (aNd z y os oA oc iA ic).Ok w3 from hok)
  have HRT := aA (show (aNd z y os oA oc iA ic).Rt from hrt)
  clear NE HO2 hok hrt q3
  have zw := Q.out.size
  have BX := World.alloc_heap_new w3 (.cells zNd.cs.toArray 53)
  have qx : Below w3.heap.size w3 (w3.alloc (.cells zNd.cs.toArray 53)) := (Below.refl _ _).alloc (Nat.le_refl _) _
  have TH := aA (show World.there (w3.alloc (.cells zNd.cs.toArray 53)) w3.heap.size 0 91 from aK (cs := zNd.cs) BX)
  go_wp2_with (refine aF (by rfl) 53 (.tmp 1) (.tmp 9) (by rfl) w3.heap.size 0 (aNd z y os oA oc iA ic).cs (by rfl) (by rfl) (by exact TH.out) (by kernel_rfl) (by exact dB _) ?_)
  intro w4 e4
  have B := aA (show w4.heap[w3.heap.size]? = some (.cells (aNd z y os oA oc iA ic).cs.toArray 53 (0, 0)) by rw [e4.out]; exact aJ (aNd z y os oA oc iA ic).cs (xs := zNd.cs) BX rfl)
  have q4 : Below w3.heap.size w3 w4 := by rw [e4.out]; exact qx.trans (aE _ _ _ (Nat.le_refl _))
  have HO4 := aA (HOK.out.next q4)
  replace Q := aA (aC Q.out Q.out.size q4)
  have QX := aA q4
  clear e4 TH BX qx q4
  have WA := ndWant_q (aNd z y os oA oc iA ic) (aNd1 z y os oA oc iA ic) (aNd1 z y os oA oc iA ic).rise0 0 true w4 HO4.out HRT.out.shape (by decide) (by kernel_rfl) HRT.out.pn HRT.out.nm HRT.out.tv HRT.out.sm rfl (.inl ⟨by kernel_rfl, by kernel_rfl, rfl, rfl⟩) (.inr (.inr (.inr rfl)))
  rw [aNd_told] at WA
  change Calls _ _ #[.agg (aNd z y os oA oc iA ic).cs.toArray, .int .i64 0, .bool true] _ _ at WA
  have HOR := aA (fun W (q : Below w3.heap.size w3 W) => j0 _ W (aNd_ok (HOK.out.next q)) (aNd_rt HRT.out))
  clear HO4 HRT HOK
  obtain ⟨n2, hn2⟩ : ∃ n2, n2 = (aNd1 z y os oA oc iA ic).rise0 := ⟨_, rfl⟩
  rw [← hn2] at WA HOR
  replace WA := aA WA
  clear hn2
  have zx4 : w3.heap.size < w4.heap.size := aH B.out
  generalize w3.heap.size = x at *
  go_wp2_with (refine wpList_load_row rfl 53 (.tmp 1) (by rfl) x (by rfl) 53 (aNd z y os oA oc iA ic).cs.toArray (0, 0) _ (by exact B.out) Tryz.underlying53 (by rfl) (by kernel_rfl) ?_)
  (with_reducible refine (WA.out).mono ?_)
  rintro e5 w5 ⟨A, c, rfl, rd, fr, q5⟩
  replace B := aA (aB B.out q5)
  replace Q := aA (aC Q.out Q.out.size q5)
  clear WA
  replace QX := aA (aC QX.out (Nat.le_of_lt zx4) q5)
  have FR := aA fr
  have RD := aA rd
  have TX := aA (show World.there w5 x 0 91 from aK (cs := (aNd z y os oA oc iA ic).cs) B.out)
  have zx5 : x < w5.heap.size := aH B.out
  clear rd fr q5
  go_wp2_with (refine aF (by rfl) 53 (.tmp 1) (.tmp 14) (by rfl) x 0 n2.cs (by rfl) (by rfl) (by exact TX.out) (by kernel_rfl) (by exact dB _) ?_)
  intro w6 e6
  have B6 := aA (show w6.heap[x]? = some (.cells n2.cs.toArray 53 (0, 0)) by rw [e6.out]; exact aJ n2.cs (xs := (aNd z y os oA oc iA ic).cs) B.out rfl)
  have Q6 := aA (show Below w.heap.size w w6 by rw [e6.out]; exact Q.out.trans (aE _ _ _ zw))
  have QX6 := aA (show Below x w3 w6 by rw [e6.out]; exact QX.out.trans (aE _ _ _ (Nat.le_refl _)))
  have RD6 := aA (show Rd w6 w6.heap.size A 3 [[.int .i64 4, .int .i64 0, .int .i64 3], [.int .i64 4, .int .i64 1, .int .i64 1]] by rw [e6.out]; exact jD (fun g off h => by have := FR.out g off h; omega) _ _ _ RD.out)
  have RR := aA (HOR.out w6 QX6.out)
  clear e6 TX B Q QX RD HOR FR QX6
  obtain ⟨g, off, rfl, hg, rc⟩ := RD6.out (by decide)
  have m0 : w6.cell? ⟨g, off + 2, none⟩ = some (.int .i64 3) := by simpa using rc 0 _ 2 _ rfl rfl
  have m1 : w6.cell? ⟨g, off + 3 + 2, none⟩ = some (.int .i64 1) := by simpa using rc 1 _ 2 _ rfl rfl
  clear rc RD6
  go_wp2_with (refine bU (by kernel_rfl) 53 (.tmp 1) (by rfl) x (by rfl) 53 n2.cs.toArray (0, 0) _ (by exact B6.out) Tryz.underlying53 (by rfl) (by kernel_rfl) ?_)
  (with_reducible refine (RR.out).mono ?_)
  rintro e7 w7 ⟨rfl, q7⟩
  have Q7 := aA (aC Q6.out Q6.out.size q7)
  clear RR q7 B6 Q6 m0 m1
  go_wp2_with fail
  go_ret
  exact ⟨rfl, Q7.out⟩
end Go.Proofs.YtkmddjbialpppaaGreatDoor
namespace Go.Proofs.YtkmddjbialpppaaGreatDoor
open Go.ChangeShapes Go.WideShapes Go.ChangeAt Go.RowKit
open CM PD SG ND
open FP (Fr)
set_option maxRecDepth 100000 in
set_option maxHeartbeats 16000000 in
theorem ndDrive_down (n : Nd) (w : World) (ho : n.Ok w) (h : n.shape = true) (hd : n.up = false ∨ n.sm.st ≠ 1) :
    Calls Tryz.prog 15 #[.agg n.cs.toArray] w fun e w' => e = .returned (.tuple #[.int .u8 49, .int .i64 0]) ∧ Below w.heap.size w w' := by
  obtain ⟨w0, hw0⟩ : ∃ w0, w0 = w.alloc (.cells n.cs.toArray 53) := ⟨_, rfl⟩
  have B := aA (World.alloc_heap_new w (.cells n.cs.toArray 53))
  have Q : Hid (Below w.heap.size w w0) := by rw [hw0]; exact aA ((Below.refl w.heap.size w).alloc (Nat.le_refl _) (.cells n.cs.toArray 53))
  rw [← hw0] at B
  have SH := aA (show Calls Tryz.prog 34 #[.agg n.cs.toArray] w0 fun e w' => e = .returned (.bool true) ∧ Below w0.heap.size w0 w' from by
    have k := gK n w0 (ho.next Q.out)
    rwa [h] at k)
  have UP := fun W => eR n W
  obtain ⟨u, hu⟩ : ∃ u, u = n.up := ⟨_, rfl⟩
  rw [← hu] at hd
  rw [← hu] at UP
  replace UP := aA UP
  have HD := aA hd
  clear ho h hu hd
  go_enter Tryz.func15, Tryz.ntmps15
  go_upto_region 1 with fail
  change Code.wp _ _ _ _ (w.alloc (.cells n.cs.toArray 53))
  rw [← hw0]
  clear hw0
  go_wp2_with (refine wpList_load_row rfl 53 (.tmp 1) (by rfl) w.heap.size (by rfl) 53 n.cs.toArray (0, 0) _ (by exact B.out) Tryz.underlying53 (by rfl) (by kernel_rfl) ?_)
  (with_reducible refine (SH.out).mono ?_)
  rintro ew1' w1' ⟨rfl, qw1'⟩
  replace B := aA (aB B.out qw1')
  replace Q := aA (aC Q.out Q.out.size qw1')
  clear qw1'
  clear SH
  go_wp2_with (refine wpList_load_row rfl 53 (.tmp 1) (by rfl) w.heap.size (by rfl) 53 n.cs.toArray (0, 0) _ (by exact B.out) Tryz.underlying53 (by rfl) (by kernel_rfl) ?_)
  (with_reducible refine (UP.out w1').mono ?_)
  rintro ew2' w2' ⟨rfl, qw2'⟩
  replace B := aA (aB B.out qw2')
  replace Q := aA (aC Q.out Q.out.size qw2')
  clear qw2'
  clear UP
  have c83 := aZ B.out 83 (v := .int .i64 n.sm.st) rfl
  cases u
  ·
    go_wp2_with fail
    go_ret2
    exact ⟨rfl, Q.out⟩
  ·
    have hs : (n.sm.st != 1) = true := by
      rcases HD.out with h | h
      · cases h
      · simpa using h
    go_wp2_with fail
    go_ret2
    exact ⟨rfl, Q.out⟩
set_option maxRecDepth 100000 in
set_option maxHeartbeats 16000000 in
theorem ndFrame_ok (n : Nd) (w : World) (hp : n.pn.Rt) (hb : 0 ≤ n.cf.base ∧ n.cf.base ≤ 2048) (hi : 0 ≤ n.id ∧ n.id ≤ 3) :
    Calls Tryz.prog 16 #[.agg n.cs.toArray] w fun e w' => e = .returned (.agg ([.int .u32 (n.cf.base + n.id), .bool false, .bool false, .int .i64 2, .string (kC n.pn.own)] : List Value).toArray) ∧ Below w.heap.size w w' := by
  obtain ⟨w0, hw0⟩ : ∃ w0, w0 = (w.alloc (.cells n.cs.toArray 53)).alloc (.cells (frc ⟨0, false, false, 0, ⟨#[]⟩⟩).toArray 35) := ⟨_, rfl⟩
  have B := aA (aB (World.alloc_heap_new w (.cells n.cs.toArray 53)) ((Below.refl _ (w.alloc (.cells n.cs.toArray 53))).alloc (Nat.le_refl _) (.cells (frc ⟨0, false, false, 0, ⟨#[]⟩⟩).toArray 35)))
  have R := aA (World.alloc_heap_new (w.alloc (.cells n.cs.toArray 53)) (.cells (frc ⟨0, false, false, 0, ⟨#[]⟩⟩).toArray 35))
  have Q : Hid (Below w.heap.size w w0) := by rw [hw0]; exact aA (((Below.refl w.heap.size w).alloc (Nat.le_refl _) (.cells n.cs.toArray 53)).alloc (by simp; try omega) (.cells (frc ⟨0, false, false, 0, ⟨#[]⟩⟩).toArray 35))
  rw [← hw0] at B R
  simp only [World.size_alloc] at R
  have TE := aA (fun W => pnTell_ok n.pn W hp)
  obtain ⟨hb1, hb2⟩ := hb
  obtain ⟨hi1, hi2⟩ := hi
  have hsz : (kC n.pn.own).size = 2 := rfl
  clear hp
  go_enter Tryz.func16, Tryz.ntmps16
  go_upto_region 1 with fail
  change Code.wp _ _ _ _ ((w.alloc (.cells n.cs.toArray 53)).alloc (.cells (frc ⟨0, false, false, 0, ⟨#[]⟩⟩).toArray 35))
  rw [← hw0]
  clear hw0
  go_wp2_with (refine wpList_load_mid rfl 47 (.tmp 6) (by rfl) w.heap.size 54 (by rfl) (bO n.pn) _ (by exact aL B.out 54 rfl) Tryz.underlying47 (by rfl) (by kernel_rfl) ?_)
  (with_reducible refine (TE.out w0).mono ?_)
  rintro ew1' w1' ⟨rfl, qw1'⟩
  replace B := aA (aB B.out qw1')
  replace R := aA (aB R.out qw1')
  replace Q := aA (aC Q.out Q.out.size qw1')
  clear qw1'
  clear TE
  have c2 := aZ B.out 2 (v := .int .u32 n.cf.base) rfl
  have c8 := aZ B.out 8 (v := .int .i64 n.id) rfl
  have Tw2' := aA (show World.there _ (w.heap.size + 1) 0 5 from aK (cs := frc ⟨0, false, false, 0, ⟨#[]⟩⟩) R.out)
  go_wp2_with (refine aF (by rfl) 35 (.tmp 2) (.tmp 21) (by rfl) (w.heap.size + 1) 0 (([.int .u32 (n.cf.base + n.id), .bool false, .bool false, .int .i64 2, .string (kC n.pn.own)] : List Value)) (by rfl) (by rfl) (by exact Tw2'.out) (by kernel_rfl) (by simp [Value.oneCell', frc]) ?_)
  intro w2' ew2'
  replace B := aA (show w2'.heap[w.heap.size]? = some (.cells n.cs.toArray 53 (0, 0)) by rw [ew2'.out]; exact aG (by omega) _ _ _ B.out)
  replace Q := aA (show Below w.heap.size w w2' by rw [ew2'.out]; exact Q.out.trans (aE _ _ _ (by have := Q.out.size; omega)))
  replace R := aA (show w2'.heap[w.heap.size + 1]? = some (.cells (([.int .u32 (n.cf.base + n.id), .bool false, .bool false, .int .i64 2, .string (kC n.pn.own)] : List Value)).toArray 35 (0, 0)) by rw [ew2'.out]; exact aJ (([.int .u32 (n.cf.base + n.id), .bool false, .bool false, .int .i64 2, .string (kC n.pn.own)] : List Value)) (xs := frc ⟨0, false, false, 0, ⟨#[]⟩⟩) R.out rfl)
  clear ew2' Tw2'
  go_wp2_with fail
  refine bodyPost_ret (results_cell_row (p := 2) (ty := 35) (by rfl) _ w2' (w.heap.size + 1) 35 ([.int .u32 (n.cf.base + n.id), .bool false, .bool false, .int .i64 2, .string (kC n.pn.own)] : List Value).toArray (0, 0) _ (by rfl) R.out Tryz.underlying35 (by rfl) (by kernel_rfl)) rfl ⟨rfl, Q.out⟩
end Go.Proofs.YtkmddjbialpppaaGreatDoor
namespace Go.Proofs.YtkmddjbialpppaaGreatDoor
open Go.ChangeShapes Go.WideShapes Go.ChangeAt Go.RowKit
open ND
theorem mdB_iff {m : Int} : mdB m = true ↔ 1 ≤ m ∧ m ≤ 3 := by
  unfold mdB
  simp only [Bool.or_eq_true, beq_iff_eq]
  omega
set_option maxRecDepth 100000 in
set_option maxHeartbeats 16000000 in
theorem refWoken_any (n : Tv) (w : World) : Calls Tryz.prog 33 #[.agg (bD n).toArray] w fun e w' => e = .returned (.bool n.woken) ∧ Below w.heap.size w w' := by
  obtain ⟨w0, hw0⟩ : ∃ w0, w0 = w.alloc (.cells (bD n).toArray 27) := ⟨_, rfl⟩
  have B := aA (World.alloc_heap_new w (.cells (bD n).toArray 27))
  have Q : Hid (Below w.heap.size w w0) := by rw [hw0]; exact aA ((Below.refl _ _).alloc (Nat.le_refl _) _)
  rw [← hw0] at B
  unfold Tv.woken
  obtain ⟨sel, id, mask, ext, dlc, data, lim, mode, errs, bus, frm, loc, ovr⟩ := n
  obtain ⟨_, _, _, _, _, _, _, _, _, c9, c10, c11, c12⟩ := dI B.out
  dsimp only at c9 c10 c11 c12 ⊢
  clear B
  go_enter Tryz.func33, Tryz.ntmps33
  go_upto_region 1 with fail
  change Code.wp _ _ _ _ (w.alloc (.cells (bD ⟨sel, id, mask, ext, dlc, data, lim, mode, errs, bus, frm, loc, ovr⟩).toArray 27))
  rw [← hw0]
  clear hw0
  cases bus <;> cases frm <;> cases loc <;> cases ovr
  all_goals go_wp2_with fail
  all_goals go_ret
  all_goals exact ⟨rfl, Q.out⟩
end Go.Proofs.YtkmddjbialpppaaGreatDoor
