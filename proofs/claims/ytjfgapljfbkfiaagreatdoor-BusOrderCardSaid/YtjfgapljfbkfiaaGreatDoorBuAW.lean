/- The walk of campanilelaw08.BusAlone. -/
import Derived.Test.YtjfgapljfbkfiaaGreatDoorBuC
import Derived.Test.YtjfgapljfbkfiaaGreatDoorMgRfP
import Derived.Test.YtjfgapljfbkfiaaGreatDoorMgFrB
namespace Go.Proofs.YtjfgapljfbkfiaaGreatDoor
open Go.ChangeShapes Go.WideShapes Go.ChangeAt Go.RowKit
open FP (Fr bitsF bodyF)

theorem sn_mem {s : List Sn} {k : Nat} (hk : k < s.length) {P : Sn → Prop} (h : ∀ y ∈ s, P y) : P s[k] := h _ (List.getElem_mem hk)
theorem sn_box {W : World} {x : Nat} {y : Sn} {t : TypeId} {fz : Nat × Nat} (h : W.heap[x]? = some (.cells (sncs y).toArray t fz)) :
    W.cell? ⟨x, 0, none⟩ = some (.int .i64 y.at_) ∧ W.cell? ⟨x, 1, none⟩ = some (.int .i64 y.who) ∧ W.cell? ⟨x, 2, none⟩ = some (.int .i64 y.kind) ∧ W.cell? ⟨x, 8, none⟩ = some (.int .i64 y.bad) := by
  simp [World.cell?, h, sncs, evL]
theorem sentN_take (s : List Sn) {k : Nat} (hk : k < s.length) : sentN (s.take (k + 1)) = sentN (s.take k) + if s[k].kind = 1 then 1 else 0 := by
  rw [List.take_succ_eq_append_getElem hk, sentN_app]
  unfold sentN
  by_cases h : s[k].kind = 1
  · rw [if_pos h]; simp [h]
  · rw [if_neg h]; simp [h]
theorem sentN_le (s : List Sn) : sentN s ≤ s.length := by unfold sentN; exact List.length_filter_le _ _
def zSn : Sn := ⟨0, 0, 0, zFr, 0⟩

set_option maxRecDepth 100000 in
set_option maxHeartbeats 64000000 in
theorem busAlone_walk (f : Fr) (w : World) (hid : f.id < 4294967296) (hs : f.data.size ≤ maxLen) : Calls Tryz.prog 5 #[.agg (frc f).toArray] w fun e w' => e = .returned (.bool true) ∧ Below w.heap.size w w' := by
  obtain ⟨w0, hw0⟩ : ∃ w0, w0 = w.alloc (.cells (frc f).toArray 31) := ⟨_, rfl⟩
  have B0 := hide (World.alloc_heap_new w (.cells (frc f).toArray 31))
  have Q0 : Hid (Below w.heap.size w w0) := by rw [hw0]; exact hide ((Below.refl _ _).alloc (Nat.le_refl _) _)
  rw [← hw0] at B0
  have FW := hide (few08_any f w0 hs)
  clear hs
  go_enter Tryz.func5, Tryz.ntmps5
  go_upto_region 1 with fail
  change Code.wp _ _ _ _ (w.alloc (.cells (frc f).toArray 31))
  rw [← hw0]
  clear hw0
  go_wp2_with (refine wpList_load_row rfl 31 (.tmp 1) (by rfl) w.heap.size (by rfl) 31 (frc f).toArray (0, 0) _ (by exact B0.out) Tryz.underlying31 (by rfl) (by kernel_rfl) ?_)
  (with_reducible refine (FW.out).mono ?_)
  rintro e1 w1 ⟨rfl, q1⟩
  have B1 := hide (heap_below B0.out q1)
  have Q1 := hide (below_next Q0.out Q0.out.size q1)
  have TH := hide (show w1.there w.heap.size 0 5 from there_heap (cs := frc f) B1.out)
  have hid2 : (cut8 f).id < 4294967296 := hid
  clear q1 B0 Q0 FW hid
  generalize cut8 f = g at *
  go_wp2_with (refine wpList_store_hid (by rfl) 31 (.tmp 1) (.tmp 14) (by rfl) w.heap.size 0 (frc g) (by rfl) (by rfl) (by exact TH.out) (by kernel_rfl) (by simp [Value.oneCell', frc]) ?_)
  intro w2 e2
  have G := hide (show w2.heap[w.heap.size]? = some (.cells (frc g).toArray 31 (0, 0)) by rw [e2.out]; exact whole_heap (frc g) (xs := frc f) B1.out rfl)
  have Q := hide (show Below w.heap.size w w2 by rw [e2.out]; exact Q1.out.trans (below_setCells _ _ _ (Nat.le_refl _)))
  clear e2 TH B1 Q1
  have RR := hide (fun W => show Calls Tryz.prog 10 #[.agg (frc g).toArray] W fun e w' => e = .returned (.bool (FP.rightB g)) ∧ Below W.heap.size W w' from refRight04_any g W hid2)
  have AL := hide (fun W => alive08_any W)
  go_wp2_with (refine wpList_load_row rfl 31 (.tmp 1) (by rfl) w.heap.size (by rfl) 31 (frc g).toArray (0, 0) _ (by exact G.out) Tryz.underlying31 (by rfl) (by kernel_rfl) ?_)
  (with_reducible refine (RR.out _).mono ?_)
  rintro ew1' w1' ⟨rfl, qw1'⟩
  replace G := hide (heap_below G.out qw1')
  replace Q := hide (below_next Q.out Q.out.size qw1')
  clear qw1'
  clear RR
  rcases Bool.eq_false_or_eq_true (FP.rightB g) with hr | hr
  case inr =>
    rw [hr]
    go_wp2_with fail
    (with_reducible refine (AL.out _).mono ?_)
    rintro ew2' w2' ⟨rfl, qw2'⟩
    replace G := hide (heap_below G.out qw2')
    replace Q := hide (below_next Q.out Q.out.size qw2')
    clear qw2'
    go_wp2_with fail
    go_ret
    exact ⟨rfl, Q.out⟩
  case inl =>
  rw [hr]
  obtain ⟨d, en, p, hI, hdok, hA, h17, hlenS, hS⟩ := aln_end hr
  obtain ⟨hsn, a, b, hI2, hab⟩ := duo_end hr hdok hA (by omega) 4000
  have hnew : waitC g 0 = zCl.give g := rfl
  obtain ⟨s, hs⟩ : ∃ s, s = snB [waitC g 0] 0 4000 := ⟨_, rfl⟩
  obtain ⟨s2, hs2⟩ : ∃ s2, s2 = snB [d, zCl] 4000 600 := ⟨_, rfl⟩
  have hsm : s.length ≤ 4000 := by have := sn_le [waitC g 0] 0 4000; rw [← hs] at this; simpa using this
  have hsm2 : s2.length ≤ 1200 := by have := sn_le [d, zCl] 4000 600; rw [← hs2] at this; simpa using this
  have NW := hide (fun W => show Calls Tryz.prog 16 #[.int .i64 1] W fun e w' => ∃ A c, e = .returned (.tuple #[.agg (busL A 1 c 0).toArray, .int .i64 0]) ∧ ClR w' w'.heap.size A [zCl] ∧ Fresh W.heap.size A ∧ Below W.heap.size W w' from busNew_ok 1 (by omega) (by omega) W)
  have SU := hide (fun A c W (hr' : Rd W W.heap.size A 23 (clRows [zCl])) => show Calls Tryz.prog 12 #[.agg (busL A 1 c 0).toArray, .int .i64 0, .agg (frc g).toArray] W fun e w' => ∃ A' c', e = .returned (.tuple #[.agg (busL A' 1 c' 0).toArray, .int .i64 0]) ∧ ClR w' w'.heap.size A' [waitC g 0] ∧ Fresh W.heap.size A' ∧ Below W.heap.size W w' from by
    have h0 : zCl.subE g = 0 := by unfold Cl.subE; rw [if_neg (by rw [hr]; decide), if_neg (by decide)]
    have h1 : zCl.subC g = waitC g 0 := by unfold Cl.subC; rw [if_neg (by rw [hr]; decide), if_neg (by decide)]; exact hnew.symm
    refine (busSubmit_in [zCl] A c 0 0 g W hr' (by decide) (by decide) (by decide) (by decide) (fun c hc => by rw [List.mem_singleton.1 hc]; exact zCl_ok) hid2).mono ?_
    rintro e w' ⟨⟨_, A', c', rfl, h2, h3⟩ | ⟨h4, _⟩, q⟩
    · refine ⟨A', c', rfl, ?_, h3, q⟩
      have e : subL [zCl] 0 g = [waitC g 0] := by rw [← h1]; rfl
      rw [e] at h2
      exact h2
    · exact absurd h0 h4)
  have RU := hide (fun A c W (hr' : Rd W W.heap.size A 23 (clRows [waitC g 0])) => show Calls Tryz.prog 14 #[.agg (busL A 1 c 0).toArray, .int .i64 4000] W fun e w' => ∃ A' c' E ec, e = .returned (.tuple #[.agg (busL A' 1 c' 4000).toArray, .slice E s.length ec, .int .i64 0]) ∧ ClR w' w'.heap.size A' [d] ∧ Fresh W.heap.size A' ∧ Rd w' w'.heap.size E 9 (snRows s) ∧ Fresh W.heap.size E ∧ Below W.heap.size W w' from by
    refine (busRun_ok [waitC g 0] A c 0 4000 W hr' (by simp) (by simp) (by decide) (by decide) (by decide) (fun c hc => by rw [List.mem_singleton.1 hc]; exact wait_ok hr (by omega))).mono ?_
    rintro e w' ⟨A', c', E, ec, rfl, h1, h2, h3, q⟩
    rw [hI] at h1
    rw [← hs] at h2 ⊢
    exact ⟨A', c', E, ec, rfl, h1, h3.elim (fun o => fresh_own o) (fun h => absurd h.1 (by decide)), h2.rd (snRows_rows _), fresh_own h2, q⟩)
  have RV := hide (fun A c W (hr' : Rd W W.heap.size A 23 (clRows [d, zCl])) => show Calls Tryz.prog 14 #[.agg (busL A 2 c 4000).toArray, .int .i64 600] W fun e w' => ∃ A' c' E ec, e = .returned (.tuple #[.agg (busL A' 2 c' 4600).toArray, .slice E s2.length ec, .int .i64 0]) ∧ ClR w' w'.heap.size A' [a, b] ∧ Fresh W.heap.size A' ∧ Rd w' w'.heap.size E 9 (snRows s2) ∧ Fresh W.heap.size E ∧ Below W.heap.size W w' from by
    refine (busRun_ok [d, zCl] A c 4000 600 W hr' (by simp) (by simp) (by decide) (by decide) (by decide) (fun c hc => by
      rcases List.mem_cons.1 hc with rfl | hc
      · exact hdok
      · rw [List.mem_singleton.1 hc]; exact zCl_ok)).mono ?_
    rintro e w' ⟨A', c', E, ec, rfl, h1, h2, h3, q⟩
    rw [hI2] at h1
    rw [← hs2] at h2 ⊢
    exact ⟨A', c', E, ec, rfl, h1, h3.elim (fun o => fresh_own o) (fun h => absurd h.1 (by decide)), h2.rd (snRows_rows _), fresh_own h2, q⟩)
  rw [← hs] at hlenS hS
  rw [← hs2] at hsn
  have HSY := hide hS
  have HSN := hide hsn
  have HT := hide (show d.tc = 128 ∧ d.rc = 0 ∧ d.off = false ∧ d.rs = 0 from ⟨by rw [hA.tc, show min (8 * en) 128 = 128 by omega]; rfl, hA.rc, hA.off, hA.rs⟩)
  have h16 : ¬ (s.length : Int) ≤ 16 := by omega
  have HAB := hide hab
  clear hs hs2 hI hI2 hA hdok hS hsn hnew hr hab hlenS h17
  go_wp2_with fail
  (with_reducible refine (NW.out _).mono ?_)
  rintro ew3' w3' ⟨A1, c1, rfl, C1, FC1, qw3'⟩
  have O_C1_G := hide (show Off A1 (clRows [zCl]).length w.heap.size from off_fresh FC1 (heap_lt G.out))
  replace G := hide (heap_below G.out qw3')
  replace Q := hide (below_next Q.out Q.out.size qw3')
  clear qw3'
  replace C1 := hide (show Rd w3' w3'.heap.size A1 23 (clRows [zCl]) from C1)
  replace FC1 := hide FC1
  clear NW
  have B := World.alloc_heap_new w3' (.cells (busL none 0 0 0).toArray 25)
  have zGy : w.heap.size < w3'.heap.size := heap_lt G.out
  have O_C1_B := hide (off_new (x := w3'.heap.size) C1.out (by omega))
  have zQy : w.heap.size ≤ w3'.heap.size := Q.out.size
  obtain ⟨w5', hw5'⟩ : ∃ wx, wx = w3'.alloc (.cells (busL none 0 0 0).toArray 25) := ⟨_, rfl⟩
  have q4' := hide (show Below w3'.heap.size w3' w5' by rw [hw5']; exact (Below.refl _ _).alloc (Nat.le_refl _) _)
  rw [← hw5'] at B
  replace B := hide B
  have Tw6' := hide (show (w3'.alloc (.cells (busL none 0 0 0).toArray 25)).there w3'.heap.size 0 2 by rw [← hw5']; exact there_heap (cs := busL none 0 0 0) B.out)
  go_wp2_with (refine wpList_store_hid (by rfl) 25 (.tmp 3) (.tmp 21) (by rfl) w3'.heap.size 0 (busL A1 1 c1 0) (by rfl) (by rfl) (by exact Tw6'.out) (by kernel_rfl) (by simp [Value.oneCell', busL]) ?_)
  intro w6' ew6'
  replace ew6' : Hid (w6' = w5'.setCells w3'.heap.size 0 (busL A1 1 c1 0)) := by rw [hw5']; exact ew6'
  replace B := hide (show w6'.heap[w3'.heap.size]? = some (.cells (busL A1 1 c1 0).toArray 25 (0, 0)) by rw [ew6'.out]; exact whole_heap (busL A1 1 c1 0) (xs := busL none 0 0 0) B.out rfl)
  replace q4' := hide (show Below w3'.heap.size w3' w6' by rw [ew6'.out]; exact q4'.out.trans (below_setCells _ _ _ (by omega)))
  clear ew6' Tw6' hw5'
  replace G := hide (heap_below G.out q4'.out)
  replace C1 := hide (Rd.next C1.out q4'.out q4'.out.size)
  replace Q := hide (below_next Q.out Q.out.size q4'.out)
  clear q4'
  generalize w3'.heap.size = y at *
  have R1 := hide (SU.out A1 c1 w6' C1.out)
  clear SU
  go_wp2_with (first | (refine wpList_load_row rfl 25 (.tmp 3) (by rfl) y (by rfl) 25 (busL A1 1 c1 0).toArray (0, 0) _ (by exact B.out) Tryz.underlying25 (by rfl) (by kernel_rfl) ?_) | (refine wpList_load_row rfl 31 (.tmp 1) (by rfl) w.heap.size (by rfl) 31 (frc g).toArray (0, 0) _ (by exact G.out) Tryz.underlying31 (by rfl) (by kernel_rfl) ?_))
  clear C1 O_C1_G O_C1_B
  (with_reducible refine (R1.out).mono ?_)
  rintro ew7' w7' ⟨A2, c2, rfl, C2, FC2, qw7'⟩
  have O_C2_G := hide (show Off A2 (clRows [waitC g 0]).length w.heap.size from off_fresh FC2 (heap_lt G.out))
  have O_C2_B := hide (show Off A2 (clRows [waitC g 0]).length y from off_fresh FC2 (heap_lt B.out))
  replace G := hide (heap_below G.out qw7')
  replace B := hide (heap_below B.out qw7')
  replace Q := hide (below_next Q.out Q.out.size qw7')
  clear qw7'
  replace C2 := hide (show Rd w7' w7'.heap.size A2 23 (clRows [waitC g 0]) from C2)
  replace FC2 := hide FC2
  clear R1 FC1
  have Tw8' := hide (show World.there _ y 0 2 from there_heap (cs := busL A1 1 c1 0) B.out)
  go_wp2_with (refine wpList_store_hid (by rfl) 25 (.tmp 3) (.tmp 27) (by rfl) y 0 (busL A2 1 c2 0) (by rfl) (by rfl) (by exact Tw8'.out) (by kernel_rfl) (by simp [Value.oneCell', busL]) ?_)
  intro w8' ew8'
  replace G := hide (show w8'.heap[w.heap.size]? = some (.cells (frc g).toArray 31 (0, 0)) by rw [ew8'.out]; exact other_heap (by omega) _ _ _ G.out)
  replace C2 := hide (show Rd w8' w8'.heap.size A2 23 (clRows [waitC g 0]) by rw [ew8'.out]; exact off_set C2.out O_C2_B.out _ _)
  replace Q := hide (show Below w.heap.size w w8' by rw [ew8'.out]; exact Q.out.trans (below_setCells _ _ _ (by have := Q.out.size; omega)))
  replace B := hide (show w8'.heap[y]? = some (.cells (busL A2 1 c2 0).toArray 25 (0, 0)) by rw [ew8'.out]; exact whole_heap (busL A2 1 c2 0) (xs := busL A1 1 c1 0) B.out rfl)
  clear ew8' Tw8'
  have R1 := hide (RU.out A2 c2 w8' C2.out)
  clear RU
  go_wp2_with (refine wpList_load_row rfl 25 (.tmp 3) (by rfl) y (by rfl) 25 (busL A2 1 c2 0).toArray (0, 0) _ (by exact B.out) Tryz.underlying25 (by rfl) (by kernel_rfl) ?_)
  clear C2 O_C2_G O_C2_B
  clear G 
  (with_reducible refine (R1.out).mono ?_)
  rintro ew9' w9' ⟨A3, c3, E3, d3, rfl, C3, FC3, S3, FS3, qw9'⟩
  have O_C3_B := hide (show Off A3 (clRows [d]).length y from off_fresh FC3 (heap_lt B.out))
  have O_S3_B := hide (show Off E3 (snRows s).length y from off_fresh FS3 (heap_lt B.out))
  replace B := hide (heap_below B.out qw9')
  replace Q := hide (below_next Q.out Q.out.size qw9')
  clear qw9'
  replace C3 := hide (show Rd w9' w9'.heap.size A3 23 (clRows [d]) from C3)
  replace FC3 := hide FC3
  replace S3 := hide (show Rd w9' w9'.heap.size E3 9 (snRows s) from S3)
  replace FS3 := hide FS3
  clear R1 FC2
  have Tw10' := hide (show World.there _ y 0 2 from there_heap (cs := busL A2 1 c2 0) B.out)
  go_wp2_with (refine wpList_store_hid (by rfl) 25 (.tmp 3) (.tmp 32) (by rfl) y 0 (busL A3 1 c3 4000) (by rfl) (by rfl) (by exact Tw10'.out) (by kernel_rfl) (by simp [Value.oneCell', busL]) ?_)
  intro w10' ew10'
  replace C3 := hide (show Rd w10' w10'.heap.size A3 23 (clRows [d]) by rw [ew10'.out]; exact off_set C3.out O_C3_B.out _ _)
  replace S3 := hide (show Rd w10' w10'.heap.size E3 9 (snRows s) by rw [ew10'.out]; exact off_set S3.out O_S3_B.out _ _)
  replace Q := hide (show Below w.heap.size w w10' by rw [ew10'.out]; exact Q.out.trans (below_setCells _ _ _ (by have := Q.out.size; omega)))
  replace B := hide (show w10'.heap[y]? = some (.cells (busL A3 1 c3 4000).toArray 25 (0, 0)) by rw [ew10'.out]; exact whole_heap (busL A3 1 c3 4000) (xs := busL A2 1 c2 0) B.out rfl)
  clear ew10' Tw10'
  clear FC3 FS3
  obtain ⟨b0, b1⟩ := bus_cells B.out
  go_wp2_with fail
  clear b0 b1
  (with_reducible refine (AL.out _).mono ?_)
  rintro ew11' w11' ⟨rfl, qw11'⟩
  replace B := hide (heap_below B.out qw11')
  replace C3 := hide (Rd.next C3.out qw11' qw11'.size)
  replace S3 := hide (Rd.next S3.out qw11' qw11'.size)
  replace Q := hide (below_next Q.out Q.out.size qw11')
  clear qw11'
  clear AL
  go_wp2_with fail
  go_loopw [57] (fun vi W => ∃ k : Nat, k ≤ s.length ∧ vi = .int .i64 k ∧ Hid (W.heap[y]? = some (.cells (busL A3 1 c3 4000).toArray 25 (0, 0))) ∧ Hid (Rd W W.heap.size A3 23 (clRows [d])) ∧ Hid (Rd W W.heap.size E3 9 (snRows s)) ∧ Hid (Below w.heap.size w W)) (fun vi _ => s.length - (intOf vi).toNat)
  case atStart => exact ⟨0, Nat.zero_le _, rfl, B, C3, S3, Q⟩
  case round =>
    clear B C3 S3 Q
    obtain ⟨k, hk, rfl, B, C3, S3, Q⟩ := hrel
    by_cases hlt : k < s.length
    · have hki : (k : Int) < (s.length : Int) := by omega
      have hk0 : ¬ (k : Int) < 0 := by omega
      obtain ⟨g1, o1, hA1, -, r1⟩ := sn_cells S3.out hlt
      have PA := hide r1
      subst hA1
      have HY := hide (sn_mem hlt HSY.out)
      generalize s[k] = v at *
      clear r1
      have V := World.alloc_heap_new wr (.cells (sncs zSn).toArray 46)
      have zBx : y < wr.heap.size := heap_lt B.out
      have O_C3_V := hide (off_new (x := wr.heap.size) C3.out (by omega))
      have O_S3_V := hide (off_new (x := wr.heap.size) S3.out (by omega))
      have zQx : w.heap.size ≤ wr.heap.size := Q.out.size
      obtain ⟨w13', hw13'⟩ : ∃ wx, wx = wr.alloc (.cells (sncs zSn).toArray 46) := ⟨_, rfl⟩
      have q12' := hide (show Below wr.heap.size wr w13' by rw [hw13']; exact (Below.refl _ _).alloc (Nat.le_refl _) _)
      rw [← hw13'] at V
      replace V := hide V
      have Tw14' := hide (show (wr.alloc (.cells (sncs zSn).toArray 46)).there wr.heap.size 0 9 by rw [← hw13']; exact there_heap (cs := sncs zSn) V.out)
      go_wp2_with (first | (refine wpList_load_mid rfl 46 (.tmp 59) (by rfl) g1 (o1 + k * 9) (by rfl) (sncs v) _ (by exact PA.out) Tryz.underlying46 (by rfl) (by kernel_rfl) ?_) | (refine wpList_store_hid (by rfl) 46 (.tmp 9) (.tmp 60) (by rfl) wr.heap.size 0 (sncs v) (by rfl) (by rfl) (by exact Tw14'.out) (by kernel_rfl) (by simp [Value.oneCell', sncs, evL]) ?_))
      intro w14' ew14'
      replace ew14' : Hid (w14' = w13'.setCells wr.heap.size 0 (sncs v)) := by rw [hw13']; exact ew14'
      replace V := hide (show w14'.heap[wr.heap.size]? = some (.cells (sncs v).toArray 46 (0, 0)) by rw [ew14'.out]; exact whole_heap (sncs v) (xs := sncs zSn) V.out rfl)
      replace q12' := hide (show Below wr.heap.size wr w14' by rw [ew14'.out]; exact q12'.out.trans (below_setCells _ _ _ (by omega)))
      clear ew14' Tw14' hw13'
      replace B := hide (heap_below B.out q12'.out)
      replace C3 := hide (Rd.next C3.out q12'.out q12'.out.size)
      replace S3 := hide (Rd.next S3.out q12'.out q12'.out.size)
      replace Q := hide (below_next Q.out Q.out.size q12'.out)
      clear q12'
      generalize wr.heap.size = x at *
      obtain ⟨v0, v1, v2, v3⟩ := sn_box V.out
      obtain ⟨hy1, hy2⟩ := HY.out
      rw [hy1] at v2
      rw [hy2] at v3
      clear HY hy1 hy2 PA
      go_wp2_with fail
      clear v0 v1 v2 v3
      go_roundw
      case rel => exact ⟨k + 1, by omega, by go_num, B, C3, S3, Q⟩
      case measure => simp [intOf]; omega
    · obtain rfl : k = s.length := by omega
      clear S3 O_S3_B
      obtain ⟨g3, o3, hA3, -, r3⟩ := ClR.at_ (l := [d]) C3.out (k := 0) (by simp)
      subst hA3
      obtain ⟨ht1, ht2, ht3, ht4⟩ := HT.out
      have PC := hide (show wr.rangeAt g3 o3 [.int .i64 128, .int .i64 0, .bool false, .int .i64 0] from fun j v hj => by
        have h := r3 j v
        rw [show o3 + 0 * 23 + j = o3 + j by omega] at h
        refine h ?_
        have hj4 : j < 4 := (List.getElem?_eq_some_iff.1 hj).1
        show (d.cs)[j]? = some v
        unfold Cl.cs
        rw [ht1, ht2, ht3, ht4]
        obtain rfl | rfl | rfl | rfl : j = 0 ∨ j = 1 ∨ j = 2 ∨ j = 3 := by omega
        all_goals exact hj)
      clear r3 ht1 ht2 ht3 ht4 HT
      obtain ⟨b0, b1⟩ := bus_cells B.out
      go_upto_region 17 with (first | (refine wpList_load_mid rfl 49 (.tmp 75) (by rfl) g3 o3 (by rfl) [.int .i64 128, .int .i64 0, .bool false, .int .i64 0] _ (by exact PC.out) Tryz.underlying49 (by rfl) (by kernel_rfl) ?_))
      clear PC
      have q5 : Below wr.heap.size wr (wr.alloc (.cells #[] 53)) := (Below.refl _ _).alloc (Nat.le_refl _) _
      have O5 := hide (Own.lit wr wr.heap.size 53 23 [] (Nat.le_refl _) (by simp) (by simp))
      have RD5 := hide (Rd.more (Rd.below C3.out q5) q5.size)
      have B5 := hide (heap_below B.out q5)
      have E4 := hide (show wr.heap.size ≤ (wr.alloc (.cells #[] 53)).heap.size by simp)
      have zyr := heap_lt B.out
      have zwr := Q.out.size
      have Q5 := hide (below_next Q.out Q.out.size q5)
      obtain ⟨b0, b1⟩ := bus_cells B5.out
      go_wp2_with (at_builtin; refine wpList_append_rows _ rfl _ _ 23 rfl slCl wr.heap.size _ _ _ [] (by rfl) (by exact O5.out) _ _ _ (clRows [d]) (by rfl) (by exact RD5.out) (by exact cl_rows [d]) (by exact cl_ones [d]) (by simp [clRows]) (by simp [clRows, maxLen]) (by exact E4.out) (by rfl) (by rfl) ?_)
      intro A6 c6 w6 o6 g6
      have O6 := hide (show Own w6 wr.heap.size 53 23 A6 c6 (clRows [d]) from o6)
      have HZ6 := hide (show wr.heap.size ≤ w6.heap.size by have := g6.size; have := E4.out; omega)
      have B6 := hide (heap_grownB B5.out g6 (own_not O5.out zyr))
      have Q6 := hide (below_append Q5.out g6 O5.out (by omega) Q5.out.size)
      clear o6 g6 O5 RD5 B5 E4 Q5 B C3 Q b0 b1 q5
      have NC := hide (ctlNew_any w6)
      go_wp2_with fail
      (with_reducible refine (NC.out).mono ?_)
      rintro e7 w7 ⟨rfl, q⟩
      have B7 := hide (heap_below B6.out q)
      have O7 := hide (O6.out.grown q)
      have Q7 := hide (below_next Q6.out Q6.out.size q)
      have z7 : wr.heap.size ≤ w7.heap.size := by have := q.size; have := HZ6.out; omega
      clear q B6 O6 Q6 NC HZ6
      obtain ⟨b0, b1⟩ := bus_cells B7.out
      go_wp2_with (at_builtin; refine wpList_append_one _ _ zCl.cs (by rfl) rfl _ _ 23 rfl slCl (by decide) rfl (by simp [Cl.cs, Value.oneCell']) wr.heap.size _ _ _ (clRows [d]) (by rfl) (by exact O7.out) 1 (by rfl) (by simp [clRows]) (by exact z7) (by rfl) ?_)
      intro A8 c8 w8 ap
      have O8 := hide (show Own w8 wr.heap.size 53 23 A8 c8 (clRows [d, zCl]) from ap.own)
      have B8 := hide (ap.low B7.out zyr)
      have Q8 := hide (ap.q Q7.out zwr)
      clear ap O7 B7 Q7 b0 b1 z7
      obtain ⟨y0, y1, y2, y3⟩ := two_boxM (show w8.heap[y]? = some (.cells #[.slice (some ⟨g3, o3, none⟩) 1 c3, .int .i64 4000] 25 (0, 0)) from B8.out)
      go_upto_region 18 with fail
      clear y0 y1 y2 y3
      obtain ⟨w9, e9⟩ : ∃ w9, w9 = w8.setCell ⟨y, 0, none⟩ (.slice A8 2 c8) := ⟨_, rfl⟩
      rw [← e9]
      replace e9 : Hid (w9 = w8.setCells y 0 [.slice A8 2 c8]) := e9
      have B := hide (show w9.heap[y]? = some (.cells (busL A8 2 c8 4000).toArray 25 (0, 0)) by rw [e9.out]; exact heap_setCell_same w8 y 0 _ _ _ B8.out)
      have O9 := hide (show Own w9 wr.heap.size 53 23 A8 c8 (clRows [d, zCl]) by rw [e9.out]; exact own_setCells zyr _ _ _ O8.out)
      have C8 := hide (O9.out.rd (cl_rows [d, zCl]))
      have Q := hide (show Below w.heap.size w w9 by rw [e9.out]; exact Q8.out.trans (below_setCells _ _ _ (by omega)))
      clear e9 B8 O8 Q8 O9
      have R1 := hide (RV.out A8 c8 w9 C8.out)
      clear RV
      go_wp2_with (refine wpList_load_row rfl 25 (.tmp 3) (by rfl) y (by rfl) 25 (busL A8 2 c8 4000).toArray (0, 0) _ (by exact B.out) Tryz.underlying25 (by rfl) (by kernel_rfl) ?_)
      clear C8
      (with_reducible refine (R1.out).mono ?_)
      rintro ew15' w15' ⟨A4, c4, E4, d4, rfl, C4, FC4, S4, FS4, qw15'⟩
      have O_C4_B := hide (show Off A4 (clRows [a, b]).length y from off_fresh FC4 (heap_lt B.out))
      have O_S4_B := hide (show Off E4 (snRows s2).length y from off_fresh FS4 (heap_lt B.out))
      replace B := hide (heap_below B.out qw15')
      replace Q := hide (below_next Q.out Q.out.size qw15')
      clear qw15'
      replace C4 := hide (show Rd w15' w15'.heap.size A4 23 (clRows [a, b]) from C4)
      replace FC4 := hide FC4
      replace S4 := hide (show Rd w15' w15'.heap.size E4 9 (snRows s2) from S4)
      replace FS4 := hide FS4
      clear R1
      have Tw16' := hide (show World.there _ y 0 2 from there_heap (cs := busL A8 2 c8 4000) B.out)
      go_wp2_with (refine wpList_store_hid (by rfl) 25 (.tmp 3) (.tmp 95) (by rfl) y 0 (busL A4 2 c4 4600) (by rfl) (by rfl) (by exact Tw16'.out) (by kernel_rfl) (by simp [Value.oneCell', busL]) ?_)
      intro w16' ew16'
      replace C4 := hide (show Rd w16' w16'.heap.size A4 23 (clRows [a, b]) by rw [ew16'.out]; exact off_set C4.out O_C4_B.out _ _)
      replace S4 := hide (show Rd w16' w16'.heap.size E4 9 (snRows s2) by rw [ew16'.out]; exact off_set S4.out O_S4_B.out _ _)
      replace Q := hide (show Below w.heap.size w w16' by rw [ew16'.out]; exact Q.out.trans (below_setCells _ _ _ (by have := Q.out.size; omega)))
      replace B := hide (show w16'.heap[y]? = some (.cells (busL A4 2 c4 4600).toArray 25 (0, 0)) by rw [ew16'.out]; exact whole_heap (busL A4 2 c4 4600) (xs := busL A8 2 c8 4000) B.out rfl)
      clear ew16' Tw16'
      clear FC4 FS4
      go_wp2_with fail
      go_loopw [100, 10] (fun vi v10 W => ∃ k : Nat, k ≤ s2.length ∧ vi = .int .i64 k ∧ v10 = .int .i64 (sentN (s2.take k)) ∧ Hid (W.heap[y]? = some (.cells (busL A4 2 c4 4600).toArray 25 (0, 0))) ∧ Hid (Rd W W.heap.size A4 23 (clRows [a, b])) ∧ Hid (Rd W W.heap.size E4 9 (snRows s2)) ∧ Hid (Below w.heap.size w W)) (fun vi _ _ => s2.length - (intOf vi).toNat)
      case atStart => exact ⟨0, Nat.zero_le _, rfl, rfl, B, C4, S4, Q⟩
      case round =>
        clear B C4 S4 Q
        obtain ⟨k, hk, rfl, rfl, B, C4, S4, Q⟩ := hrel
        by_cases hlt : k < s2.length
        · have hki : (k : Int) < (s2.length : Int) := by omega
          have hk0 : ¬ (k : Int) < 0 := by omega
          have TK := hide (sentN_take s2 hlt)
          have hsk : sentN (s2.take k) ≤ 1200 := by have := sentN_le (s2.take k); rw [List.length_take] at this; omega
          obtain ⟨g1, o1, hA1, -, r1⟩ := sn_cells S4.out hlt
          have PA := hide r1
          subst hA1
          generalize s2[k] = v at *
          generalize sentN (s2.take k) = m at *
          clear r1
          have V := World.alloc_heap_new wr (.cells (sncs zSn).toArray 46)
          have zBx : y < wr.heap.size := heap_lt B.out
          have O_C4_V := hide (off_new (x := wr.heap.size) C4.out (by omega))
          have O_S4_V := hide (off_new (x := wr.heap.size) S4.out (by omega))
          have zQx : w.heap.size ≤ wr.heap.size := Q.out.size
          obtain ⟨w18', hw18'⟩ : ∃ wx, wx = wr.alloc (.cells (sncs zSn).toArray 46) := ⟨_, rfl⟩
          have q17' := hide (show Below wr.heap.size wr w18' by rw [hw18']; exact (Below.refl _ _).alloc (Nat.le_refl _) _)
          rw [← hw18'] at V
          replace V := hide V
          have Tw19' := hide (show (wr.alloc (.cells (sncs zSn).toArray 46)).there wr.heap.size 0 9 by rw [← hw18']; exact there_heap (cs := sncs zSn) V.out)
          go_wp2_with (first | (refine wpList_load_mid rfl 46 (.tmp 102) (by rfl) g1 (o1 + k * 9) (by rfl) (sncs v) _ (by exact PA.out) Tryz.underlying46 (by rfl) (by kernel_rfl) ?_) | (refine wpList_store_hid (by rfl) 46 (.tmp 12) (.tmp 103) (by rfl) wr.heap.size 0 (sncs v) (by rfl) (by rfl) (by exact Tw19'.out) (by kernel_rfl) (by simp [Value.oneCell', sncs, evL]) ?_))
          intro w19' ew19'
          replace ew19' : Hid (w19' = w18'.setCells wr.heap.size 0 (sncs v)) := by rw [hw18']; exact ew19'
          replace V := hide (show w19'.heap[wr.heap.size]? = some (.cells (sncs v).toArray 46 (0, 0)) by rw [ew19'.out]; exact whole_heap (sncs v) (xs := sncs zSn) V.out rfl)
          replace q17' := hide (show Below wr.heap.size wr w19' by rw [ew19'.out]; exact q17'.out.trans (below_setCells _ _ _ (by omega)))
          clear ew19' Tw19' hw18'
          replace B := hide (heap_below B.out q17'.out)
          replace C4 := hide (Rd.next C4.out q17'.out q17'.out.size)
          replace S4 := hide (Rd.next S4.out q17'.out q17'.out.size)
          replace Q := hide (below_next Q.out Q.out.size q17'.out)
          clear q17'
          generalize wr.heap.size = x at *
          obtain ⟨v0, v1, v2, v3⟩ := sn_box V.out
          clear PA
          rcases Int.decEq v.kind 1 with hv | hv
          case isFalse =>
            have hb : (v.kind == 1) = false := by simpa using hv
            have T2 := hide (show sentN (s2.take (k + 1)) = m by rw [TK.out, if_neg hv, Nat.add_zero])
            clear hv TK
            go_wp2_with fail
            clear v0 v1 v2 v3
            go_roundw
            case rel => exact ⟨k + 1, by omega, by go_num, by rw [T2.out], B, C4, S4, Q⟩
            case measure => simp [intOf]; omega
          case isTrue =>
            have hb : (v.kind == 1) = true := by simpa using hv
            have T2 := hide (show sentN (s2.take (k + 1)) = m + 1 by rw [TK.out, if_pos hv])
            rw [hv] at v2
            clear hv TK hb
            go_wp2_with fail
            clear v0 v1 v2 v3
            go_roundw
            case rel => exact ⟨k + 1, by omega, by go_num, by rw [T2.out]; go_num, B, C4, S4, Q⟩
            case measure => simp [intOf]; omega
        · obtain rfl : k = s2.length := by omega
          rw [List.take_length, HSN.out]
          obtain ⟨g4, o4, hA4, -, r4⟩ := ClR.at_ (l := [a, b]) C4.out (k := 0) (by simp)
          subst hA4
          have p8 := r4 8 (.bool a.has) rfl
          rw [HAB.out, show o4 + 0 * 23 + 8 = o4 + 8 by omega] at p8
          clear r4
          obtain ⟨b0, b1⟩ := bus_cells B.out
          go_wp2_with fail
          go_ret
          exact ⟨rfl, Q.out⟩
end Go.Proofs.YtjfgapljfbkfiaaGreatDoor
