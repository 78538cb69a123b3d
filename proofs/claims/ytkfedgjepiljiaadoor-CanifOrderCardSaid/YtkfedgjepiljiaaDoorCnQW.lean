/- The walk of campanilelaw23.CanifOrder. -/
import Derived.Test.YtkfedgjepiljiaaDoorMgCnP
import Derived.Test.YtkfedgjepiljiaaDoorCnXQ
import Derived.Test.YtkfedgjepiljiaaDoorMgFrR
import Derived.Test.YtkfedgjepiljiaaDoorMgBxL
import Derived.Test.YtkfedgjepiljiaaDoorMgRfP
import Derived.Test.YtkfedgjepiljiaaDoorIMap
namespace Go.Proofs.YtkfedgjepiljiaaDoor
open Go.ChangeShapes Go.WideShapes Go.ChangeAt Go.RowKit
open FP (Fr)
open HP (kB at' Hp)
open OP (atF bestTo orderF)

theorem fr_at23 {W : World} {B : Nat} {A : Option Addr} {l : List Fr} (h : Rd W B A 5 (l.map frc)) {k : Nat} (hk : k < l.length) : ∃ g off, A = some ⟨g, off, none⟩ ∧ g < B ∧ W.rangeAt g (off + k * 5) (frc l[k]) := by
  obtain ⟨b, off, e, hb, hc⟩ := h (by rw [List.length_map]; omega)
  refine ⟨b, off, e, hb, fun j v hj => hc k (frc l[k]) j v ?_ hj⟩
  rw [List.getElem?_map, List.getElem?_eq_getElem hk]
  rfl
set_option maxRecDepth 100000 in
theorem neq_fr (f : Fr) (W : World) : (binOp .neq 24 (.agg (frc f).toArray) (.agg (frc f).toArray)).run Tryd.prog W = .ok (.bool false) W := by
  unfold frc
  go_simp
theorem MSet.set {W : World} {b n : Nat} {s : Int → Bool} (h : MSet W b n s) {x : Nat} (hx : x ≠ b) (o : Nat) (vs : List Value) : MSet (W.setCells x o vs) b n s := by
  obtain ⟨D, h, hs⟩ := h
  have k := Kp.set (S := fun k => k = x) W x o vs rfl
  exact ⟨D, h.kept (row := some x) ⟨k.os, k.tape, k.output, k.size, fun i hi hr => k.block i hi (fun e => hr (by rw [e]))⟩ (by simp; exact fun e => hx e.symm), hs⟩
theorem rd_far2 {W W' : World} {A : Option Addr} {sz mb : Nat} {R : List (List Value)} (h : Rd W W.heap.size A sz R) (hg : W.grownBy W' (some mb)) (ho : Off A R.length mb) : Rd W' W'.heap.size A sz R := by
  rcases ho with ho | ho
  · intro hn; omega
  · exact Rd.grown h hg (Nat.le_refl _) fun b off e he => ho b off e (by injection he)
theorem below_map {W W' : World} {B mb : Nat} (hg : W.grownBy W' (some mb)) (hB : B ≤ mb) (hs : B ≤ W.heap.size) : Below B W W' :=
  ⟨hg.os, hg.tape, hg.output, hg.size, fun k hk => hg.block k (Nat.lt_of_lt_of_le hk hs) (by simp; omega)⟩
theorem ctx_len {ins : List Fr} {seq : Int} {j : Nat} {last : Int} {x : Fi} {bs : List Bx} {s : Int → Bool} (h : CtX ins seq j last x bs s) (hj : j ≤ ins.length) : min (x.lost + x.m.length) 1099511627776 = (ins.length : Int) - (j : Int) := by
  have h1 := h.mlen hj
  have h2 := h.len
  rw [h.lost]
  omega

set_option maxRecDepth 100000 in
set_option maxHeartbeats 64000000 in
theorem canifOrder_walk (l : List Fr) (A : Option Addr) (c : Nat) (dn : Int) (w : World) (hr : FrR w w.heap.size A l) (hc : l.length ≤ c) (hcm : c ≤ maxLen) (hf : ∀ f ∈ l, f.id < 4294967296 ∧ f.data.size ≤ maxLen) :
    Calls Tryd.prog 4 #[.slice A l.length c, .int .i64 dn] w fun e w' => e = .returned (.bool true) ∧ Below w.heap.size w w' := by
  have hid : ∀ k, (atF l k).id < 4294967296 := fun k => by
    unfold atF
    rcases h : l[k]? with _ | x
    · simp
    · exact (hf x (List.mem_of_getElem? h)).1
  have HID := hide hid
  have HF := hide hf
  have HR := hide hr
  have hlm : l.length ≤ 9223372036854775807 := by unfold maxLen at hcm; omega
  have AL := hide (fun W => alive23_any W)
  have NC := hide (fun W => ctlNew_any W)
  have h0 := newFi_okp (n := 8) (by decide) (by decide)
  have NW := hide (fun W => cnNew_ok 8 (by decide) (by decide) W)
  have GO := hide (fun W => cnGo_on (newFi 8) W (h0.at_ Rd.nil))
  have C0 := hide (CoX.start (l := l))
  have R0 := hide (fun (W : World) => show Rd W W.heap.size (newFi 8).go1.A 7 ((newFi 8).go1.m.map bxc) from Rd.nil)
  clear hid hf hr hc hcm h0
  have Q := hide (Below.refl w.heap.size w)
  go_enter Tryd.func4, Tryd.ntmps4
  go_wp2_with fail
  (with_reducible refine (NW.out _).mono ?_)
  rintro ew1' w1' ⟨rfl, qw1'⟩
  replace Q := hide (below_next Q.out Q.out.size qw1')
  clear qw1'
  clear NW
  have B := World.alloc_heap_new w1' (.cells zFi.cs.toArray 31)
  have zQb0 : w.heap.size ≤ w1'.heap.size := Q.out.size
  obtain ⟨w3', hw3'⟩ : ∃ wx, wx = w1'.alloc (.cells zFi.cs.toArray 31) := ⟨_, rfl⟩
  have q2' := hide (show Below w1'.heap.size w1' w3' by rw [hw3']; exact (Below.refl _ _).alloc (Nat.le_refl _) _)
  rw [← hw3'] at B
  replace B := hide B
  have Tw4' := hide (show (w1'.alloc (.cells zFi.cs.toArray 31)).there w1'.heap.size 0 7 by rw [← hw3']; exact there_heap (cs := zFi.cs) B.out)
  go_wp2_with (refine wpList_store_hid (by rfl) 31 (.tmp 5) (.tmp 33) (by rfl) w1'.heap.size 0 ((newFi 8).cs) (by rfl) (by rfl) (by exact Tw4'.out) (by kernel_rfl) (by simp [Value.oneCell', Fi.cs, newFi, zFi, Fi.go1]) ?_)
  intro w4' ew4'
  replace ew4' : Hid (w4' = w3'.setCells w1'.heap.size 0 ((newFi 8).cs)) := by rw [hw3']; exact ew4'
  replace B := hide (show w4'.heap[w1'.heap.size]? = some (.cells ((newFi 8).cs).toArray 31 (0, 0)) by rw [ew4'.out]; exact whole_heap ((newFi 8).cs) (xs := zFi.cs) B.out rfl)
  replace q2' := hide (show Below w1'.heap.size w1' w4' by rw [ew4'.out]; exact q2'.out.trans (below_setCells _ _ _ (by omega)))
  clear ew4' Tw4' hw3'
  replace Q := hide (below_next Q.out Q.out.size q2'.out)
  clear q2'
  generalize w1'.heap.size = b0 at *
  go_wp2_with (refine wpList_load_row rfl 31 (.tmp 5) (by rfl) b0 (by rfl) 31 ((newFi 8).cs).toArray (0, 0) _ (by exact B.out) Tryd.underlying31 (by rfl) (by kernel_rfl) ?_)
  (with_reducible refine (GO.out _).mono ?_)
  rintro ew5' w5' ⟨rfl, qw5'⟩
  replace B := hide (heap_below B.out qw5')
  replace Q := hide (below_next Q.out Q.out.size qw5')
  clear qw5'
  clear GO
  have Tw6' := hide (show World.there _ b0 0 7 from there_heap (cs := (newFi 8).cs) B.out)
  go_wp2_with (refine wpList_store_hid (by rfl) 31 (.tmp 5) (.tmp 38) (by rfl) b0 0 ((newFi 8).go1.cs) (by rfl) (by rfl) (by exact Tw6'.out) (by kernel_rfl) (by simp [Value.oneCell', Fi.cs, newFi, zFi, Fi.go1]) ?_)
  intro w6' ew6'
  replace Q := hide (show Below w.heap.size w w6' by rw [ew6'.out]; exact Q.out.trans (below_setCells _ _ _ (by have := Q.out.size; omega)))
  replace B := hide (show w6'.heap[b0]? = some (.cells ((newFi 8).go1.cs).toArray 31 (0, 0)) by rw [ew6'.out]; exact whole_heap ((newFi 8).go1.cs) (xs := (newFi 8).cs) B.out rfl)
  clear ew6' Tw6'
  have RX := hide (R0.out w6')
  clear R0
  have zB0 := heap_lt B.out
  have zwb : w.heap.size ≤ b0 := by omega
  generalize (newFi 8).go1 = x at *
  go_upto_block 0 with fail
  go_cut [8] (fun v8 W => ∃ (x : Fi) (Ai : Option Addr) (ci : Nat), v8 = .slice Ai (bsK l l.length).length ci ∧ Hid (CoX l l.length x) ∧ Hid (Own W (b0 + 1) 24 5 Ai ci ((bsK l l.length).map fun b => frc b.f)) ∧ Hid (W.heap[b0]? = some (.cells x.cs.toArray 31 (0, 0))) ∧ Hid (Rd W W.heap.size x.A 7 (x.m.map bxc)) ∧ Hid (Below w.heap.size w W))
  case first =>
    go_wp2_with fail
    go_loopw [42, 8] (fun vi v8 W => ∃ k : Nat, k ≤ l.length ∧ vi = .int .i64 k ∧ ∃ (x : Fi) (Ai : Option Addr) (ci : Nat), v8 = .slice Ai (bsK l k).length ci ∧ Hid (CoX l k x) ∧ Hid (Own W (b0 + 1) 24 5 Ai ci ((bsK l k).map fun b => frc b.f)) ∧ Hid (W.heap[b0]? = some (.cells x.cs.toArray 31 (0, 0))) ∧ Hid (Rd W W.heap.size x.A 7 (x.m.map bxc)) ∧ Hid (Below w.heap.size w W)) (fun vi _ _ => l.length - (intOf vi).toNat)
    case atStart => exact ⟨0, Nat.zero_le _, rfl, x, none, 0, rfl, C0, hide Own.nil, B, RX, Q⟩
    case round =>
      clear B RX Q C0
      obtain ⟨k, hk, rfl, x, Ai, ci, rfl, CX, IN, B, RX, Q⟩ := hrel
      by_cases hlt : k < l.length
      · have hki : (k : Int) < (l.length : Int) := by omega
        have hk0 : ¬ (k : Int) < 0 := by omega
        obtain ⟨g, off, hA, hgB, hra⟩ := fr_at23 HR.out hlt
        subst hA
        have PA := hide (show wr.rangeAt g (off + k * 5) (frc l[k]) from fun j v hj => cellBelow Q.out hgB (hra j v hj))
        have hat := OP.atF_lt hlt
        have hsz : l[k].data.size ≤ 9223372036854775807 := by have := (HF.out _ (List.getElem_mem hlt)).2; unfold maxLen at this; omega
        have HNO := hide (bsK_no (l := l) (k := k))
        have HYES := hide (bsK_yes (l := l) (k := k))
        have HSN := hide (fun (y : Fi) h s => CX.out.send (y := y) h s)
        have HID2 := hide (HID.out k)
        have hbl := bsK_len l k
        rw [hat] at HNO HYES HSN HID2
        obtain ⟨mn, em, hmn⟩ := run_min (P := Tryd.prog) (l[k].data.size : Int) 12
        obtain ⟨k2, hk2⟩ : ∃ k2 : Nat, k2 = min l[k].data.size 12 := ⟨_, rfl⟩
        have hmk : mn = k2 := by omega
        subst hmk
        have hkl : k2 ≤ l[k].data.size := by omega
        have HCUT := hide (show ({ l[k] with data := l[k].data.extract 0 k2 } : Fr) = cutF l[k] by rw [hk2]; rfl)
        have hid2 : (cutF l[k]).id < 4294967296 := HID2.out
        clear hra hgB hat em hk2 HID2
        generalize cutF l[k] = f at *
        generalize l[k] = f0 at *
        have XO := hide (own_lt IN.out)
        have X := World.alloc_heap_new wr (.cells (frc zFr).toArray 24)
        have zBx10 : b0 < wr.heap.size := heap_lt B.out
        have O_RX_X := hide (off_new (x := wr.heap.size) RX.out (by omega))
        have zQx10 : w.heap.size ≤ wr.heap.size := Q.out.size
        obtain ⟨w8', hw8'⟩ : ∃ wx, wx = wr.alloc (.cells (frc zFr).toArray 24) := ⟨_, rfl⟩
        have q7' := hide (show Below wr.heap.size wr w8' by rw [hw8']; exact (Below.refl _ _).alloc (Nat.le_refl _) _)
        rw [← hw8'] at X
        replace X := hide X
        have Tw9' := hide (show (wr.alloc (.cells (frc zFr).toArray 24)).there wr.heap.size 0 5 by rw [← hw8']; exact there_heap (cs := frc zFr) X.out)
        go_wp2_with (first | (refine wpList_load_mid rfl 24 (.tmp 45) (by rfl) g (off + k * 5) (by rfl) (frc f0) _ (by exact PA.out) Tryd.underlying24 (by rfl) (by kernel_rfl) ?_) | (refine wpList_store_hid (by rfl) 24 (.tmp 10) (.tmp 46) (by rfl) wr.heap.size 0 (frc f0) (by rfl) (by rfl) (by exact Tw9'.out) (by kernel_rfl) (by simp [Value.oneCell', frc]) ?_))
        intro w9' ew9'
        replace ew9' : Hid (w9' = w8'.setCells wr.heap.size 0 (frc f0)) := by rw [hw8']; exact ew9'
        replace X := hide (show w9'.heap[wr.heap.size]? = some (.cells (frc f0).toArray 24 (0, 0)) by rw [ew9'.out]; exact whole_heap (frc f0) (xs := frc zFr) X.out rfl)
        replace q7' := hide (show Below wr.heap.size wr w9' by rw [ew9'.out]; exact q7'.out.trans (below_setCells _ _ _ (by omega)))
        clear ew9' Tw9' hw8'
        replace B := hide (heap_below B.out q7'.out)
        replace IN := hide (IN.out.grown q7'.out)
        replace RX := hide (Rd.next RX.out q7'.out q7'.out.size)
        replace Q := hide (below_next Q.out Q.out.size q7'.out)
        clear q7'
        generalize wr.heap.size = x10 at *
        clear PA
        obtain ⟨y0, y1⟩ := fr_dat2 X.out
        go_upto_region 8 with fail
        clear y0 y1 hmn hkl hsz
        obtain ⟨w10', ew10'⟩ : ∃ wx, wx = w9'.setCell ⟨x10, 4, none⟩ (.string (f0.data.extract 0 k2)) := ⟨_, rfl⟩
        rw [← ew10']
        replace ew10' : Hid (w10' = w9'.setCells x10 4 [.string (f0.data.extract 0 k2)]) := ew10'
        replace X := hide (show w10'.heap[x10]? = some (.cells (frc f).toArray 24 (0, 0)) by rw [ew10'.out, ← HCUT.out]; exact set_heap [.string (f0.data.extract 0 k2)] (frc f0) 4 _ X.out)
        replace B := hide (show w10'.heap[b0]? = some (.cells x.cs.toArray 31 (0, 0)) by rw [ew10'.out]; exact other_heap (by omega) _ _ _ B.out)
        replace RX := hide (show Rd w10' w10'.heap.size x.A 7 (x.m.map bxc) by rw [ew10'.out]; exact off_set RX.out O_RX_X.out _ _)
        replace IN := hide (show Own w10' (b0 + 1) 24 5 Ai ci ((bsK l k).map fun b => frc b.f) by rw [ew10'.out]; exact own_out IN.out XO.out _ _)
        replace Q := hide (show Below w.heap.size w w10' by rw [ew10'.out]; exact Q.out.trans (below_setCells _ _ _ (by omega)))
        clear ew10' HCUT
        by_cases h8 : k < 8
        case neg =>
          have E := hide (HNO.out (fun h => h8 h.1))
          have h8' : (8 : Int) ≤ (k : Int) := by omega
          have CY := hide (CX.out.skip E.out)
          rw [← E.out] at IN
          clear CX HNO HYES HSN HID X XO
          go_wp2_with fail
          go_roundw
          case rel => exact ⟨k + 1, by omega, by go_num, x, Ai, ci, by rw [E.out], CY, IN, B, RX, Q⟩
          case measure => simp [intOf]; omega
        case pos =>
        have h8' : ¬ (8 : Int) ≤ (k : Int) := by omega
        have RR := hide (fun W => show Calls Tryd.prog 5 #[.agg (frc f).toArray] W fun e w' => e = .returned (.bool (FP.rightB f)) ∧ Below W.heap.size W w' from refRight04_any f W hid2)
        go_wp2_with (refine wpList_load_rowG (by kernel_rfl) 24 (.tmp 10) (by rfl) x10 (by rfl) 24 (frc f).toArray (0, 0) _ (by exact X.out) Tryd.underlying24 (by rfl) (by kernel_rfl) ?_)
        (with_reducible refine (RR.out _).mono ?_)
        rintro ew11' w11' ⟨rfl, qw11'⟩
        replace B := hide (heap_below B.out qw11')
        replace X := hide (heap_below X.out qw11')
        replace IN := hide (IN.out.grown qw11')
        replace RX := hide (Rd.next RX.out qw11' qw11'.size)
        replace Q := hide (below_next Q.out Q.out.size qw11')
        clear qw11'
        clear RR
        rcases Bool.eq_false_or_eq_true (FP.rightB f) with hrf | hrf
        case inr =>
          have E := hide (HNO.out (fun h => by rw [hrf] at h; cases h.2))
          have CY := hide (CX.out.skip E.out)
          rw [← E.out] at IN
          clear CX HNO HYES HSN X XO
          rw [hrf]
          go_wp2_with fail
          go_roundw
          case rel => exact ⟨k + 1, by omega, by go_num, x, Ai, ci, by rw [E.out], CY, IN, B, RX, Q⟩
          case measure => simp [intOf]; omega
        case inl =>
        rw [hrf]
        have E := hide (HYES.out ⟨h8, hrf⟩)
        have SE := hide (fun (W : World) (h : Rd W W.heap.size x.A 7 (x.m.map bxc)) => show Calls Tryd.prog 11 #[.agg x.cs.toArray, .int .i64 k, .agg (frc f).toArray] W fun e w' => ∃ y : Fi, e = .returned (.tuple #[.agg y.cs.toArray, .int .i64 0]) ∧ Rd w' w'.heap.size y.A 7 (y.m.map bxc) ∧ Fresh W.heap.size y.A ∧ Hid (CoX l (k + 1) y) ∧ Below W.heap.size W w' from by
          have ho := CX.out.okp HID.out
          have hm := CX.out.room h8
          refine (cnSend_ok x k f W (ho.at_ h) CX.out.on (by omega) (by omega) hrf hid2 hm.1 hm.2).mono ?_
          rintro e w' ⟨y, rfl, i1, i2, i3, q⟩
          exact ⟨y, rfl, i1, i2, HSN.out y ⟨h8, hrf⟩ i3.out, q⟩)
        have R1 := hide (SE.out w11' RX.out)
        clear SE hrf HNO HYES HSN CX
        go_wp2_with (first | (refine wpList_load_row rfl 31 (.tmp 5) (by rfl) b0 (by rfl) 31 x.cs.toArray (0, 0) _ (by exact B.out) Tryd.underlying31 (by rfl) (by kernel_rfl) ?_) | (refine wpList_load_row rfl 24 (.tmp 10) (by rfl) x10 (by rfl) 24 (frc f).toArray (0, 0) _ (by exact X.out) Tryd.underlying24 (by rfl) (by kernel_rfl) ?_))
        have zOW := own_lt IN.out
        have P_RY := hide (fun (A' : Option Addr) (m : Nat) (h : Fresh w11'.heap.size A') => offB_new (m := m) (n := (bsK l k).length) h IN.out (Nat.le_refl _))
        clear RX O_RX_X
        (with_reducible refine (R1.out).mono ?_)
        rintro ew12' w12' ⟨y, rfl, RY, FRY, CY, qw12'⟩
        have O_RY_B := hide (show Off y.A (y.m.map bxc).length b0 from off_fresh FRY (heap_lt B.out))
        have O_RY_X := hide (show Off y.A (y.m.map bxc).length x10 from off_fresh FRY (heap_lt X.out))
        replace B := hide (heap_below B.out qw12')
        replace X := hide (heap_below X.out qw12')
        replace IN := hide (IN.out.grown qw12')
        replace Q := hide (below_next Q.out Q.out.size qw12')
        clear qw12'
        replace RY := hide (show Rd w12' w12'.heap.size y.A 7 (y.m.map bxc) from RY)
        replace FRY := hide FRY
        clear R1 zOW
        replace P_RY := hide (P_RY.out y.A (y.m.map bxc).length FRY.out)
        clear FRY XO
        have Z := World.alloc_heap_new w12' (.cells zFi.cs.toArray 31)
        have zBx11 : b0 < w12'.heap.size := heap_lt B.out
        have zXx11 : x10 < w12'.heap.size := heap_lt X.out
        have O_RY_Z := hide (off_new (x := w12'.heap.size) RY.out (by omega))
        have zQx11 : w.heap.size ≤ w12'.heap.size := Q.out.size
        obtain ⟨w14', hw14'⟩ : ∃ wx, wx = w12'.alloc (.cells zFi.cs.toArray 31) := ⟨_, rfl⟩
        have q13' := hide (show Below w12'.heap.size w12' w14' by rw [hw14']; exact (Below.refl _ _).alloc (Nat.le_refl _) _)
        rw [← hw14'] at Z
        replace Z := hide Z
        have Tw15' := hide (show (w12'.alloc (.cells zFi.cs.toArray 31)).there w12'.heap.size 0 7 by rw [← hw14']; exact there_heap (cs := zFi.cs) Z.out)
        go_wp2_with (refine wpList_store_hid (by rfl) 31 (.tmp 11) (.tmp 67) (by rfl) w12'.heap.size 0 y.cs (by rfl) (by rfl) (by exact Tw15'.out) (by kernel_rfl) (by simp [Value.oneCell', Fi.cs]) ?_)
        intro w15' ew15'
        replace ew15' : Hid (w15' = w14'.setCells w12'.heap.size 0 y.cs) := by rw [hw14']; exact ew15'
        replace Z := hide (show w15'.heap[w12'.heap.size]? = some (.cells y.cs.toArray 31 (0, 0)) by rw [ew15'.out]; exact whole_heap y.cs (xs := zFi.cs) Z.out rfl)
        replace q13' := hide (show Below w12'.heap.size w12' w15' by rw [ew15'.out]; exact q13'.out.trans (below_setCells _ _ _ (by omega)))
        clear ew15' Tw15' hw14'
        replace B := hide (heap_below B.out q13'.out)
        replace X := hide (heap_below X.out q13'.out)
        replace IN := hide (IN.out.grown q13'.out)
        replace RY := hide (Rd.next RY.out q13'.out q13'.out.size)
        replace Q := hide (below_next Q.out Q.out.size q13'.out)
        clear q13'
        generalize w12'.heap.size = x11 at *
        go_upto_region 12 with fail
        refine wp_region_L [0, 1, 2] [(0, fun W => W.heap[x11]? = some (.cells y.cs.toArray 31 (0, 0))), (2, fun W => W.heap[x10]? = some (.cells (frc f).toArray 24 (0, 0)))] (by kernel_rfl) ?_
        replace B := hide (show w15'.drew.heap[b0]? = some (.cells x.cs.toArray 31 (0, 0)) from B.out)
        replace X := hide (show w15'.drew.heap[x10]? = some (.cells (frc f).toArray 24 (0, 0)) from X.out)
        replace Z := hide (show w15'.drew.heap[x11]? = some (.cells y.cs.toArray 31 (0, 0)) from Z.out)
        replace RY := hide (show Rd (w15'.drew) (w15'.drew).heap.size y.A 7 (y.m.map bxc) from RY.out)
        replace IN := hide (show Own (w15'.drew) (b0 + 1) 24 5 Ai ci ((bsK l k).map fun b => frc b.f) from IN.out.grown ((Below.refl w15'.heap.size w15').drew))
        replace Q := hide (show Below w.heap.size w w15'.drew from Q.out.drew)
        generalize w15'.drew = w16' at *
        refine wpAnyL_load (i := 0) (v := .agg y.cs.toArray) rfl rfl (by kernel_rfl) (by kernel_rfl) (by kernel_rfl) (by kernel_rfl) (by kernel_rfl) (fun _ _ _ h => h) rfl (fun W h => exec_heap W x11 31 y.cs _ h Tryd.underlying31 rfl (by kernel_rfl) _ _ (.tmp 11) (by rfl) (by rfl)) (Z.out) ?_
        go_simp
        refine wpAnyL_pure (i := 1) (v := .slice Ai (bsK l k).length ci) rfl rfl (by kernel_rfl) (by kernel_rfl) (by kernel_rfl) (by kernel_rfl) (by kernel_rfl) (fun _ _ _ h => h) rfl (fun W => by go_simp) ?_
        go_simp
        refine wpAnyL_load (i := 2) (v := .agg (frc f).toArray) rfl rfl (by kernel_rfl) (by kernel_rfl) (by kernel_rfl) (by kernel_rfl) (by kernel_rfl) (fun _ _ _ h => h) rfl (fun W h => exec_heap W x10 24 (frc f) _ h Tryd.underlying24 rfl (by kernel_rfl) _ _ (.tmp 10) (by rfl) (by rfl)) (X.out) ?_
        go_simp
        refine wpAnyL_one (i := 3) (by kernel_rfl) ?_
        refine wpOp_do rfl rfl ?_
        go_simp
        have q : Below w16'.heap.size w16' (w16'.alloc (.cells (frc f).toArray 24)) := (Below.refl _ _).alloc (Nat.le_refl _) _
        have N2 := hide (World.alloc_heap_new w16' (.cells (frc f).toArray 24))
        replace B := hide (heap_below B.out q)
        replace X := hide (heap_below X.out q)
        replace Z := hide (heap_below Z.out q)
        replace IN := hide (IN.out.grown q)
        replace RY := hide (Rd.next RY.out q q.size)
        replace Q := hide (below_next Q.out Q.out.size q)
        clear q
        try rw [splat_any _ _ (by rfl)]
        refine ⟨keepsL_mk (by kernel_rfl) (.cons (by exact Z.out) (.cons (by exact X.out) .nil)), ?_⟩
        change wpAnyL _ _ _ _ _ _ _ _ _ (w16'.alloc (.cells (frc f).toArray 24))
        generalize w16'.alloc (.cells (frc f).toArray 24) = w17' at *
        generalize w16'.heap.size = xn at *
        go_simp
        refine wpAnyL_one (i := 4) (by kernel_rfl) ?_
        refine wpOp_do rfl rfl ?_
        have zy2 : b0 < w17'.heap.size := heap_lt B.out
        refine wp_append_rows _ _ _ 48 rfl slFrame (b0 + 1) _ _ _ ((bsK l k).map fun b => frc b.f) (by rfl) IN.out _ 1 1 [frc f] (by rfl) (rd_row (cs := frc f) N2.out) (by simp [frc]) (by simp [frc, Value.oneCell']) (by rw [List.length_map]; simp; omega) (by rw [List.length_map]; unfold maxLen; simp; omega) (by omega) (by rw [List.length_map]) rfl ?_
        intro A6 c6 w18' oN gN
        replace B := hide (heap_grownB B.out gN (own_not IN.out (by omega)))
        replace Z := hide (heap_grown Z.out (by decide) IN.out gN)
        replace RY := hide (rd_grown2 RY.out gN P_RY.out)
        replace Q := hide (below_append Q.out gN IN.out (by omega) (by omega))
        replace IN := hide (show Own w18' (b0 + 1) 24 5 A6 c6 ((bsK l (k + 1)).map fun b => frc b.f) by rw [E.out, List.map_append]; exact oN)
        clear oN gN N2 zy2 X P_RY
        refine ⟨keepsL_mk (by kernel_rfl) (.cons (by exact Z.out) (.past (by kernel_rfl) .nil)), ?_⟩
        go_simp
        refine wpAnyL_one (i := 5) (by kernel_rfl) ?_
        refine wpOp_do rfl rfl ?_
        have Tw19' := hide (show World.there _ b0 0 7 from there_heap (cs := x.cs) B.out)
        refine wp_store_as 31 (.tmp 5) (.tmp 71) rfl b0 0 y.cs (by rfl) (by rfl) (by exact Tw19'.out) (by kernel_rfl) (by simp [Value.oneCell', Fi.cs]) ?_
        intro w19' ew19'
        replace Z := hide (show w19'.heap[x11]? = some (.cells y.cs.toArray 31 (0, 0)) by rw [ew19']; exact other_heap (by omega) _ _ _ Z.out)
        replace RY := hide (show Rd w19' w19'.heap.size y.A 7 (y.m.map bxc) by rw [ew19']; exact off_set RY.out O_RY_B.out _ _)
        replace IN := hide (show Own w19' (b0 + 1) 24 5 A6 c6 ((bsK l (k + 1)).map fun b => frc b.f) by rw [ew19']; exact own_setCells (by omega) _ _ _ IN.out)
        replace Q := hide (show Below w.heap.size w w19' by rw [ew19']; exact Q.out.trans (below_setCells _ _ _ (by have := Q.out.size; omega)))
        replace B := hide (show w19'.heap[b0]? = some (.cells y.cs.toArray 31 (0, 0)) by rw [ew19']; exact whole_heap y.cs (xs := x.cs) B.out rfl)
        clear ew19' Tw19'
        refine ⟨keepsL_all (by kernel_rfl) (by kernel_rfl), ?_⟩
        go_simp
        refine wpAnyL_one (i := 6) (by kernel_rfl) ?_
        refine wpOp_do rfl rfl ?_
        go_simp
        refine ⟨keepsL_all (by kernel_rfl) (by kernel_rfl), ?_⟩
        go_simp
        refine wpAnyL_done (by kernel_rfl) ?_ _
        have NL := hide (show (bsK l k).length + 1 = (bsK l (k + 1)).length by rw [E.out]; simp)
        go_wp2_with fail
        go_roundw
        case rel => exact ⟨k + 1, by omega, by go_num, y, A6, c6, by rw [NL.out], CY, IN, B, RY, Q⟩
        case measure => simp [intOf]; omega
      · obtain rfl : k = l.length := by omega
        go_wp2_with fail
        go_meet
        exact ⟨x, Ai, ci, rfl, CX, IN, B, RX, Q⟩
  case rest =>
  clear B RX Q C0
  obtain ⟨x, Ai, ci, rfl, CX, IN, B, RX, Q⟩ := hcut
  obtain ⟨bs, hbs⟩ : ∃ bs, bs = bsK l l.length := ⟨_, rfl⟩
  have CT := hide (CtX.start HID.out CX.out)
  have hbl := bsK_len l l.length
  rw [← hbs] at CT IN hbl ⊢
  clear hbs
  have OR := hide (show Calls Tryd.prog 13 #[.slice Ai bs.length ci] wc fun e w' => ∃ Ao co, e = .returned (.slice Ao bs.length co) ∧ Rd w' w'.heap.size Ao 5 ((orderF (bs.map (·.f))).map frc) ∧ Fresh wc.heap.size Ao ∧ bs.length ≤ co ∧ Below wc.heap.size wc w' from by
    have h := refOrder_any (bs.map (·.f)) Ai ci wc (by have := IN.out.rd (sz := 5) (by intro r hr; obtain ⟨x, _, rfl⟩ := List.mem_map.1 hr; rfl); unfold FrR; rw [List.map_map]; exact this) (by rw [List.length_map]; omega) (by
      intro f hf
      obtain ⟨x, hx, rfl⟩ := List.mem_map.1 hf
      exact ⟨(CT.out.t.ok x hx).1.1, (CT.out.t.ok x hx).2.1⟩)
    rw [List.length_map] at h
    refine h.mono ?_
    rintro e w' ⟨Ao, co, rfl, h1, h2, h3, q⟩
    rw [OP.orderF_len, List.length_map] at *
    exact ⟨Ao, co, rfl, h1, h3, h2, q⟩)
  obtain ⟨ins, hins⟩ : ∃ ins, ins = bs.map (·.f) := ⟨_, rfl⟩
  have HIL := hide (show ins.length = bs.length by rw [hins, List.length_map])
  rw [← hins] at CT OR
  clear hins CX
  have hbl8 : bs.length ≤ 8 := by omega
  have HOL := hide (OP.orderF_len ins)
  obtain ⟨a, ea, ha⟩ := run_max (P := Tryd.prog) dn 0
  obtain ⟨b, eb, hb⟩ := run_min (P := Tryd.prog) a (bs.length : Int)
  obtain ⟨n, hn⟩ : ∃ n : Nat, b = n := ⟨b.toNat, by omega⟩
  subst hn
  have hnb : n ≤ bs.length := by omega
  clear ea eb hbl
  go_wp2_with fail
  (with_reducible refine (OR.out).mono ?_)
  rintro e1 w1 ⟨Ao, co, rfl, FO, hFO, hco, q⟩
  replace FO := hide FO
  have OFB := hide (off_fresh (n := ((orderF ins).map frc).length) hFO (heap_lt B.out))
  clear hFO
  replace B := hide (heap_below B.out q)
  replace RX := hide (Rd.next RX.out q q.size)
  replace Q := hide (below_next Q.out Q.out.size q)
  clear q
  clear OR IN
  have hrun := run_to (P := Tryd.prog) 48 24 Tryd.underlying48 5 (fun W => by kernel_rfl) Ao bs.length co (n : Int) n rfl (by omega)
  have hmm := @run_makeMap Tryd.prog
  go_upto_region 17 with fail
  clear ha hb hmm
  have MS := hide (MSet.made w1)
  have q : Below w1.heap.size w1 (w1.alloc (.map #[] 0)) := (Below.refl _ _).alloc (Nat.le_refl _) _
  have zBm := heap_lt B.out
  have zwm := Q.out.size
  have O_FO_M := hide (off_new (x := w1.heap.size) FO.out (Nat.le_refl _))
  have O_FO_B := OFB
  replace B := hide (heap_below B.out q)
  replace RX := hide (Rd.next RX.out q q.size)
  replace FO := hide (Rd.next FO.out q q.size)
  replace Q := hide (below_next Q.out Q.out.size q)
  clear q
  generalize w1.alloc (.map #[] 0) = w5 at *
  generalize w1.heap.size = mb at *
  go_wp2_with fail
  clear hrun
  go_loopw [89] (fun vi W => ∃ (j : Nat) (last : Int) (x : Fi) (bs2 : List Bx) (s : Int → Bool), j ≤ n ∧ vi = .int .i64 j ∧ Hid (CtX ins bs.length j last x bs2 s) ∧ Hid (MSet W mb j s) ∧ Hid (W.heap[b0]? = some (.cells x.cs.toArray 31 (0, 0))) ∧ Hid (Rd W W.heap.size x.A 7 (x.m.map bxc)) ∧ Hid (Rd W W.heap.size Ao 5 ((orderF ins).map frc)) ∧ Hid (Below w.heap.size w W)) (fun vi _ => n - (intOf vi).toNat)
  case atStart => exact ⟨0, -1, x, bs, fun _ => false, Nat.zero_le _, rfl, CT, MS, B, RX, FO, Q⟩
  case round =>
    clear CT MS B RX FO Q
    obtain ⟨j, last, x, bs2, s, hj, rfl, CT, MS, B, RX, FO, Q⟩ := hrel
    by_cases hlt : j < n
    · have hji : (j : Int) < (n : Int) := by omega
      have hj0 : ¬ (j : Int) < 0 := by omega
      have hjo : j < (orderF ins).length := by rw [HOL.out, HIL.out]; omega
      have hji2 : j < ins.length := by rw [HIL.out]; omega
      obtain ⟨g, off, hA, -, hra⟩ := fr_at23 FO.out hjo
      subst hA
      have PA := hide hra
      have ST := hide (fun (y : Fi) (h : NextY x y) => CT.out.step hji2 h)
      have hgf : FP.rightB (orderF ins)[j] = true := by
        obtain ⟨b, hb, he⟩ : ∃ b ∈ bs2, (orderF ins)[j] = b.f := by
          have h1 := CT.out.t.drop
          have h2 : (orderF ins)[j] ∈ (orderF ins).drop j := by rw [List.drop_eq_getElem_cons hjo]; exact List.mem_cons_self
          rw [h1] at h2
          obtain ⟨b, hb, he⟩ := List.mem_map.1 ((OP.orderF_perm _).mem_iff.1 h2)
          exact ⟨b, hb, he.symm⟩
        rw [he]
        exact (CT.out.t.ok b hb).1.1
      have NX := hide (fun (W : World) (h : Rd W W.heap.size x.A 7 (x.m.map bxc)) => show Calls Tryd.prog 8 #[.agg x.cs.toArray, .agg zCl.cs.toArray] W fun e w' => ∃ (y : Fi) (hd : Int) (last' : Int) (bs' : List Bx), e = .returned (.tuple #[.agg y.cs.toArray, .agg (zCl.give (orderF ins)[j]).cs.toArray, .int .i64 0]) ∧ Rd w' w'.heap.size y.A 7 (y.m.map bxc) ∧ Fresh W.heap.size y.A ∧ Hid (y.Okp ∧ y.has = hd ∧ 0 ≤ hd ∧ hd ≤ 1000000 ∧ s hd = false ∧ CtX ins bs.length (j + 1) last' y.done bs' (fun q => if q = hd then true else s q)) ∧ Below W.heap.size W w' from by
        have hm : 0 < x.m.length := by have := CT.out.mlen (by omega); omega
        have hok := CT.out.okp (by omega)
        refine (cnNext_take x zCl W (hok.at_ h) zCl_ok CT.out.on rfl CT.out.has hm).mono ?_
        rintro e w' ⟨y, rfl, i1, i2, i3, q⟩
        obtain ⟨last', bs', e1, e2, e3, e4, e5⟩ := ST.out y i3.out
        exact ⟨y, _, last', bs', by rw [e1], i1, i2, ⟨i3.out.okp hok CT.out.on hm, e4, e3.1, e3.2, e2, e5⟩, q⟩)
      clear ST hra CT
      generalize (orderF ins)[j] = fj at *
      have X := World.alloc_heap_new wr (.cells (frc zFr).toArray 24)
      have zBx16 : b0 < wr.heap.size := heap_lt B.out
      have O_RX_X := hide (off_new (x := wr.heap.size) RX.out (by omega))
      have O_FO_X := hide (off_new (x := wr.heap.size) FO.out (by omega))
      have zQx16 : w.heap.size ≤ wr.heap.size := Q.out.size
      have zMSx16 := MS.out.lt
      obtain ⟨w21', hw21'⟩ : ∃ wx, wx = wr.alloc (.cells (frc zFr).toArray 24) := ⟨_, rfl⟩
      have q20' := hide (show Below wr.heap.size wr w21' by rw [hw21']; exact (Below.refl _ _).alloc (Nat.le_refl _) _)
      rw [← hw21'] at X
      replace X := hide X
      have Tw22' := hide (show (wr.alloc (.cells (frc zFr).toArray 24)).there wr.heap.size 0 5 by rw [← hw21']; exact there_heap (cs := frc zFr) X.out)
      go_wp2_with (first | (refine wpList_load_mid rfl 24 (.tmp 91) (by rfl) g (off + j * 5) (by rfl) (frc fj) _ (by exact PA.out) Tryd.underlying24 (by rfl) (by kernel_rfl) ?_) | (refine wpList_store_hid (by rfl) 24 (.tmp 16) (.tmp 92) (by rfl) wr.heap.size 0 (frc fj) (by rfl) (by rfl) (by exact Tw22'.out) (by kernel_rfl) (by simp [Value.oneCell', frc]) ?_))
      intro w22' ew22'
      replace ew22' : Hid (w22' = w21'.setCells wr.heap.size 0 (frc fj)) := by rw [hw21']; exact ew22'
      replace X := hide (show w22'.heap[wr.heap.size]? = some (.cells (frc fj).toArray 24 (0, 0)) by rw [ew22'.out]; exact whole_heap (frc fj) (xs := frc zFr) X.out rfl)
      replace q20' := hide (show Below wr.heap.size wr w22' by rw [ew22'.out]; exact q20'.out.trans (below_setCells _ _ _ (by omega)))
      clear ew22' Tw22' hw21'
      replace B := hide (heap_below B.out q20'.out)
      replace MS := hide (MS.out.below q20'.out)
      replace RX := hide (Rd.next RX.out q20'.out q20'.out.size)
      replace FO := hide (Rd.next FO.out q20'.out q20'.out.size)
      replace Q := hide (below_next Q.out Q.out.size q20'.out)
      clear q20'
      generalize wr.heap.size = x16 at *
      clear PA
      go_upto_region 20 with fail
      have zpB := heap_lt B.out
      have zpX := heap_lt X.out
      have zpMS := MS.out.lt
      refine canifOrder_r20 w22' b0 x (fun (y : Fi) (d : Cl) => d = zCl.give fj ∧ ∃ (hd last' : Int) (bs' : List Bx), y.Okp ∧ y.has = hd ∧ 0 ≤ hd ∧ hd ≤ 1000000 ∧ s hd = false ∧ CtX ins bs.length (j + 1) last' y.done bs' (fun q => if q = hd then true else s q)) (by rfl) (hide fun W q => (NX.out W (RX.out.next q q.size)).mono (by rintro e w' ⟨y, hd, last', bs', he, i1, i2, i3, q2⟩; exact ⟨y, _, he, i1, i2, ⟨rfl, hd, last', bs', i3.out⟩, q2⟩)) B (by intro _ _ d9 _ _ h; cases d9 <;> exact h) ?_
      intro u17 u18 u19 u93 u94 u95 u96 u97 u98 u99 wc hcut
      obtain ⟨k17, k18, y, d, rfl, rfl, rfl, N17, N18, RY, FRY, HY, zk17, zk18, zn17, qc⟩ := hcut
      have q := qc.out
      clear qc
      replace B := hide (heap_below B.out q)
      replace X := hide (heap_below X.out q)
      replace MS := hide (MS.out.below q)
      replace RX := hide (Rd.next RX.out q q.size)
      replace FO := hide (Rd.next FO.out q q.size)
      replace Q := hide (below_next Q.out Q.out.size q)
      clear q
      have FY := hide (show Fresh (mb + 1) y.A from FRY.out.mono zpMS)
      obtain ⟨rfl, hd, last', bs', HY2⟩ := HY.out
      replace HY := hide HY2
      clear HY2 FRY
      clear RX NX
      obtain ⟨hyo, hyh, hh0, hh1, hsd, hct⟩ := HY.out
      have DO := hide (fun (W : World) (h : Rd W W.heap.size y.A 7 (y.m.map bxc)) => show Calls Tryd.prog 14 #[.agg y.cs.toArray] W fun e w' => e = .returned (.tuple #[.agg y.done.cs.toArray, .int .i64 hd, .int .i64 0]) ∧ Below W.heap.size W w' from by
        have h2 := cnDone_ok y W (hyo.at_ h) (by rw [hyh]; omega)
        rwa [hyh] at h2)
      have CT2 := hide hct
      have O_RY_B := hide (off_fresh (n := (y.m.map bxc).length) FY.out (show b0 < mb + 1 by omega))
      have O_RY_M := hide (off_fresh (n := (y.m.map bxc).length) FY.out (show mb < mb + 1 by omega))
      clear HY FY hyo hyh hct
      have R1 := hide (DO.out wc RY.out)
      clear DO
      go_wp2_with (refine wpList_load_row rfl 31 (.tmp 17) (by rfl) k17 (by rfl) 31 y.cs.toArray (0, 0) _ (by exact N17.out) Tryd.underlying31 (by rfl) (by kernel_rfl) ?_)
      (with_reducible refine (R1.out).mono ?_)
      rintro ew23' w23' ⟨rfl, qw23'⟩
      replace B := hide (heap_below B.out qw23')
      replace X := hide (heap_below X.out qw23')
      replace N17 := hide (heap_below N17.out qw23')
      replace N18 := hide (heap_below N18.out qw23')
      replace MS := hide (MS.out.below qw23')
      replace FO := hide (Rd.next FO.out qw23' qw23'.size)
      replace RY := hide (Rd.next RY.out qw23' qw23'.size)
      replace Q := hide (below_next Q.out Q.out.size qw23')
      clear qw23'
      clear R1
      have N20 := World.alloc_heap_new w23' (.cells zFi.cs.toArray 31)
      have zBx20 : b0 < w23'.heap.size := heap_lt B.out
      have zXx20 : x16 < w23'.heap.size := heap_lt X.out
      have zN17x20 : k17 < w23'.heap.size := heap_lt N17.out
      have zN18x20 : k18 < w23'.heap.size := heap_lt N18.out
      have O_FO_N20 := hide (off_new (x := w23'.heap.size) FO.out (by omega))
      have O_RY_N20 := hide (off_new (x := w23'.heap.size) RY.out (by omega))
      have zQx20 : w.heap.size ≤ w23'.heap.size := Q.out.size
      have zMSx20 := MS.out.lt
      obtain ⟨w25', hw25'⟩ : ∃ wx, wx = w23'.alloc (.cells zFi.cs.toArray 31) := ⟨_, rfl⟩
      have q24' := hide (show Below w23'.heap.size w23' w25' by rw [hw25']; exact (Below.refl _ _).alloc (Nat.le_refl _) _)
      rw [← hw25'] at N20
      replace N20 := hide N20
      have Tw26' := hide (show (w23'.alloc (.cells zFi.cs.toArray 31)).there w23'.heap.size 0 7 by rw [← hw25']; exact there_heap (cs := zFi.cs) N20.out)
      go_wp2_with (refine wpList_store_hid (by rfl) 31 (.tmp 20) (.tmp 103) (by rfl) w23'.heap.size 0 y.done.cs (by rfl) (by rfl) (by exact Tw26'.out) (by kernel_rfl) (by simp [Value.oneCell', Fi.cs]) ?_)
      intro w26' ew26'
      replace ew26' : Hid (w26' = w25'.setCells w23'.heap.size 0 y.done.cs) := by rw [hw25']; exact ew26'
      replace N20 := hide (show w26'.heap[w23'.heap.size]? = some (.cells y.done.cs.toArray 31 (0, 0)) by rw [ew26'.out]; exact whole_heap y.done.cs (xs := zFi.cs) N20.out rfl)
      replace q24' := hide (show Below w23'.heap.size w23' w26' by rw [ew26'.out]; exact q24'.out.trans (below_setCells _ _ _ (by omega)))
      clear ew26' Tw26' hw25'
      replace B := hide (heap_below B.out q24'.out)
      replace X := hide (heap_below X.out q24'.out)
      replace N17 := hide (heap_below N17.out q24'.out)
      replace N18 := hide (heap_below N18.out q24'.out)
      replace MS := hide (MS.out.below q24'.out)
      replace FO := hide (Rd.next FO.out q24'.out q24'.out.size)
      replace RY := hide (Rd.next RY.out q24'.out q24'.out.size)
      replace Q := hide (below_next Q.out Q.out.size q24'.out)
      clear q24'
      generalize w23'.heap.size = x20 at *
      have GT := MS.out.get hd (i64_wf hh0 hh1)
      rw [hsd] at GT
      obtain ⟨-, ⟨-, -, -, -, k8⟩, -⟩ := cl_cells N18.out
      replace k8 : w26'.cell? ⟨k18, 8, none⟩ = some (.bool true) := k8
      have NQ := fun W => neq_fr fj W
      have PF := hide (show w26'.rangeAt k18 9 (frc fj) from cl_fr23 N18.out)
      go_upto_region 24 with (first | (refine wpList_load_midG (by kernel_rfl) 24 (.tmp 118) (by rfl) k18 9 (by rfl) (frc fj) _ (by exact PF.out) Tryd.underlying24 (by rfl) (by kernel_rfl) ?_) | (refine wpList_load_rowG (by kernel_rfl) 24 (.tmp 16) (by rfl) x16 (by rfl) 24 (frc fj).toArray (0, 0) _ (by exact X.out) Tryd.underlying24 (by rfl) (by kernel_rfl) ?_))
      clear GT k8 NQ PF
      obtain ⟨wm, hmu, ms2, gm⟩ := MS.out.put (by unfold maxLen; omega) hd (i64_wf hh0 hh1) true
      have zmb := MS.out.lt
      replace MS := hide ms2
      replace B := hide (heap_grownB B.out gm (by simp; omega))
      replace N20 := hide (heap_grownB N20.out gm (by simp; omega))
      replace FO := hide (rd_far2 FO.out gm O_FO_M.out)
      replace RY := hide (rd_far2 RY.out gm O_RY_M.out)
      replace Q := hide (Q.out.trans (below_map gm (by omega) (by have := Q.out.size; omega)))
      clear ms2 gm N17 N18 X zmb O_RY_M
      go_upto_region 25 with fail
      clear hmu
      have Tw27' := hide (show World.there _ b0 0 7 from there_heap (cs := x.cs) B.out)
      go_wp2_with (first | (refine wpList_load_row rfl 31 (.tmp 20) (by rfl) x20 (by rfl) 31 y.done.cs.toArray (0, 0) _ (by exact N20.out) Tryd.underlying31 (by rfl) (by kernel_rfl) ?_) | (refine wpList_store_hid (by rfl) 31 (.tmp 5) (.tmp 130) (by rfl) b0 0 y.done.cs (by rfl) (by rfl) (by exact Tw27'.out) (by kernel_rfl) (by simp [Value.oneCell', Fi.cs]) ?_))
      intro w27' ew27'
      replace N20 := hide (show w27'.heap[x20]? = some (.cells y.done.cs.toArray 31 (0, 0)) by rw [ew27'.out]; exact other_heap (by omega) _ _ _ N20.out)
      replace FO := hide (show Rd w27' w27'.heap.size (some ⟨g, off, none⟩) 5 ((orderF ins).map frc) by rw [ew27'.out]; exact off_set FO.out O_FO_B.out _ _)
      replace RY := hide (show Rd w27' w27'.heap.size y.A 7 (y.m.map bxc) by rw [ew27'.out]; exact off_set RY.out O_RY_B.out _ _)
      replace MS := hide (show MSet w27' mb (j + 1) (fun y => if y = hd then true else s y) by rw [ew27'.out]; exact MSet.set MS.out (by omega) _ _)
      replace Q := hide (show Below w.heap.size w w27' by rw [ew27'.out]; exact Q.out.trans (below_setCells _ _ _ (by have := Q.out.size; omega)))
      replace B := hide (show w27'.heap[b0]? = some (.cells y.done.cs.toArray 31 (0, 0)) by rw [ew27'.out]; exact whole_heap y.done.cs (xs := x.cs) B.out rfl)
      clear ew27' Tw27'
      go_wp2_with fail
      go_roundw
      case rel => exact ⟨j + 1, last', y.done, bs', _, by omega, by go_num, CT2, MS, B, RY, FO, Q⟩
      case measure => simp [intOf]; omega
    · obtain rfl : n = j := by omega
      have hok := CT.out.okp (by omega)
      have HLOST := hide (ctx_len CT.out (by rw [HIL.out]; exact hnb))
      rw [HIL.out] at HLOST
      have GF := hide (fun (W : World) (h : Rd W W.heap.size x.A 7 (x.m.map bxc)) => cnGo_off x W (hok.at_ h) CT.out.has)
      have hgo : ({ x.go0 with c := 0 } : Fi).Okp := by
        have h1 := hok.cap
        refine ⟨Nat.le_refl _, by simp [Fi.go0], ?_, ⟨Int.le_refl _, by show (-1 : Int) ≤ 1000000; decide⟩, hok.st, ?_, fun _ => ⟨rfl, rfl⟩⟩
        · exact right_iff.2 ⟨h1.1, h1.2.1, by show ((0 : Nat) : Int) ≤ x.cap; omega, h1.2.2.2.1, h1.2.2.2.2, by simp [Fi.go0], by simp [Fi.go0], fun k _ h => absurd h (by simp [Fi.go0])⟩
        · show 0 ≤ min (x.lost + x.m.length) 1099511627776 ∧ min (x.lost + x.m.length) 1099511627776 ≤ 1099511627776
          have := hok.lt
          omega
      obtain ⟨z, hz⟩ : ∃ z : Fi, z = { x.go0 with c := 0 } := ⟨_, rfl⟩
      have HZL := hide (show z.lost = (bs.length : Int) - (n : Int) by rw [hz, ← HLOST.out]; rfl)
      have N0 := hide (fun W => cnNext_same z zCl W (by rw [hz]; exact hgo.at_ Rd.nil) zCl_ok (.inl (by rw [hz]; rfl)))
      have D0 := hide (fun W => cnDone_no z W (by rw [hz]; exact hgo.at_ Rd.nil) (by rw [hz]; rfl))
      rw [← hz] at GF
      have HSN := hide CT.out.sent
      have R1 := hide (GF.out wr RX.out)
      have hw1 : IntKind.i64.wrap ((bs.length : Int) - (n : Int)) = (bs.length : Int) - (n : Int) := IntWalk.i64_in _ (by omega)
      clear hok hgo hz HLOST GF CT MS
      go_wp2_with (refine wpList_load_row rfl 31 (.tmp 5) (by rfl) b0 (by rfl) 31 x.cs.toArray (0, 0) _ (by exact B.out) Tryd.underlying31 (by rfl) (by kernel_rfl) ?_)
      clear RX 
      clear FO 
      (with_reducible refine (R1.out).mono ?_)
      rintro ew28' w28' ⟨rfl, qw28'⟩
      replace B := hide (heap_below B.out qw28')
      replace Q := hide (below_next Q.out Q.out.size qw28')
      clear qw28'
      clear R1
      have N23 := World.alloc_heap_new w28' (.cells zFi.cs.toArray 31)
      have zBk23 : b0 < w28'.heap.size := heap_lt B.out
      have zQk23 : w.heap.size ≤ w28'.heap.size := Q.out.size
      obtain ⟨w30', hw30'⟩ : ∃ wx, wx = w28'.alloc (.cells zFi.cs.toArray 31) := ⟨_, rfl⟩
      have q29' := hide (show Below w28'.heap.size w28' w30' by rw [hw30']; exact (Below.refl _ _).alloc (Nat.le_refl _) _)
      rw [← hw30'] at N23
      replace N23 := hide N23
      have Tw31' := hide (show (w28'.alloc (.cells zFi.cs.toArray 31)).there w28'.heap.size 0 7 by rw [← hw30']; exact there_heap (cs := zFi.cs) N23.out)
      go_wp2_with (refine wpList_store_hid (by rfl) 31 (.tmp 23) (.tmp 135) (by rfl) w28'.heap.size 0 z.cs (by rfl) (by rfl) (by exact Tw31'.out) (by kernel_rfl) (by simp [Value.oneCell', Fi.cs]) ?_)
      intro w31' ew31'
      replace ew31' : Hid (w31' = w30'.setCells w28'.heap.size 0 z.cs) := by rw [hw30']; exact ew31'
      replace N23 := hide (show w31'.heap[w28'.heap.size]? = some (.cells z.cs.toArray 31 (0, 0)) by rw [ew31'.out]; exact whole_heap z.cs (xs := zFi.cs) N23.out rfl)
      replace q29' := hide (show Below w28'.heap.size w28' w31' by rw [ew31'.out]; exact q29'.out.trans (below_setCells _ _ _ (by omega)))
      clear ew31' Tw31' hw30'
      replace B := hide (heap_below B.out q29'.out)
      replace Q := hide (below_next Q.out Q.out.size q29'.out)
      clear q29'
      generalize w28'.heap.size = k23 at *
      go_upto_region 28 with fail
      have zpB := heap_lt B.out
      have zpN23 := heap_lt N23.out
      refine canifOrder_r28 w31' k23 z (by rfl) (hide fun W _ => N0.out W) N23 (by intro _ _ d9 _ _ h; cases d9 <;> exact h) ?_
      intro u25 u26 u27 u137 u138 u139 u140 u141 u142 u143 wc hcut
      obtain ⟨k25, k26, rfl, rfl, rfl, N25, N26, zk25, zk26, zn25, qc⟩ := hcut
      have q := qc.out
      clear qc
      replace B := hide (heap_below B.out q)
      replace N23 := hide (heap_below N23.out q)
      replace Q := hide (below_next Q.out Q.out.size q)
      clear q
      go_wp2_with (refine wpList_load_row rfl 31 (.tmp 23) (by rfl) k23 (by rfl) 31 z.cs.toArray (0, 0) _ (by exact N23.out) Tryd.underlying31 (by rfl) (by kernel_rfl) ?_)
      (with_reducible refine (D0.out _).mono ?_)
      rintro ew32' w32' ⟨rfl, qw32'⟩
      replace B := hide (heap_below B.out qw32')
      replace N23 := hide (heap_below N23.out qw32')
      replace N25 := hide (heap_below N25.out qw32')
      replace N26 := hide (heap_below N26.out qw32')
      replace Q := hide (below_next Q.out Q.out.size qw32')
      clear qw32'
      clear D0
      have N28 := World.alloc_heap_new w32' (.cells zFi.cs.toArray 31)
      have zBk28 : b0 < w32'.heap.size := heap_lt B.out
      have zN23k28 : k23 < w32'.heap.size := heap_lt N23.out
      have zN25k28 : k25 < w32'.heap.size := heap_lt N25.out
      have zN26k28 : k26 < w32'.heap.size := heap_lt N26.out
      have zQk28 : w.heap.size ≤ w32'.heap.size := Q.out.size
      obtain ⟨w34', hw34'⟩ : ∃ wx, wx = w32'.alloc (.cells zFi.cs.toArray 31) := ⟨_, rfl⟩
      have q33' := hide (show Below w32'.heap.size w32' w34' by rw [hw34']; exact (Below.refl _ _).alloc (Nat.le_refl _) _)
      rw [← hw34'] at N28
      replace N28 := hide N28
      have Tw35' := hide (show (w32'.alloc (.cells zFi.cs.toArray 31)).there w32'.heap.size 0 7 by rw [← hw34']; exact there_heap (cs := zFi.cs) N28.out)
      go_wp2_with (refine wpList_store_hid (by rfl) 31 (.tmp 28) (.tmp 147) (by rfl) w32'.heap.size 0 zFi.cs (by rfl) (by rfl) (by exact Tw35'.out) (by kernel_rfl) (by simp [Value.oneCell', Fi.cs]) ?_)
      intro w35' ew35'
      replace ew35' : Hid (w35' = w34'.setCells w32'.heap.size 0 zFi.cs) := by rw [hw34']; exact ew35'
      replace N28 := hide (show w35'.heap[w32'.heap.size]? = some (.cells zFi.cs.toArray 31 (0, 0)) by rw [ew35'.out]; exact whole_heap zFi.cs (xs := zFi.cs) N28.out rfl)
      replace q33' := hide (show Below w32'.heap.size w32' w35' by rw [ew35'.out]; exact q33'.out.trans (below_setCells _ _ _ (by omega)))
      clear ew35' Tw35' hw34'
      replace B := hide (heap_below B.out q33'.out)
      replace N23 := hide (heap_below N23.out q33'.out)
      replace N25 := hide (heap_below N25.out q33'.out)
      replace N26 := hide (heap_below N26.out q33'.out)
      replace Q := hide (below_next Q.out Q.out.size q33'.out)
      clear q33'
      generalize w32'.heap.size = k28 at *
      go_wp2_with fail
      (with_reducible refine (AL.out _).mono ?_)
      rintro ew36' w36' ⟨rfl, qw36'⟩
      replace B := hide (heap_below B.out qw36')
      replace N23 := hide (heap_below N23.out qw36')
      replace N25 := hide (heap_below N25.out qw36')
      replace N26 := hide (heap_below N26.out qw36')
      replace N28 := hide (heap_below N28.out qw36')
      replace Q := hide (below_next Q.out Q.out.size qw36')
      clear qw36'
      clear AL
      obtain ⟨-, ⟨-, -, -, -, p8⟩, -⟩ := cl_cells N26.out
      replace p8 : w36'.cell? ⟨k26, 8, none⟩ = some (.bool false) := p8
      obtain ⟨-, -, -, -, -, c5, -⟩ := fi_cells B.out
      rw [HSN.out] at c5
      obtain ⟨-, -, -, -, -, -, c6⟩ := fi_cells N23.out
      rw [HZL.out] at c6
      go_wp2_with fail
      go_ret
      exact ⟨rfl, Q.out⟩
end Go.Proofs.YtkfedgjepiljiaaDoor
