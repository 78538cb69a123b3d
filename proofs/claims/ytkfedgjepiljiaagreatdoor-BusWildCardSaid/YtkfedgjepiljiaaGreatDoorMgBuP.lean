/- Plain: controllers on one bus, bit by bit. -/
import Derived.Test.YtkfedgjepiljiaaGreatDoorMgCsR
import Derived.Test.YtkfedgjepiljiaaGreatDoorCsOP
import Derived.Test.YtkfedgjepiljiaaGreatDoorMgCsD
import Derived.Test.YtkfedgjepiljiaaGreatDoorCsQ
import Derived.Test.YtkfedgjepiljiaaGreatDoorMgCtC
import Derived.Test.YtkfedgjepiljiaaGreatDoorCsL
import Derived.Test.YtkfedgjepiljiaaGreatDoorMgCtA
import Derived.Test.YtkfedgjepiljiaaGreatDoorMgByB
namespace Go.Proofs.YtkfedgjepiljiaaGreatDoor
open Go.ChangeShapes Go.WideShapes Go.ChangeAt Go.RowKit
open FP (Fr bitsF bodyF tenF)

/-- What a bus has. -/
def lvlB (l : List Cl) : UInt8 := if l.any (fun c => c.drv == 48) = true then 48 else 49
def evB (l : List Cl) : List Mc := l.map fun c => c.samp (lvlB l)
def stpB (l : List Cl) : List Cl := (evB l).map Mc.c
/-- What was seen: when, at which, and what. -/
structure Sn where
  at_ : Int
  who : Int
  kind : Int
  ef : Fr
  bad : Int
def seens (now : Int) : Nat → List Mc → List Sn
  | _, [] => []
  | k, m :: l => if m.kind = 0 then seens now (k + 1) l else ⟨now, k, m.kind, m.ef, m.bad⟩ :: seens now (k + 1) l
/-- Behind k bits. -/
def itB (l : List Cl) : Nat → List Cl
  | 0 => l
  | k + 1 => stpB (itB l k)
def snB (l : List Cl) (now : Int) : Nat → List Sn
  | 0 => []
  | k + 1 => snB l now k ++ seens (now + k) 0 (evB (itB l k))
theorem lvl_bit (l : List Cl) : lvlB l = 48 ∨ lvlB l = 49 := by unfold lvlB; split; exact .inl rfl; exact .inr rfl
theorem stp_len (l : List Cl) : (stpB l).length = l.length := by simp [stpB, evB]
theorem it_len (l : List Cl) : ∀ k, (itB l k).length = l.length
  | 0 => rfl
  | k + 1 => by rw [itB, stp_len, it_len l k]
theorem it_add (l : List Cl) (a : Nat) : ∀ z, itB l (a + z) = itB (itB l a) z
  | 0 => rfl
  | z + 1 => by rw [← Nat.add_assoc, itB, itB, it_add l a z]
theorem sn_add (l : List Cl) (now : Int) (a : Nat) : ∀ z, snB l now (a + z) = snB l now a ++ snB (itB l a) (now + a) z
  | 0 => by simp [snB]
  | z + 1 => by
    rw [← Nat.add_assoc, snB, snB, sn_add l now a z, it_add l a z, List.append_assoc]
    congr 3
    omega
def AllOk (l : List Cl) : Prop := ∀ c ∈ l, c.Ok
theorem AllOk.stp {l : List Cl} (h : AllOk l) : AllOk (stpB l) := by
  intro c hc
  unfold stpB evB at hc
  rw [List.map_map, List.mem_map] at hc
  obtain ⟨d, hd, rfl⟩ := hc
  exact (h d hd).samp _ (lvl_bit l)
theorem AllOk.it {l : List Cl} (h : AllOk l) : ∀ k, AllOk (itB l k)
  | 0 => h
  | k + 1 => (AllOk.it h k).stp
theorem seens_snoc (now : Int) (m : Mc) : ∀ (l : List Mc) (k : Nat), seens now k (l ++ [m]) = seens now k l ++ (if m.kind = 0 then [] else [⟨now, (k + l.length : Nat), m.kind, m.ef, m.bad⟩])
  | [], k => by
    simp only [List.nil_append, seens, List.length_nil, Nat.add_zero]
  | a :: l, k => by
    have h := seens_snoc now m l (k + 1)
    simp only [List.cons_append, seens, h, List.length_cons]
    rw [show k + 1 + l.length = k + (l.length + 1) by omega]
    split <;> simp
theorem seens_le (now : Int) : ∀ (l : List Mc) (k : Nat), (seens now k l).length ≤ l.length
  | [], _ => by simp [seens]
  | a :: l, k => by
    have := seens_le now l (k + 1)
    simp only [seens]
    split <;> simp only [List.length_cons] <;> omega
theorem sn_le (l : List Cl) (now : Int) : ∀ k, (snB l now k).length ≤ k * l.length
  | 0 => by simp [snB]
  | k + 1 => by
    have h1 := sn_le l now k
    have h2 := seens_le (now + k) (evB (itB l k)) 0
    have h3 : (evB (itB l k)).length = l.length := by simp [evB, it_len]
    rw [snB, List.length_append, Nat.add_mul]
    omega
end Go.Proofs.YtkfedgjepiljiaaGreatDoor

/- Walks of ctl.Submit and Cancel of any controller that may be. -/
namespace Go.Proofs.YtkfedgjepiljiaaGreatDoor
open Go.ChangeShapes Go.WideShapes Go.ChangeAt Go.RowKit
open FP (Fr)

/-- With nothing to send. -/
def Cl.drop1 (c : Cl) : Cl := { c with has := false, f := zFr }
def Cl.subC (c : Cl) (f : Fr) : Cl := if FP.rightB f = false then zCl else if c.has = true then zCl else c.give f
def Cl.subE (c : Cl) (f : Fr) : Int := if FP.rightB f = false then 1 else if c.has = true then 20 else 0
def Cl.canC (c : Cl) : Cl := if c.has = false then zCl else if c.sends = true then zCl else c.drop1
def Cl.canE (c : Cl) : Int := if c.has = false then 21 else if c.sends = true then 20 else 0
theorem Cl.Ok.give {c : Cl} (h : c.Ok) (hn : c.has = false) {f : Fr} (hf : FP.rightB f = true) : (c.give f).Ok :=
  ⟨h.cnt, h.offs, fun _ => hf, (fun e => by cases e), h.s0, h.s8, h.n0, h.n9, h.n5, fun e => h.out e, fun e => by
    obtain ⟨a1, a2, a3, a4, a5, a6, a7, a8, a9, b1, b2, b3, b4, b6, b7⟩ := h.inn e
    exact ⟨a1, a2, a3, a4, a5, a6, a7, a8, a9, b1, b2, b3, b4, b6, fun s => absurd (b7 s).1 (by rw [hn]; decide)⟩⟩
theorem Cl.Ok.drop1 {c : Cl} (h : c.Ok) (hs : c.sends = false) : c.drop1.Ok :=
  ⟨h.cnt, h.offs, (fun e => by cases e), fun _ => rfl, h.s0, h.s8, h.n0, h.n9, h.n5, fun e => h.out e, fun e => by
    obtain ⟨a1, a2, a3, a4, a5, a6, a7, a8, a9, b1, b2, b3, b4, b6, b7⟩ := h.inn e
    exact ⟨a1, a2, a3, a4, a5, a6, a7, a8, a9, b1, b2, b3, b4, b6, fun s => absurd (hs.symm.trans s) (by decide)⟩⟩

set_option maxRecDepth 100000 in
set_option maxHeartbeats 8000000 in
theorem ctlSubmit_ok (c : Cl) (f : Fr) (w : World) (hq : c.Ok) (hid : f.id < 4294967296) : Calls Tryz.prog 16 #[.agg c.cs.toArray, .agg (frc f).toArray] w fun e w' =>
    e = .returned (.tuple #[.agg (c.subC f).cs.toArray, .int .i64 (c.subE f)]) ∧ Below w.heap.size w w' := by
  obtain ⟨w0, hw0⟩ : ∃ w0, w0 = ((w.alloc (.cells c.cs.toArray 33)).alloc (.cells (frc f).toArray 29)).alloc (.cells zCl.cs.toArray 33) := ⟨_, rfl⟩
  have step : ∀ (W : World) (o : Obj), Below W.heap.size W (W.alloc o) := fun W o => (Below.refl _ _).alloc (Nat.le_refl _) _
  have B0 := hide (heap_below (heap_below (World.alloc_heap_new w (.cells c.cs.toArray 33)) (step _ (.cells (frc f).toArray 29))) (step _ (.cells zCl.cs.toArray 33)))
  have G0 := hide (heap_below (World.alloc_heap_new (w.alloc (.cells c.cs.toArray 33)) (.cells (frc f).toArray 29)) (step _ (.cells zCl.cs.toArray 33)))
  have R0 := hide (World.alloc_heap_new ((w.alloc (.cells c.cs.toArray 33)).alloc (.cells (frc f).toArray 29)) (.cells zCl.cs.toArray 33))
  have Q0 : Hid (Below w.heap.size w w0) := by rw [hw0]; exact hide (((step _ _).alloc (by simp) _).alloc (by simp; omega) _)
  rw [← hw0] at B0 G0 R0
  simp only [World.size_alloc] at G0 R0
  have RT := hide (ctlRight_ok c w0 hq)
  have FRR := hide (fun W => show Calls Tryz.prog 13 #[.agg (frc f).toArray] W _ from frRight_any f W hid)
  obtain ⟨b, hb⟩ : ∃ b, b = FP.rightB f := ⟨_, rfl⟩
  rw [← hb] at FRR
  obtain ⟨z, hz⟩ : ∃ z, z = c.subC f := ⟨_, rfl⟩
  obtain ⟨ze, hze⟩ : ∃ ze, ze = c.subE f := ⟨_, rfl⟩
  rw [← hz, ← hze]
  have HZ := hide (show z = if b = false then zCl else if c.has = true then zCl else c.give f by rw [hz, hb]; rfl)
  have HE := hide (show ze = if b = false then 1 else if c.has = true then 20 else 0 by rw [hze, hb]; rfl)
  clear hb step hz hze hq
  go_enter Tryz.func16, Tryz.ntmps16
  go_upto_region 1 with fail
  change Code.wp _ _ _ _ (((w.alloc (.cells c.cs.toArray 33)).alloc (.cells (frc f).toArray 29)).alloc (.cells zCl.cs.toArray 33))
  rw [← hw0]
  clear hw0
  go_wp2_with (refine wpList_load_row rfl 33 (.tmp 2) (by rfl) w.heap.size (by rfl) 33 c.cs.toArray (0, 0) _ (by exact B0.out) Tryz.underlying33 (by rfl) (by kernel_rfl) ?_)
  (with_reducible refine (RT.out).mono ?_)
  rintro e1 w1 ⟨rfl, q1⟩
  have B1 := hide (heap_below B0.out q1)
  have G1 := hide (heap_below G0.out q1)
  have R1 := hide (heap_below R0.out q1)
  have Q1 := hide (below_next Q0.out Q0.out.size q1)
  have FR1 := hide (FRR.out w1)
  clear q1 B0 G0 R0 Q0 RT FRR
  go_wp2_with (refine wpList_load_rowG (by kernel_rfl) 29 (.tmp 3) (by rfl) (w.heap.size + 1) (by rfl) 29 (frc f).toArray (0, 0) _ (by exact G1.out) Tryz.underlying29 (by rfl) (by kernel_rfl) ?_)
  (with_reducible refine (FR1.out).mono ?_)
  rintro e2 w2 ⟨rfl, q2⟩
  have B2 := hide (heap_below B1.out q2)
  have G2 := hide (heap_below G1.out q2)
  have R2 := hide (heap_below R1.out q2)
  have Q2 := hide (below_next Q1.out Q1.out.size q2)
  clear q2 B1 G1 R1 Q1 FR1
  have TR := hide (show w2.there (w.heap.size + 1 + 1) 0 23 from there_heap (cs := zCl.cs) R2.out)
  cases b with
  | false =>
    go_wp2_with (refine wpList_store_hid (by rfl) 33 (.tmp 4) (.tmp 15) (by rfl) (w.heap.size + 1 + 1) 0 zCl.cs (by rfl) (by rfl) (by exact TR.out) (by kernel_rfl) (by simp [Value.oneCell', Cl.cs]) ?_)
    intro w3 e3
    have R3 := hide (show w3.heap[w.heap.size + 1 + 1]? = some (.cells zCl.cs.toArray 33 (0, 0)) by rw [e3.out]; exact whole_heap zCl.cs (xs := zCl.cs) R2.out rfl)
    have Q3 := hide (show Below w.heap.size w w3 by rw [e3.out]; exact Q2.out.trans (below_setCells (g := w.heap.size + 1 + 1) _ 0 _ (by omega)))
    clear e3 TR B2 G2 R2 Q2
    go_wp2_with fail
    refine bodyPost_ret (results_cell_tmp (by rfl) _ w3 (w.heap.size + 1 + 1) 33 zCl.cs.toArray (0, 0) _ (.int .i64 1) (by rfl) (by rfl) R3.out Tryz.underlying33 (by rfl) (by kernel_rfl)) rfl ⟨by rw [HZ.out, HE.out]; rfl, Q3.out⟩
  | true =>
    obtain ⟨_, ⟨_, _, _, _, c8⟩, _⟩ := cl_cells B2.out
    rcases Bool.eq_false_or_eq_true c.has with hh | hh
    · rw [hh] at c8
      have HZ2 := hide (show z = zCl by rw [HZ.out, hh]; rfl)
      have HE2 := hide (show ze = 20 by rw [HE.out, hh]; rfl)
      clear hh HZ HE
      go_wp2_with (refine wpList_store_hid (by rfl) 33 (.tmp 4) (.tmp 19) (by rfl) (w.heap.size + 1 + 1) 0 zCl.cs (by rfl) (by rfl) (by exact TR.out) (by kernel_rfl) (by simp [Value.oneCell', Cl.cs]) ?_)
      intro w3 e3
      have R3 := hide (show w3.heap[w.heap.size + 1 + 1]? = some (.cells zCl.cs.toArray 33 (0, 0)) by rw [e3.out]; exact whole_heap zCl.cs (xs := zCl.cs) R2.out rfl)
      have Q3 := hide (show Below w.heap.size w w3 by rw [e3.out]; exact Q2.out.trans (below_setCells (g := w.heap.size + 1 + 1) _ 0 _ (by omega)))
      clear e3 TR B2 G2 R2 Q2 c8
      go_wp2_with fail
      refine bodyPost_ret (results_cell_tmp (by rfl) _ w3 (w.heap.size + 1 + 1) 33 zCl.cs.toArray (0, 0) _ (.int .i64 20) (by rfl) (by rfl) R3.out Tryz.underlying33 (by rfl) (by kernel_rfl)) rfl ⟨by rw [HZ2.out, HE2.out], Q3.out⟩
    rw [hh] at c8
    have HZ2 := hide (show z = c.give f by rw [HZ.out, hh]; rfl)
    have HE2 := hide (show ze = 0 by rw [HE.out, hh]; rfl)
    clear hh HZ HE
    go_wp2_with fail
    refine wp_region_L [0, 1] [(0, fun W => W.heap[w.heap.size + 1]? = some (.cells (frc f).toArray 29 (0, 0)))] (by kernel_rfl) ?_
    replace B2 := hide (show w2.drew.heap[_]? = _ from B2.out)
    replace G2 := hide (show w2.drew.heap[_]? = _ from G2.out)
    replace R2 := hide (show w2.drew.heap[_]? = _ from R2.out)
    replace Q2 := hide (show Below w.heap.size w w2.drew from Q2.out.drew)
    clear TR c8
    generalize w2.drew = w3 at *
    refine wpAnyL_load (i := 0) (v := .agg (frc f).toArray) rfl rfl (by kernel_rfl) (by kernel_rfl) (by kernel_rfl) (by kernel_rfl) (by kernel_rfl) (fun _ _ _ h => h) rfl (fun W h => exec_heap W (w.heap.size + 1) 29 _ _ h Tryz.underlying29 rfl (by kernel_rfl) _ _ (.tmp 3) (by rfl) (by rfl)) (G2.out) ?_
    go_simp
    refine wpAnyL_pure (i := 1) (v := .pointer (some ⟨w.heap.size, 8, none⟩)) rfl rfl (by kernel_rfl) (by kernel_rfl) (by kernel_rfl) (by kernel_rfl) (by kernel_rfl) (fun _ _ _ h => h) rfl (fun W => by go_simp) ?_
    go_simp
    obtain ⟨_, ⟨_, _, _, _, c8⟩, _⟩ := cl_cells B2.out
    have f8 := cl_froz B2.out 8
    refine wpAnyL_one (i := 2) (by kernel_rfl) ?_
    refine wpOp_do rfl rfl ?_
    go_simp
    have B3 := hide (heap_setCell_same w3 w.heap.size 8 _ _ (.bool true) B2.out)
    have R3 := hide (show (w3.setCell ⟨w.heap.size, 8, none⟩ (.bool true)).heap[w.heap.size + 1 + 1]? = _ from (heap_setCell_other _ _ _ _ (by simp; omega)).trans R2.out)
    have G3 := hide (show (w3.setCell ⟨w.heap.size, 8, none⟩ (.bool true)).heap[w.heap.size + 1]? = _ from (heap_setCell_other _ _ _ _ (by simp)).trans G2.out)
    have Q3 := hide (Q2.out.setCell (p := ⟨w.heap.size, 8, none⟩) (Nat.le_refl _) (.bool true))
    clear B2 R2 Q2 G2 c8 f8
    generalize w3.setCell ⟨w.heap.size, 8, none⟩ (.bool true) = w4 at *
    refine ⟨keepsL_mk (by kernel_rfl) (.cons G3.out .nil), ?_⟩
    go_simp
    refine wpAnyL_one (i := 3) (by kernel_rfl) ?_
    refine wpOp_do rfl rfl ?_
    go_simp
    refine ⟨keepsL_all (by kernel_rfl) (by kernel_rfl), ?_⟩
    go_simp
    have B4 := hide (show w4.heap[w.heap.size]? = some (.cells (c.cs.set 8 (.bool true)).toArray 33 (0, 0)) by simpa using B3.out)
    have TB := hide (there_sub (there_heap B4.out) 9 5 (by simp [Cl.cs]))
    clear B3
    refine wpAnyL_one (i := 4) (by kernel_rfl) ?_
    refine wpOp_do rfl rfl ?_
    refine wp_store_as 29 (.tmp 22) (.tmp 20) rfl w.heap.size 9 (frc f) (by rfl) (by rfl) (by exact TB.out) (by kernel_rfl) (by simp [Value.oneCell', frc]) ?_
    intro w5 e5
    have B5 := hide (show w5.heap[w.heap.size]? = some (.cells (c.give f).cs.toArray 33 (0, 0)) by rw [e5]; exact set_heap (frc f) (c.cs.set 8 (.bool true)) 9 w4 B4.out)
    have R5 := hide (show w5.heap[w.heap.size + 1 + 1]? = some (.cells zCl.cs.toArray 33 (0, 0)) by rw [e5]; exact other_heap (by omega) _ _ _ R3.out)
    have Q5 := hide (show Below w.heap.size w w5 by rw [e5]; exact Q3.out.trans (below_setCells _ _ _ (Nat.le_refl _)))
    clear e5 TB B4 R3 Q3 G3
    refine ⟨keepsL_all (by kernel_rfl) (by kernel_rfl), ?_⟩
    go_simp
    refine wpAnyL_done (by kernel_rfl) ?_ _
    generalize hd : c.give f = d at *
    have HD := hide hd
    clear hd
    have TR := hide (show w5.there (w.heap.size + 1 + 1) 0 23 from there_heap (cs := zCl.cs) R5.out)
    go_wp2_with (first | (refine wpList_load_row rfl 33 (.tmp 2) (by rfl) w.heap.size (by rfl) 33 d.cs.toArray (0, 0) _ (by exact B5.out) Tryz.underlying33 (by rfl) (by kernel_rfl) ?_) | (refine wpList_store_hid (by rfl) 33 (.tmp 4) (.tmp 23) (by rfl) (w.heap.size + 1 + 1) 0 d.cs (by rfl) (by rfl) (by exact TR.out) (by kernel_rfl) (by simp [Value.oneCell', Cl.cs]) ?_))
    intro w6 e6
    have R6 := hide (show w6.heap[w.heap.size + 1 + 1]? = some (.cells d.cs.toArray 33 (0, 0)) by rw [e6.out]; exact whole_heap d.cs (xs := zCl.cs) R5.out rfl)
    have Q6 := hide (show Below w.heap.size w w6 by rw [e6.out]; exact Q5.out.trans (below_setCells (g := w.heap.size + 1 + 1) _ 0 _ (by omega)))
    clear e6 TR B5 R5 Q5
    go_wp2_with fail
    refine bodyPost_ret (results_cell_tmp (by rfl) _ w6 (w.heap.size + 1 + 1) 33 d.cs.toArray (0, 0) _ (.int .i64 0) (by rfl) (by rfl) R6.out Tryz.underlying33 (by rfl) (by kernel_rfl)) rfl ⟨by rw [HZ2.out, HE2.out], Q6.out⟩


end Go.Proofs.YtkfedgjepiljiaaGreatDoor

/- Rows of controllers, of events, of what was seen. -/
namespace Go.Proofs.YtkfedgjepiljiaaGreatDoor
open Go.ChangeShapes Go.WideShapes Go.ChangeAt Go.RowKit
open FP (Fr)

def ClR (w : World) (B : Nat) (A : Option Addr) (l : List Cl) : Prop := Rd w B A 23 (l.map Cl.cs)
theorem cs_len (c : Cl) : c.cs.length = 23 := rfl
theorem cl_rows (l : List Cl) : ∀ r ∈ l.map Cl.cs, r.length = 23 := fun r hr => by
  obtain ⟨c, _, rfl⟩ := List.mem_map.1 hr
  rfl
theorem cl_ones (l : List Cl) : ∀ r ∈ l.map Cl.cs, ∀ v ∈ r, v.oneCell' = true := fun r hr => by
  obtain ⟨c, _, rfl⟩ := List.mem_map.1 hr
  simp [Cl.cs, Value.oneCell']
theorem ClR.next {w w' : World} {B : Nat} {A : Option Addr} {l : List Cl} (h : ClR w B A l) (hb : Below B w w') (hB : B ≤ w'.heap.size) : ClR w' w'.heap.size A l := Rd.next h hb hB
/-- A row of a slice, as a range of cells. -/
theorem rd_range {w : World} {B : Nat} {A : Option Addr} {sz : Nat} {R : List (List Value)} (h : Rd w B A sz R) {k : Nat} (hk : k < R.length) : ∃ g off, A = some ⟨g, off, none⟩ ∧ g < B ∧ w.rangeAt g (off + k * sz) R[k] := by
  obtain ⟨b, off, e, hb, hc⟩ := h (by omega)
  exact ⟨b, off, e, hb, fun j v hj => hc k R[k] j v (List.getElem?_eq_getElem hk) hj⟩
theorem ClR.at_ {w : World} {B : Nat} {A : Option Addr} {l : List Cl} (h : ClR w B A l) {k : Nat} (hk : k < l.length) : ∃ g off, A = some ⟨g, off, none⟩ ∧ g < B ∧ w.rangeAt g (off + k * 23) l[k].cs := by
  obtain ⟨g, off, e, hb, hr⟩ := rd_range h (k := k) (by rw [List.length_map]; exact hk)
  rw [List.getElem_map] at hr
  exact ⟨g, off, e, hb, hr⟩
theorem slCl : SlT Tryz.prog 22 33 23 176 := SlT.mk Tryz.underlying22 (z := .agg zCl.cs.toArray) (by kernel_rfl) rfl (by decide)
theorem slEv : SlT Tryz.prog 41 60 7 48 := SlT.mk Tryz.underlying41 (z := .agg (evL 0 zFr 0).toArray) (by kernel_rfl) rfl (by decide)
/-- An event's cells. -/
def evcs (m : Mc) : List Value := evL m.kind m.ef m.bad
def sncs (y : Sn) : List Value := .int .i64 y.at_ :: .int .i64 y.who :: evL y.kind y.ef y.bad
theorem slSn : SlT Tryz.prog 44 62 9 64 := SlT.mk Tryz.underlying44 (z := .agg (sncs ⟨0, 0, 0, zFr, 0⟩).toArray) (by kernel_rfl) rfl (by decide)
/-- A bus: its controllers, and when. -/
def busL (A : Option Addr) (n c : Nat) (now : Int) : List Value := [.slice A n c, .int .i64 now]
theorem bus_cells {W : World} {B : Nat} {A : Option Addr} {n c : Nat} {now : Int} {t : TypeId} {fz : Nat × Nat} (h : W.heap[B]? = some (.cells (busL A n c now).toArray t fz)) : W.cell? ⟨B, 0, none⟩ = some (.slice A n c) ∧ W.cell? ⟨B, 1, none⟩ = some (.int .i64 now) := by
  simp [World.cell?, h, busL]
end Go.Proofs.YtkfedgjepiljiaaGreatDoor
