/- bits.And of rows of one bit each. -/
import Derived.Test.YthkilodnghiocaaGreatDoorOrdL
import Derived.Test.YthkilodnghiocaaGreatDoorMgBuP
import Derived.Test.YthkilodnghiocaaGreatDoorMgFrR
import Derived.Test.YthkilodnghiocaaGreatDoorMgSgP
import Derived.Test.YthkilodnghiocaaGreatDoorMgRes
import Derived.Test.YthkilodnghiocaaGreatDoorMgCsD
import Derived.Test.YthkilodnghiocaaGreatDoorCsQ
import Derived.Test.YthkilodnghiocaaGreatDoorMgCtC
import Derived.Test.YthkilodnghiocaaGreatDoorMgCsL
import Derived.Test.YthkilodnghiocaaGreatDoorMgOff
namespace Go.Proofs.YthkilodnghiocaaGreatDoor
open Go.ChangeShapes Go.WideShapes Go.ChangeAt Go.RowKit
open FP (Fr)

def mB (a b : UInt8) : UInt8 := if a = 48 ∨ b = 48 then 48 else 49
/-- What the first k rows have, and b. -/
def andN (l : List UInt8) (b : UInt8) : Nat → UInt8
  | 0 => b
  | k + 1 => mB (andN l b k) (l.getD k 49)
theorem mB_bit (a b : UInt8) : mB a b = 48 ∨ mB a b = 49 := by unfold mB; split; exact .inl rfl; exact .inr rfl
theorem andN_bit (l : List UInt8) {b : UInt8} (hb : b = 48 ∨ b = 49) : ∀ k, andN l b k = 48 ∨ andN l b k = 49
  | 0 => hb
  | k + 1 => mB_bit _ _
theorem andN_low (l : List UInt8) {b : UInt8} (hb : b = 48 ∨ b = 49) : ∀ k, andN l b k = 48 ↔ b = 48 ∨ ∃ j, j < k ∧ l.getD j 49 = 48
  | 0 => ⟨fun h => .inl h, fun h => h.elim id (fun ⟨_, hj, _⟩ => absurd hj (by omega))⟩
  | k + 1 => by
    have ih := andN_low l hb k
    show mB (andN l b k) (l.getD k 49) = 48 ↔ _
    unfold mB
    constructor
    · intro h
      split at h
      · rename_i q
        rcases q with q | q
        · rcases ih.1 q with q | ⟨j, hj, q⟩
          · exact .inl q
          · exact .inr ⟨j, by omega, q⟩
        · exact .inr ⟨k, by omega, q⟩
      · exact absurd h (by decide)
    · intro h
      rw [if_pos]
      rcases h with h | ⟨j, hj, h⟩
      · exact .inl (ih.2 (.inl h))
      · by_cases e : j = k
        · subst e; exact .inr h
        · exact .inl (ih.2 (.inr ⟨j, by omega, h⟩))
def andB (l : List UInt8) : UInt8 := if l.any (· == 48) = true then 48 else 49
theorem andN_all {l : List UInt8} (hl : 0 < l.length) (hb : ∀ c ∈ l, c = 48 ∨ c = 49) : andN l (l.getD 0 49) l.length = andB l := by
  have h0 : l.getD 0 49 = 48 ∨ l.getD 0 49 = 49 := by
    rw [List.getD_eq_getElem?_getD, List.getElem?_eq_getElem hl]
    exact hb _ (List.getElem_mem hl)
  have h := andN_low l h0 l.length
  unfold andB
  by_cases q : l.any (· == 48) = true
  · rw [if_pos q, h]
    obtain ⟨c, hc, e⟩ := List.any_eq_true.1 q
    obtain ⟨j, hj, rfl⟩ := List.getElem_of_mem hc
    refine .inr ⟨j, hj, ?_⟩
    rw [List.getD_eq_getElem?_getD, List.getElem?_eq_getElem hj]
    simpa using e
  · rw [if_neg q]
    rcases andN_bit l h0 l.length with e | e
    · exfalso
      apply q
      rw [List.any_eq_true]
      rcases h.1 e with e | ⟨j, hj, e⟩
      · exact ⟨l[0], List.getElem_mem hl, by rw [List.getD_eq_getElem?_getD, List.getElem?_eq_getElem hl] at e; simpa using e⟩
      · exact ⟨l[j], List.getElem_mem hj, by rw [List.getD_eq_getElem?_getD, List.getElem?_eq_getElem hj] at e; simpa using e⟩
    · exact e
/-- Rows of one bit each. -/
def bitRows (l : List UInt8) : List (List Value) := l.map fun b => [.string ⟨#[b]⟩]
theorem bitRows_at {w : World} {B : Nat} {A : Option Addr} {l : List UInt8} (h : Rd w B A 1 (bitRows l)) {k : Nat} (hk : k < l.length) : ∃ g off, A = some ⟨g, off, none⟩ ∧ w.cell? ⟨g, off + k, none⟩ = some (.string ⟨#[l.getD k 49]⟩) := by
  obtain ⟨b, off, e, hb, hc⟩ := h (by unfold bitRows; rw [List.length_map]; omega)
  have hx : (bitRows l)[k]? = some [.string ⟨#[l.getD k 49]⟩] := by
    unfold bitRows
    rw [List.getElem?_map, List.getElem?_eq_getElem hk, List.getD_eq_getElem?_getD, List.getElem?_eq_getElem hk]
    rfl
  have := hc k _ 0 _ hx rfl
  rw [Nat.mul_one, Nat.add_zero] at this
  exact ⟨b, off, e, this⟩

set_option maxRecDepth 100000 in
set_option maxHeartbeats 16000000 in
theorem bitsAnd_one (l : List UInt8) (A : Option Addr) (c : Nat) (w : World) (hr : Rd w w.heap.size A 1 (bitRows l)) (hl : 0 < l.length) (hl4 : l.length ≤ 100) (hb : ∀ c ∈ l, c = 48 ∨ c = 49) :
    Calls Tryz.prog 54 #[.slice A l.length c] w fun e w' => e = .returned (.tuple #[.string ⟨#[andB l]⟩, .int .i64 0]) ∧ Below w.heap.size w w' := by
  have HALL := hide (andN_all hl hb)
  have HBIT := hide (fun k (hk : k < l.length) => show l.getD k 49 = 48 ∨ l.getD k 49 = 49 from by
    rw [List.getD_eq_getElem?_getD, List.getElem?_eq_getElem hk]
    exact hb _ (List.getElem_mem hk))
  obtain ⟨x, hx⟩ : ∃ x, x = l.getD 0 49 := ⟨_, rfl⟩
  have hxb : x = 48 ∨ x = 49 := by rw [hx]; exact HBIT.out 0 hl
  have HAB := hide (andN_bit l hxb)
  rw [← hx] at HALL
  have HR := hide hr
  have hz : (0 : Int) < (l.length : Int) := by omega
  have hne : ((l.length : Int) == 0) = false := by rw [beq_eq_false_iff_ne]; omega
  obtain ⟨ag, ao, rfl, h0⟩ := bitRows_at hr hl
  rw [← hx] at h0
  obtain ⟨r, hrr⟩ : ∃ r, r = andB l := ⟨_, rfl⟩
  rw [← hrr] at HALL ⊢
  obtain ⟨d, hd⟩ : ∃ d : ByteArray, d = ⟨#[x]⟩ := ⟨_, rfl⟩
  rw [← hd, Nat.add_zero] at h0
  have hds : d.size = 1 := by rw [hd]; rfl
  have hcap : d.size ≤ grownCap w d.size 0 5 := grownCap_ge _ _ _ _
  have hcv := run_bytes_of_string (P := Tryz.prog) w 9 110 5 d Tryz.underlying9 Tryz.underlying110 Tryz.underlying5
  have Y3 := hide (ByB.made w.drew d _ hcap)
  generalize grownCap w d.size 0 5 = cap at *
  have q3 : Below w.heap.size w (w.drew.alloc (.cells (bytesRow d cap) 5 ((bytesRow d cap).size, (bytesRow d cap).size + 1))) := (Below.refl _ _).drew.alloc (Nat.le_refl _) _
  have Q3 := hide q3
  have YL : Hid (d.data.toList = [x]) := hide (by rw [hd])
  rw [YL.out] at Y3
  replace Y3 := hide (show ByB (w.drew.alloc (.cells (bytesRow d cap) 5 ((bytesRow d cap).size, (bytesRow d cap).size + 1))) w.heap.size [x] from Y3.out)
  generalize hw3 : w.drew.alloc (.cells (bytesRow d cap) 5 ((bytesRow d cap).size, (bytesRow d cap).size + 1)) = w3 at *
  have hdi : (d.size : Int) = 1 := by omega
  clear hr hb hx hrr hd q3 hxb
  go_enter Tryz.func54, Tryz.ntmps54
  go_wp2_with fail
  go_loopw [17] (fun vi W => ∃ k : Nat, k ≤ l.length ∧ vi = .int .i64 k ∧ Hid (ByB W w.heap.size [andN l x k]) ∧ Hid (Below w.heap.size w W)) (fun vi _ => l.length - (intOf vi).toNat)
  case atStart => exact ⟨0, Nat.zero_le _, rfl, Y3, Q3⟩
  case round =>
    clear Y3 Q3
    obtain ⟨k, hk, rfl, Y, Q⟩ := hrel
    by_cases hlt : k < l.length
    · have hki : (k : Int) < (l.length : Int) := by omega
      obtain ⟨ag2, ao2, hA2, hk0⟩ := bitRows_at (HR.out.next Q.out Q.out.size) hlt
      simp only [Option.some.injEq, Addr.mk.injEq, and_true] at hA2
      obtain ⟨rfl, rfl⟩ := hA2
      have hbk := HBIT.out k hlt
      have hak := HAB.out k
      have HN := hide (show andN l x (k + 1) = mB (andN l x k) (l.getD k 49) from rfl)
      generalize l.getD k 49 = b at *
      have BR := hide (fun W => show Calls Tryz.prog 41 #[.string ⟨#[b]⟩] W fun e w' => e = .returned (.bool true) ∧ Below W.heap.size W w' from by
        have := bitsRight_any ⟨#[b]⟩ W (by unfold maxLen; show 1 ≤ _; omega)
        have e : bitRow (⟨#[b]⟩ : ByteArray).data.toList = true := bitRow_iff.2 ⟨by show 1 ≤ 4000; omega, fun c hc => by
          have : c = b := by simpa using hc
          rw [this]; exact hbk⟩
        rwa [e] at this)
      generalize hgk : andN l x k = a at *
      obtain ⟨bs, hbs⟩ : ∃ bs : ByteArray, bs = ⟨#[b]⟩ := ⟨_, rfl⟩
      rw [← hbs] at BR hk0
      have hbz : bs.size = 1 := by rw [hbs]; rfl
      have hb0 : ∀ h : 0 < bs.size, bs[0] = b := by subst hbs; exact fun _ => rfl
      have HB0 := hide hb0
      clear hgk hbs hb0
      go_wp2_with fail
      (with_reducible refine (BR.out _).mono ?_)
      rintro e1 w1 ⟨rfl, q1⟩
      have Y1 := hide (Y.out.below q1)
      have Q1 := hide (below_next Q.out Q.out.size q1)
      clear q1 Y Q BR hk0
      go_wp2_with fail
      go_loopw [33] (fun vj W => ∃ j : Nat, j ≤ 1 ∧ vj = .int .i64 j ∧ Hid (ByB W w.heap.size [if j = 0 then a else mB a b]) ∧ Hid (Below w.heap.size w W)) (fun vj _ => 1 - (intOf vj).toNat)
      case atStart => exact ⟨0, by omega, rfl, Y1, Q1⟩
      case round =>
        clear Y1 Q1
        obtain ⟨j, hj, rfl, Y, Q⟩ := hrel
        by_cases hj1 : j < 1
        · obtain rfl : j = 0 := by omega
          rw [if_pos rfl] at Y
          have hbi : (0 : Int) < (bs.size : Int) := by omega
          have hbx := HB0.out (by omega)
          have NY := hide ((show ByB (wr.drew.setCell ⟨w.heap.size, 0, none⟩ (.int .u8 ((mB a b).toNat : Int))) w.heap.size [mB a b] from (ByB.set Y.out.drew (j := 0) (by simp) (mB a b))))
          have NQ := hide (show Below w.heap.size w (wr.drew.setCell ⟨w.heap.size, 0, none⟩ (.int .u8 ((mB a b).toNat : Int))) from Q.out.drew.setCell (p := ⟨w.heap.size, 0, none⟩) (Nat.le_refl _) _)
          obtain ⟨yc, yf⟩ := Y.out.drew.cell (j := 0) (by simp)
          have hmin : ((mB a b).toNat : Int) = min (a.toNat : Int) (b.toNat : Int) := by
            rcases hak with rfl | rfl <;> rcases hbk with rfl | rfl <;> decide
          obtain ⟨mn, em, hmn⟩ := run_min8 (P := Tryz.prog) (a.toNat : Int) (b.toNat : Int)
          rw [← hmin] at em
          subst em
          have YC := hide (show wr.drew.cell? ⟨w.heap.size, 0, none⟩ = some (.int .u8 a.toNat) from yc)
          have HM := hide hmin
          clear yc hmin
          go_upto_region 12 with fail
          refine wp_region_L [0, 1, 2, 3, 4, 5, 6, 7, 8, 9, 10] [(5, fun W => W.cell? ⟨w.heap.size, 0, none⟩ = some (.int .u8 a.toNat))] (by kernel_rfl) ?_
          generalize wr.drew = wd at *
          refine wpAnyL_pure (i := 0) (v := .slice (some ⟨w.heap.size, 0, none⟩) 1 cap) rfl rfl (by kernel_rfl) (by kernel_rfl) (by kernel_rfl) (by kernel_rfl) (by kernel_rfl) (fun _ _ _ h => h) rfl (fun W => by go_simp) ?_
          go_simp
          refine wpAnyL_pure (i := 1) (v := .int .i64 0) rfl rfl (by kernel_rfl) (by kernel_rfl) (by kernel_rfl) (by kernel_rfl) (by kernel_rfl) (fun _ _ _ h => h) rfl (fun W => by go_simp) ?_
          go_simp
          refine wpAnyL_pure (i := 2) (v := .slice (some ⟨w.heap.size, 0, none⟩) 1 cap) rfl rfl (by kernel_rfl) (by kernel_rfl) (by kernel_rfl) (by kernel_rfl) (by kernel_rfl) (fun _ _ _ h => h) rfl (fun W => by go_simp) ?_
          go_simp
          refine wpAnyL_pure (i := 3) (v := .int .i64 0) rfl rfl (by kernel_rfl) (by kernel_rfl) (by kernel_rfl) (by kernel_rfl) (by kernel_rfl) (fun _ _ _ h => h) rfl (fun W => by go_simp) ?_
          go_simp
          refine wpAnyL_pure (i := 4) (v := .pointer (some ⟨w.heap.size, 0, none⟩)) rfl rfl (by kernel_rfl) (by kernel_rfl) (by kernel_rfl) (by kernel_rfl) (by kernel_rfl) (fun _ _ _ h => h) rfl (fun W => by go_simp) ?_
          go_simp
          refine wpAnyL_load (i := 5) (v := .int .u8 a.toNat) rfl rfl (by kernel_rfl) (by kernel_rfl) (by kernel_rfl) (by kernel_rfl) (by kernel_rfl) (fun _ _ _ h => h) rfl (fun W h => by go_simp) (YC.out) ?_
          go_simp
          refine wpAnyL_pure (i := 6) (v := .string bs) rfl rfl (by kernel_rfl) (by kernel_rfl) (by kernel_rfl) (by kernel_rfl) (by kernel_rfl) (fun _ _ _ h => h) rfl (fun W => by go_simp) ?_
          go_simp
          refine wpAnyL_pure (i := 7) (v := .int .i64 0) rfl rfl (by kernel_rfl) (by kernel_rfl) (by kernel_rfl) (by kernel_rfl) (by kernel_rfl) (fun _ _ _ h => h) rfl (fun W => by go_simp) ?_
          go_simp
          refine wpAnyL_pure (i := 8) (v := .int .u8 b.toNat) rfl rfl (by kernel_rfl) (by kernel_rfl) (by kernel_rfl) (by kernel_rfl) (by kernel_rfl) (fun _ _ _ h => h) rfl (fun W => by go_simp) ?_
          go_simp
          refine wpAnyL_pure (i := 9) (v := .int .u8 (mB a b).toNat) rfl rfl (by kernel_rfl) (by kernel_rfl) (by kernel_rfl) (by kernel_rfl) (by kernel_rfl) (fun _ _ _ h => h) rfl (fun W => by go_simp) ?_
          go_simp
          refine wpAnyL_pure (i := 10) (v := .pointer (some ⟨w.heap.size, 0, none⟩)) rfl rfl (by kernel_rfl) (by kernel_rfl) (by kernel_rfl) (by kernel_rfl) (by kernel_rfl) (fun _ _ _ h => h) rfl (fun W => by go_simp) ?_
          go_simp
          have yc := YC.out
          refine wpAnyL_one (i := 11) (by kernel_rfl) ?_
          refine wpOp_do rfl rfl ?_
          go_simp
          refine ⟨keepsL_all (by kernel_rfl) (by kernel_rfl), ?_⟩
          go_simp
          refine wpAnyL_done (by kernel_rfl) ?_ _
          go_wp2_with fail
          go_roundw
          case rel => exact ⟨1, by omega, by go_num, by rw [if_neg (by decide)]; exact NY, NQ⟩
          case measure => simp [intOf]
        · obtain rfl : j = 1 := by omega
          rw [if_neg (by decide), ← HN.out] at Y
          go_wp2_with fail
          go_roundw
          case rel => exact ⟨k + 1, by omega, by go_num, Y, Q⟩
          case measure => simp [intOf]; omega
    · obtain rfl : k = l.length := by omega
      have hcv2 : (convert 110 9 (.slice (some ⟨w.heap.size, 0, none⟩) 1 cap)).run Tryz.prog wr = .ok (.string ⟨#[r]⟩) wr :=
        run_bytes_str wr _ _ _ Tryz.underlying110 Tryz.underlying5 Tryz.underlying9 w.heap.size 1 cap [r] rfl (fun i hi => by
          have Y2 := Y.out
          rw [HALL.out] at Y2
          exact (Y2.cell hi).1)
      go_wp2_with fail
      go_ret2
      exact ⟨rfl, Q.out⟩
end Go.Proofs.YthkilodnghiocaaGreatDoor

/- Walks of ctl.Submit and Cancel of any controller that may be. -/
namespace Go.Proofs.YthkilodnghiocaaGreatDoor
open Go.ChangeShapes Go.WideShapes Go.ChangeAt Go.RowKit
open FP (Fr)

/-- With nothing to send. -/
def Cl.drop1 (c : Cl) : Cl := { c with has := false, f := zFr }
def Cl.subC (c : Cl) (f : Fr) : Cl := if FP.rightB f = false then zCl else if c.has = true then zCl else c.give f
def Cl.subE (c : Cl) (f : Fr) : Int := if FP.rightB f = false then 1 else if c.has = true then 20 else 0
def Cl.canC (c : Cl) : Cl := if c.has = false then zCl else if c.sends = true then zCl else c.drop1
def Cl.canE (c : Cl) : Int := if c.has = false then 21 else if c.sends = true then 20 else 0
theorem Cl.Ok.give {c : Cl} (h : c.Ok) (hn : c.has = false) {f : Fr} (hf : FP.rightB f = true) : (c.give f).Ok :=
  ⟨h.cnt, h.offs, fun _ => hf, (fun e => by cases e), h.s0, h.s8, h.n0, h.n9, h.n5, fun e => h.out e, fun e => by
    obtain ⟨a1, a2, a3, a4, a5, a6, a7, a8, a9, b1, b2, b3, b4, b6, b7⟩ := h.inn e
    exact ⟨a1, a2, a3, a4, a5, a6, a7, a8, a9, b1, b2, b3, b4, b6, fun s => absurd (b7 s).1 (by rw [hn]; decide)⟩⟩
theorem Cl.Ok.drop1 {c : Cl} (h : c.Ok) (hs : c.sends = false) : c.drop1.Ok :=
  ⟨h.cnt, h.offs, (fun e => by cases e), fun _ => rfl, h.s0, h.s8, h.n0, h.n9, h.n5, fun e => h.out e, fun e => by
    obtain ⟨a1, a2, a3, a4, a5, a6, a7, a8, a9, b1, b2, b3, b4, b6, b7⟩ := h.inn e
    exact ⟨a1, a2, a3, a4, a5, a6, a7, a8, a9, b1, b2, b3, b4, b6, fun s => absurd (hs.symm.trans s) (by decide)⟩⟩

set_option maxRecDepth 100000 in
set_option maxHeartbeats 8000000 in
theorem ctlSubmit_ok (c : Cl) (f : Fr) (w : World) (hq : c.Ok) (hid : f.id < 4294967296) : Calls Tryz.prog 20 #[.agg c.cs.toArray, .agg (frc f).toArray] w fun e w' =>
    e = .returned (.tuple #[.agg (c.subC f).cs.toArray, .int .i64 (c.subE f)]) ∧ Below w.heap.size w w' := by
  obtain ⟨w0, hw0⟩ : ∃ w0, w0 = ((w.alloc (.cells c.cs.toArray 73)).alloc (.cells (frc f).toArray 45)).alloc (.cells zCl.cs.toArray 73) := ⟨_, rfl⟩
  have step : ∀ (W : World) (o : Obj), Below W.heap.size W (W.alloc o) := fun W o => (Below.refl _ _).alloc (Nat.le_refl _) _
  have B0 := hide (heap_below (heap_below (World.alloc_heap_new w (.cells c.cs.toArray 73)) (step _ (.cells (frc f).toArray 45))) (step _ (.cells zCl.cs.toArray 73)))
  have G0 := hide (heap_below (World.alloc_heap_new (w.alloc (.cells c.cs.toArray 73)) (.cells (frc f).toArray 45)) (step _ (.cells zCl.cs.toArray 73)))
  have R0 := hide (World.alloc_heap_new ((w.alloc (.cells c.cs.toArray 73)).alloc (.cells (frc f).toArray 45)) (.cells zCl.cs.toArray 73))
  have Q0 : Hid (Below w.heap.size w w0) := by rw [hw0]; exact hide (((step _ _).alloc (by simp) _).alloc (by simp; omega) _)
  rw [← hw0] at B0 G0 R0
  simp only [World.size_alloc] at G0 R0
  have RT := hide (ctlRight_ok c w0 hq)
  have FRR := hide (fun W => show Calls Tryz.prog 35 #[.agg (frc f).toArray] W _ from frRight_any f W hid)
  obtain ⟨b, hb⟩ : ∃ b, b = FP.rightB f := ⟨_, rfl⟩
  rw [← hb] at FRR
  obtain ⟨z, hz⟩ : ∃ z, z = c.subC f := ⟨_, rfl⟩
  obtain ⟨ze, hze⟩ : ∃ ze, ze = c.subE f := ⟨_, rfl⟩
  rw [← hz, ← hze]
  have HZ := hide (show z = if b = false then zCl else if c.has = true then zCl else c.give f by rw [hz, hb]; rfl)
  have HE := hide (show ze = if b = false then 1 else if c.has = true then 20 else 0 by rw [hze, hb]; rfl)
  clear hb step hz hze hq
  go_enter Tryz.func20, Tryz.ntmps20
  go_upto_region 1 with fail
  change Code.wp _ _ _ _ (((w.alloc (.cells c.cs.toArray 73)).alloc (.cells (frc f).toArray 45)).alloc (.cells zCl.cs.toArray 73))
  rw [← hw0]
  clear hw0
  go_wp2_with (refine wpList_load_row rfl 73 (.tmp 2) (by rfl) w.heap.size (by rfl) 73 c.cs.toArray (0, 0) _ (by exact B0.out) Tryz.underlying73 (by rfl) (by kernel_rfl) ?_)
  (with_reducible refine (RT.out).mono ?_)
  rintro e1 w1 ⟨rfl, q1⟩
  have B1 := hide (heap_below B0.out q1)
  have G1 := hide (heap_below G0.out q1)
  have R1 := hide (heap_below R0.out q1)
  have Q1 := hide (below_next Q0.out Q0.out.size q1)
  have FR1 := hide (FRR.out w1)
  clear q1 B0 G0 R0 Q0 RT FRR
  go_wp2_with (refine wpList_load_rowG (by kernel_rfl) 45 (.tmp 3) (by rfl) (w.heap.size + 1) (by rfl) 45 (frc f).toArray (0, 0) _ (by exact G1.out) Tryz.underlying45 (by rfl) (by kernel_rfl) ?_)
  (with_reducible refine (FR1.out).mono ?_)
  rintro e2 w2 ⟨rfl, q2⟩
  have B2 := hide (heap_below B1.out q2)
  have G2 := hide (heap_below G1.out q2)
  have R2 := hide (heap_below R1.out q2)
  have Q2 := hide (below_next Q1.out Q1.out.size q2)
  clear q2 B1 G1 R1 Q1 FR1
  have TR := hide (show w2.there (w.heap.size + 1 + 1) 0 23 from there_heap (cs := zCl.cs) R2.out)
  cases b with
  | false =>
    go_wp2_with (refine wpList_store_hid (by rfl) 73 (.tmp 4) (.tmp 15) (by rfl) (w.heap.size + 1 + 1) 0 zCl.cs (by rfl) (by rfl) (by exact TR.out) (by kernel_rfl) (by simp [Value.oneCell', Cl.cs]) ?_)
    intro w3 e3
    have R3 := hide (show w3.heap[w.heap.size + 1 + 1]? = some (.cells zCl.cs.toArray 73 (0, 0)) by rw [e3.out]; exact whole_heap zCl.cs (xs := zCl.cs) R2.out rfl)
    have Q3 := hide (show Below w.heap.size w w3 by rw [e3.out]; exact Q2.out.trans (below_setCells (g := w.heap.size + 1 + 1) _ 0 _ (by omega)))
    clear e3 TR B2 G2 R2 Q2
    go_wp2_with fail
    refine bodyPost_ret (results_cell_tmp (by rfl) _ w3 (w.heap.size + 1 + 1) 73 zCl.cs.toArray (0, 0) _ (.int .i64 1) (by rfl) (by rfl) R3.out Tryz.underlying73 (by rfl) (by kernel_rfl)) rfl ⟨by rw [HZ.out, HE.out]; rfl, Q3.out⟩
  | true =>
    obtain ⟨_, ⟨_, _, _, _, c8⟩, _⟩ := cl_cells B2.out
    rcases Bool.eq_false_or_eq_true c.has with hh | hh
    · rw [hh] at c8
      have HZ2 := hide (show z = zCl by rw [HZ.out, hh]; rfl)
      have HE2 := hide (show ze = 20 by rw [HE.out, hh]; rfl)
      clear hh HZ HE
      go_wp2_with (refine wpList_store_hid (by rfl) 73 (.tmp 4) (.tmp 19) (by rfl) (w.heap.size + 1 + 1) 0 zCl.cs (by rfl) (by rfl) (by exact TR.out) (by kernel_rfl) (by simp [Value.oneCell', Cl.cs]) ?_)
      intro w3 e3
      have R3 := hide (show w3.heap[w.heap.size + 1 + 1]? = some (.cells zCl.cs.toArray 73 (0, 0)) by rw [e3.out]; exact whole_heap zCl.cs (xs := zCl.cs) R2.out rfl)
      have Q3 := hide (show Below w.heap.size w w3 by rw [e3.out]; exact Q2.out.trans (below_setCells (g := w.heap.size + 1 + 1) _ 0 _ (by omega)))
      clear e3 TR B2 G2 R2 Q2 c8
      go_wp2_with fail
      refine bodyPost_ret (results_cell_tmp (by rfl) _ w3 (w.heap.size + 1 + 1) 73 zCl.cs.toArray (0, 0) _ (.int .i64 20) (by rfl) (by rfl) R3.out Tryz.underlying73 (by rfl) (by kernel_rfl)) rfl ⟨by rw [HZ2.out, HE2.out], Q3.out⟩
    rw [hh] at c8
    have HZ2 := hide (show z = c.give f by rw [HZ.out, hh]; rfl)
    have HE2 := hide (show ze = 0 by rw [HE.out, hh]; rfl)
    clear hh HZ HE
    go_wp2_with fail
    refine wp_region_L [0, 1] [(0, fun W => W.heap[w.heap.size + 1]? = some (.cells (frc f).toArray 45 (0, 0)))] (by kernel_rfl) ?_
    replace B2 := hide (show w2.drew.heap[_]? = _ from B2.out)
    replace G2 := hide (show w2.drew.heap[_]? = _ from G2.out)
    replace R2 := hide (show w2.drew.heap[_]? = _ from R2.out)
    replace Q2 := hide (show Below w.heap.size w w2.drew from Q2.out.drew)
    clear TR c8
    generalize w2.drew = w3 at *
    refine wpAnyL_load (i := 0) (v := .agg (frc f).toArray) rfl rfl (by kernel_rfl) (by kernel_rfl) (by kernel_rfl) (by kernel_rfl) (by kernel_rfl) (fun _ _ _ h => h) rfl (fun W h => exec_heap W (w.heap.size + 1) 45 _ _ h Tryz.underlying45 rfl (by kernel_rfl) _ _ (.tmp 3) (by rfl) (by rfl)) (G2.out) ?_
    go_simp
    refine wpAnyL_pure (i := 1) (v := .pointer (some ⟨w.heap.size, 8, none⟩)) rfl rfl (by kernel_rfl) (by kernel_rfl) (by kernel_rfl) (by kernel_rfl) (by kernel_rfl) (fun _ _ _ h => h) rfl (fun W => by go_simp) ?_
    go_simp
    obtain ⟨_, ⟨_, _, _, _, c8⟩, _⟩ := cl_cells B2.out
    have f8 := cl_froz B2.out 8
    refine wpAnyL_one (i := 2) (by kernel_rfl) ?_
    refine wpOp_do rfl rfl ?_
    go_simp
    have B3 := hide (heap_setCell_same w3 w.heap.size 8 _ _ (.bool true) B2.out)
    have R3 := hide (show (w3.setCell ⟨w.heap.size, 8, none⟩ (.bool true)).heap[w.heap.size + 1 + 1]? = _ from (heap_setCell_other _ _ _ _ (by simp; omega)).trans R2.out)
    have G3 := hide (show (w3.setCell ⟨w.heap.size, 8, none⟩ (.bool true)).heap[w.heap.size + 1]? = _ from (heap_setCell_other _ _ _ _ (by simp)).trans G2.out)
    have Q3 := hide (Q2.out.setCell (p := ⟨w.heap.size, 8, none⟩) (Nat.le_refl _) (.bool true))
    clear B2 R2 Q2 G2 c8 f8
    generalize w3.setCell ⟨w.heap.size, 8, none⟩ (.bool true) = w4 at *
    refine ⟨keepsL_mk (by kernel_rfl) (.cons G3.out .nil), ?_⟩
    go_simp
    refine wpAnyL_one (i := 3) (by kernel_rfl) ?_
    refine wpOp_do rfl rfl ?_
    go_simp
    refine ⟨keepsL_all (by kernel_rfl) (by kernel_rfl), ?_⟩
    go_simp
    have B4 := hide (show w4.heap[w.heap.size]? = some (.cells (c.cs.set 8 (.bool true)).toArray 73 (0, 0)) by simpa using B3.out)
    have TB := hide (there_sub (there_heap B4.out) 9 5 (by simp [Cl.cs]))
    clear B3
    refine wpAnyL_one (i := 4) (by kernel_rfl) ?_
    refine wpOp_do rfl rfl ?_
    refine wp_store_as 45 (.tmp 22) (.tmp 20) rfl w.heap.size 9 (frc f) (by rfl) (by rfl) (by exact TB.out) (by kernel_rfl) (by simp [Value.oneCell', frc]) ?_
    intro w5 e5
    have B5 := hide (show w5.heap[w.heap.size]? = some (.cells (c.give f).cs.toArray 73 (0, 0)) by rw [e5]; exact set_heap (frc f) (c.cs.set 8 (.bool true)) 9 w4 B4.out)
    have R5 := hide (show w5.heap[w.heap.size + 1 + 1]? = some (.cells zCl.cs.toArray 73 (0, 0)) by rw [e5]; exact other_heap (by omega) _ _ _ R3.out)
    have Q5 := hide (show Below w.heap.size w w5 by rw [e5]; exact Q3.out.trans (below_setCells _ _ _ (Nat.le_refl _)))
    clear e5 TB B4 R3 Q3 G3
    refine ⟨keepsL_all (by kernel_rfl) (by kernel_rfl), ?_⟩
    go_simp
    refine wpAnyL_done (by kernel_rfl) ?_ _
    generalize hd : c.give f = d at *
    have HD := hide hd
    clear hd
    have TR := hide (show w5.there (w.heap.size + 1 + 1) 0 23 from there_heap (cs := zCl.cs) R5.out)
    go_wp2_with (first | (refine wpList_load_row rfl 73 (.tmp 2) (by rfl) w.heap.size (by rfl) 73 d.cs.toArray (0, 0) _ (by exact B5.out) Tryz.underlying73 (by rfl) (by kernel_rfl) ?_) | (refine wpList_store_hid (by rfl) 73 (.tmp 4) (.tmp 23) (by rfl) (w.heap.size + 1 + 1) 0 d.cs (by rfl) (by rfl) (by exact TR.out) (by kernel_rfl) (by simp [Value.oneCell', Cl.cs]) ?_))
    intro w6 e6
    have R6 := hide (show w6.heap[w.heap.size + 1 + 1]? = some (.cells d.cs.toArray 73 (0, 0)) by rw [e6.out]; exact whole_heap d.cs (xs := zCl.cs) R5.out rfl)
    have Q6 := hide (show Below w.heap.size w w6 by rw [e6.out]; exact Q5.out.trans (below_setCells (g := w.heap.size + 1 + 1) _ 0 _ (by omega)))
    clear e6 TR B5 R5 Q5
    go_wp2_with fail
    refine bodyPost_ret (results_cell_tmp (by rfl) _ w6 (w.heap.size + 1 + 1) 73 d.cs.toArray (0, 0) _ (.int .i64 0) (by rfl) (by rfl) R6.out Tryz.underlying73 (by rfl) (by kernel_rfl)) rfl ⟨by rw [HZ2.out, HE2.out], Q6.out⟩


end Go.Proofs.YthkilodnghiocaaGreatDoor

/- Rows of controllers, of events, of what was seen. -/
namespace Go.Proofs.YthkilodnghiocaaGreatDoor
open Go.ChangeShapes Go.WideShapes Go.ChangeAt Go.RowKit
open FP (Fr)

def ClR (w : World) (B : Nat) (A : Option Addr) (l : List Cl) : Prop := Rd w B A 23 (l.map Cl.cs)
theorem cs_len (c : Cl) : c.cs.length = 23 := rfl
theorem cl_rows (l : List Cl) : ∀ r ∈ l.map Cl.cs, r.length = 23 := fun r hr => by
  obtain ⟨c, _, rfl⟩ := List.mem_map.1 hr
  rfl
theorem cl_ones (l : List Cl) : ∀ r ∈ l.map Cl.cs, ∀ v ∈ r, v.oneCell' = true := fun r hr => by
  obtain ⟨c, _, rfl⟩ := List.mem_map.1 hr
  simp [Cl.cs, Value.oneCell']
theorem ClR.next {w w' : World} {B : Nat} {A : Option Addr} {l : List Cl} (h : ClR w B A l) (hb : Below B w w') (hB : B ≤ w'.heap.size) : ClR w' w'.heap.size A l := Rd.next h hb hB
/-- A row of a slice, as a range of cells. -/
theorem rd_range {w : World} {B : Nat} {A : Option Addr} {sz : Nat} {R : List (List Value)} (h : Rd w B A sz R) {k : Nat} (hk : k < R.length) : ∃ g off, A = some ⟨g, off, none⟩ ∧ g < B ∧ w.rangeAt g (off + k * sz) R[k] := by
  obtain ⟨b, off, e, hb, hc⟩ := h (by omega)
  exact ⟨b, off, e, hb, fun j v hj => hc k R[k] j v (List.getElem?_eq_getElem hk) hj⟩
theorem ClR.at_ {w : World} {B : Nat} {A : Option Addr} {l : List Cl} (h : ClR w B A l) {k : Nat} (hk : k < l.length) : ∃ g off, A = some ⟨g, off, none⟩ ∧ g < B ∧ w.rangeAt g (off + k * 23) l[k].cs := by
  obtain ⟨g, off, e, hb, hr⟩ := rd_range h (k := k) (by rw [List.length_map]; exact hk)
  rw [List.getElem_map] at hr
  exact ⟨g, off, e, hb, hr⟩
theorem slCl : SlT Tryz.prog 35 73 23 176 := SlT.mk Tryz.underlying35 (z := .agg zCl.cs.toArray) (by kernel_rfl) rfl (by decide)
theorem slEv : SlT Tryz.prog 77 50 7 48 := SlT.mk Tryz.underlying77 (z := .agg (evL 0 zFr 0).toArray) (by kernel_rfl) rfl (by decide)
/-- An event's cells. -/
def evcs (m : Mc) : List Value := evL m.kind m.ef m.bad
def sncs (y : Sn) : List Value := .int .i64 y.at_ :: .int .i64 y.who :: evL y.kind y.ef y.bad
theorem slSn : SlT Tryz.prog 46 52 9 64 := SlT.mk Tryz.underlying46 (z := .agg (sncs ⟨0, 0, 0, zFr, 0⟩).toArray) (by kernel_rfl) rfl (by decide)
/-- A bus: its controllers, and when. -/
def busL (A : Option Addr) (n c : Nat) (now : Int) : List Value := [.slice A n c, .int .i64 now]
theorem bus_cells {W : World} {B : Nat} {A : Option Addr} {n c : Nat} {now : Int} {t : TypeId} {fz : Nat × Nat} (h : W.heap[B]? = some (.cells (busL A n c now).toArray t fz)) : W.cell? ⟨B, 0, none⟩ = some (.slice A n c) ∧ W.cell? ⟨B, 1, none⟩ = some (.int .i64 now) := by
  simp [World.cell?, h, busL]
end Go.Proofs.YthkilodnghiocaaGreatDoor
