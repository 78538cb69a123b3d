/- The walk of a machine's body. -/
import Derived.Test.YthkilodnghiocaaGreatDoorCsC
import Derived.Test.YthkilodnghiocaaGreatDoorMgCsG
import Derived.Deep.CutBlock
namespace Go.Proofs.YthkilodnghiocaaGreatDoor
open Go.ChangeShapes Go.WideShapes Go.ChangeAt Go.RowKit
open FP (Fr uN uK doneB sizeE sizeV goodB bitsF bodyF RS rsOf)

/-- One whose counts may be stepped, and what stuffing knows of it. -/
structure Cl.Bd (c : Cl) : Prop where
  last : c.last = (c.L.toNat : Int)
  sn : c.sn = (c.N : Int)
  stk : StK c.L c.N
  bits : ∀ x ∈ c.g, x = 48 ∨ x = 49
  most : c.g.length ≤ 118
  off : c.off = false
  rs : c.rs = 0
  cnt : cntB c.tc c.rc false 0 = true
  en : c.en = false
  good : c.good = false
theorem Cl.Ok.bd {c : Cl} (h : c.Ok) (h2 : c.st = 2) (he : c.en = false) : c.Bd := by
  have hi := h.inn h2
  have ho := h.on (by omega)
  obtain ⟨r1, r2, _⟩ := cnt_on h.cnt ho
  exact ⟨hi.last, hi.sn, hi.stk, hi.bits, FP.got_most hi.size hi.le, ho, r1, r2, he, by rw [hi.good, he]; rfl⟩
theorem set_ev {W : World} {b : Nat} {c : Cl} {k k' : Int} {f : Fr} {bad : Int} {t : TypeId} (h : W.heap[b]? = some (.cells (mcL c (evL k f bad)).toArray t (0, 0))) : (W.setCell ⟨b, 23, none⟩ (.int .i64 k')).heap[b]? = some (.cells (mcL c (evL k' f bad)).toArray t (0, 0)) := by
  have := mc_set h 23 (.int .i64 k')
  simpa [mcL, Cl.cs, evL] using this
theorem ev_cell {W : World} {b : Nat} {c : Cl} {k : Int} {f : Fr} {bad : Int} {t : TypeId} {fz : Nat × Nat} (h : W.heap[b]? = some (.cells (mcL c (evL k f bad)).toArray t fz)) : W.cell? ⟨b, 23, none⟩ = some (.int .i64 k) := by
  simp [World.cell?, h, mcL, Cl.cs, evL]

set_option maxRecDepth 100000 in
set_option maxHeartbeats 16000000 in
theorem mcBody_go (c c1 : Cl) (k : Int) (b : Nat) (t : TypeId) (bus : UInt8) (hbus : bus = 48 ∨ bus = 49) (x : Bool) (w : World) (h : Hid (w.heap[b]? = some (.cells (mcL c (evL 0 zFr 0)).toArray t (0, 0))))
    (hx : c.sends = false ∧ x = false ∨ c.sends = true ∧ ∃ (j : Nat) (hj : j < c.out.size), c.at_ = (j : Int) ∧ (((c.out[j].toNat : Int) != (bus.toNat : Int)) = x))
    (h1 : x = false ∧ c1 = c ∧ k = 0 ∨ x = true ∧ c.lostB bus = true ∧ c1 = c.drop ∧ k = 4)
    (hr : c.sends = true → FP.rightB c.f = true) (hN : c.sn = (c.N : Int)) (hd : c1.Bd) (hlen : 1 ≤ c1.g.length) (hat : 0 ≤ c1.at_ ∧ c1.at_ ≤ 1000)
    (hle : uK c1.L c1.N bus ≠ 3 → ¬ (uK c1.L c1.N bus = 1 ∧ sizeE (c1.tk bus).g = 12) → sizeE (c1.tk bus).g = 0 → (c1.tk bus).g.length ≤ sizeV (c1.tk bus).g + 15) :
    Calls Tryz.prog 99 #[.pointer (some ⟨b, 0, none⟩), .int .u8 bus.toNat] w fun e w' => (∃ v, e = .returned v) ∧ w'.heap[b]? = some (.cells (mcL (c1.take k bus).c (evL (c1.take k bus).kind (c1.take k bus).ef (c1.take k bus).bad)).toArray t (0, 0)) ∧ Below b w w' := by
  obtain ⟨M, hM⟩ : ∃ M, M = c1.take k bus := ⟨_, rfl⟩
  have T3 := hide (show uK c1.L c1.N bus = 3 → M = ⟨(c1.tk bus).fail 10, 3, zFr, 10⟩ from fun e => by rw [hM]; unfold Cl.take; rw [if_pos e])
  have TF := hide (show uK c1.L c1.N bus = 1 ∧ sizeE (c1.tk bus).g = 12 → M = ⟨(c1.tk bus).fail 12, 3, zFr, 12⟩ from fun e => by rw [hM]; unfold Cl.take; rw [if_neg (by omega), if_pos e])
  have TG := hide (show uK c1.L c1.N bus ≠ 3 → ¬ (uK c1.L c1.N bus = 1 ∧ sizeE (c1.tk bus).g = 12) → M = ⟨(c1.tk bus).adv.whole, k, zFr, 0⟩ from fun e e2 => by rw [hM]; unfold Cl.take; rw [if_neg e, if_neg e2])
  have LO := hide (fun W (hh : Hid (W.heap[b]? = some (.cells (mcL c (evL 0 zFr 0)).toArray t (0, 0)))) (e : c.sends = true) => mcLost_any c (evL 0 zFr 0) b t bus hbus W hh (hr e) hN)
  have HX := hide hx
  have H1 := hide h1
  have HLE := hide hle
  have HLEN := hide hlen
  have HD := hide hd
  have HAT := hide hat
  rw [← hM]
  clear hM hx h1 hr hN hle hlen hd hat
  go_enter Tryz.func99, Tryz.ntmps99
  go_upto_region 0 with fail
  go_cut [28] from 9 (fun v W => v = .bool x ∧ Hid (W.heap[b]? = some (.cells (mcL c (evL 0 zFr 0)).toArray t (0, 0))) ∧ Hid (Below b w W))
  case first =>
    have zb : b < w.heap.size := heap_lt h.out
    obtain ⟨-, -, ⟨d14, d15, d16, -⟩⟩ := mc_cells h.out
    rcases HX.out with ⟨e1, e2⟩ | ⟨e1, j, hj, ej, ex⟩
    · rw [e1] at d14
      subst e2
      have m14 := fun s : InW w => s.cell zb d14
      have m15 := fun s : InW w => s.cell zb d15
      have m16 := fun s : InW w => s.cell zb d16
      clear e1 HX LO H1 T3 TF TG d14 d15 d16
      refine wp_region_tame (by kernel_rfl) (by kernel_rfl) ?_
      repeat (go_big_quiet_step (fail))
      refine wpQuiet_nil ?_
      rintro _ ⟨sw, rfl⟩
      go_wp2_with fail
      go_meet
      exact ⟨rfl, hide (heap_below h.out sw.h), hide (sw.h.mono (Nat.le_of_lt zb))⟩
    · rw [e1] at d14
      rw [ej] at d16
      have m14 := fun s : InW w => s.cell zb d14
      have m15 := fun s : InW w => s.cell zb d15
      have m16 := fun s : InW w => s.cell zb d16
      have hj1 : (j : Int) < (c.out.size : Int) := by omega
      have hj0 : (0 : Int) ≤ (j : Int) := by omega
      clear e1 ej HX LO H1 T3 TF TG d14 d15 d16
      refine wp_region_tame (by kernel_rfl) (by kernel_rfl) ?_
      repeat (go_big_quiet_step (fail))
      refine wpQuiet_nil ?_
      rintro _ ⟨sw, rfl⟩
      go_wp2_with fail
      go_meet
      exact ⟨by first | exact rfl | rw [ex], hide (heap_below h.out sw.h), hide (sw.h.mono (Nat.le_of_lt zb))⟩
  case rest =>
  rename_i hK2 _ hK
  obtain ⟨rfl, hB, hQ⟩ := hcut
  refine hK _ _ ?_
  clear hK h
  go_cut [28] from 9 (fun _ W => Hid (W.heap[b]? = some (.cells (mcL c1 (evL k zFr 0)).toArray t (0, 0))) ∧ Hid (Below b w W))
  case first =>
    rcases H1.out with ⟨e1, e2, e3⟩ | ⟨e1, e2, e3, e4⟩
    · subst e1
      subst e2
      subst e3
      clear hK2
      go_wp2_with fail
      go_meet
      exact ⟨hB, hQ⟩
    · have hs : c.sends = true := by
        rcases HX.out with ⟨_, q⟩ | ⟨q, _⟩
        · rw [e1] at q; cases q
        · exact q
      have L1 := hide (LO.out wc hB hs)
      rw [e2] at L1
      subst e1
      subst e3
      subst e4
      clear hK2 LO HX H1 T3 TF TG HD HLE HLEN
      go_wp2_with fail
      (with_reducible refine (L1.out).mono ?_)
      rintro e5 w5 ⟨rfl, q5⟩
      have B5 := hide (heap_below hB.out q5)
      have Q5 := hide (hQ.out.trans (q5.mono (Nat.le_of_lt (heap_lt hB.out))))
      obtain ⟨-, ⟨-, -, c6, -, -⟩, ⟨d14, d15, d16, -⟩⟩ := mc_cells B5.out
      have c23 := ev_cell B5.out
      have f23 := cl_froz B5.out 23
      have f6 := cl_froz B5.out 6
      have f14 := cl_froz B5.out 14
      have f15 := cl_froz B5.out 15
      have f16 := cl_froz B5.out 16
      have H6 := hide (mc_set (mc_set (mc_set (mc_set (set_ev (k' := 4) B5.out) 14 (.bool false)) 15 (.string ⟨#[]⟩)) 16 (.int .i64 0)) 6 (.bool false))
      have Q6 := hide (below_set (below_set (below_set (below_set (below_set Q5.out 23 (.int .i64 4)) 14 (.bool false)) 15 (.string ⟨#[]⟩)) 16 (.int .i64 0)) 6 (.bool false))
      clear q5 hB hQ L1 B5 Q5
      go_wp2_with fail
      go_meet
      refine ⟨hide ?_, Q6⟩
      have := H6.out
      simpa [mcL, Cl.cs, Cl.drop] using this
  case rest =>
  obtain ⟨hB2, hQ2⟩ := hcut
  clear hB hQ HX H1 LO
  refine hK2 _ _ ?_
  clear hK2
  have hst := HD.out.stk
  have hlast := HD.out.last
  have hsn := HD.out.sn
  have ST := hide (fun W => stStep_any c1.L c1.N bus W hst hbus)
  obtain ⟨-, -, ⟨-, -, -, d17, d18, -⟩⟩ := mc_cells hB2.out
  rw [hlast] at d17
  rw [hsn] at d18
  clear hst
  go_wp2_with fail
  (with_reducible refine (ST.out _).mono ?_)
  rintro e6 w6 ⟨rfl, q6⟩
  have qa : Below w6.heap.size w6 (w6.alloc (.cells #[.int .u8 0, .int .i64 0] 71)) := (Below.refl _ _).alloc (Nat.le_refl _) _
  have zb6 : b < w6.heap.size := heap_lt (heap_below hB2.out q6)
  have B7 := hide (heap_below (heap_below hB2.out q6) qa)
  have Y7 := hide (World.alloc_heap_new w6 (.cells #[.int .u8 0, .int .i64 0] 71))
  have Q7 := hide ((hQ2.out.trans (q6.mono (Nat.le_of_lt (heap_lt hB2.out)))).trans (qa.mono (Nat.le_of_lt zb6)))
  have T7 := hide (show (w6.alloc (.cells #[.int .u8 0, .int .i64 0] 71)).there w6.heap.size 0 2 from there_heap (cs := [_, _]) Y7.out)
  clear q6 qa hB2 hQ2 ST d17 d18
  go_wp2_with (refine wpList_store_hid (by rfl) 71 (.tmp 4) (.tmp 63) (by rfl) w6.heap.size 0 [.int .u8 bus.toNat, .int .i64 (uN c1.L c1.N bus : Nat)] (by rfl) (by rfl) (by exact T7.out) (by kernel_rfl) (by simp [Value.oneCell']) ?_)
  intro w8 e8
  have Y8 := hide (show w8.heap[w6.heap.size]? = some (.cells #[.int .u8 bus.toNat, .int .i64 (uN c1.L c1.N bus : Nat)] 71 (0, 0)) by rw [e8.out]; exact whole_heap [.int .u8 bus.toNat, .int .i64 (uN c1.L c1.N bus : Nat)] (xs := [_, _]) Y7.out rfl)
  have B8 := hide (show w8.heap[b]? = some (.cells (mcL c1 (evL k zFr 0)).toArray t (0, 0)) by rw [e8.out]; exact other_heap (by omega) _ _ _ B7.out)
  have Q8 := hide (show Below b w w8 by rw [e8.out]; exact Q7.out.trans (below_setCells _ _ _ (by omega)))
  have T8 := hide (there_sub (there_heap B8.out) 17 2 (by simp [mcL, Cl.cs, evL]))
  obtain ⟨x0, x1, -⟩ := two_st Y8.out
  clear e8 T7 Y7 B7 Q7
  go_wp2_with (refine wpList_store_hid (by rfl) 71 (.tmp 70) (.tmp 67) (by rfl) b 17 [.int .u8 bus.toNat, .int .i64 (uN c1.L c1.N bus : Nat)] (by rfl) (by rfl) (by exact T8.out) (by kernel_rfl) (by simp [Value.oneCell']) ?_)
  intro w9 e9
  obtain ⟨d0, hd0⟩ : ∃ d0 : Cl, d0 = { c1 with last := bus.toNat, sn := (uN c1.L c1.N bus : Nat) } := ⟨_, rfl⟩
  have B9 := hide (show w9.heap[b]? = some (.cells (mcL d0 (evL k zFr 0)).toArray t (0, 0)) by
    rw [e9.out, hd0]
    have := set_heap [.int .u8 bus.toNat, .int .i64 (uN c1.L c1.N bus : Nat)] (mcL c1 (evL k zFr 0)) 17 w8 B8.out
    simpa [mcL, Cl.cs, setL] using this)
  have Q9 := hide (show Below b w w9 by rw [e9.out]; exact Q8.out.trans (below_setCells _ _ _ (Nat.le_refl _)))
  clear e9 T8 B8 Q8 Y8 x0 x1
  have HD0 := hide hd0
  have hK1 := hide (fun (e : uK c1.L c1.N bus = 1) => show c1.tk bus = { d0 with got := d0.got ++ ⟨#[bus]⟩ } by rw [hd0]; unfold Cl.tk; rw [if_pos e])
  have hK0 := hide (fun (e : uK c1.L c1.N bus ≠ 1) => show c1.tk bus = d0 by rw [hd0]; unfold Cl.tk; rw [if_neg e])
  have FA := hide (fun (d : Cl) (hd : d.off = false ∧ d.rs = 0 ∧ cntB d.tc d.rc false 0 = true) bad W hh => mcFails_on d (evL k zFr 0) bad b t W hh rfl hd.1 hd.2.1 hd.2.2)
  have D0F := hide (show d0.off = false ∧ d0.rs = 0 ∧ cntB d0.tc d0.rc false 0 = true by rw [hd0]; exact ⟨HD.out.off, HD.out.rs, HD.out.cnt⟩)
  have hg0 : d0.g = c1.g := by rw [hd0]; rfl
  have hgm := HD.out.most
  have hgb := HD.out.bits
  rw [← hg0] at hgm hgb
  have hgs : d0.g.length = d0.got.size := Array.length_toList
  have hN5 : (c1.tk bus).N = uN c1.L c1.N bus := tk_N c1 bus
  have hgood : d0.en = false ∧ d0.good = false := by rw [hd0]; exact ⟨HD.out.en, HD.out.good⟩
  have HGD := hide hgood
  have HL0 := hide (show d0.sn = (uN c1.L c1.N bus : Nat) by rw [hd0])
  have HLEN0 := hide (show 1 ≤ d0.g.length by rw [hg0]; exact HLEN.out)
  clear hd0 hg0 hlast hsn HLEN
  go_upto_block 0 with fail
  go_cut [5, 7, 8] from 9 (fun _ _ _ W => uK c1.L c1.N bus ≠ 3 ∧ ¬ (uK c1.L c1.N bus = 1 ∧ sizeE (c1.tk bus).g = 12) ∧ Hid (W.heap[b]? = some (.cells (mcL (c1.tk bus) (evL k zFr 0)).toArray t (0, 0))) ∧ Hid (Below b w W))
  case first =>
    clear HLE TG HD HGD HL0 HLEN0 hN5
    rcases FP.uK_or c1.L c1.N bus with hk | hk | hk
    · have hdk := hide (hK1.out hk)
      rw [hk]
      obtain ⟨-, -, ⟨-, -, -, -, -, d19, -⟩⟩ := mc_cells B9.out
      have f19 := cl_froz B9.out 19
      clear hK0 T3
      have d1g : (c1.tk bus).g = d0.g ++ [bus] := by
        rw [hK1.out hk]
        show (d0.got ++ ⟨#[bus]⟩ : ByteArray).data.toList = _
        rw [ByteArray.data_append, Array.toList_append]; rfl
      have FS := hide (fun W => show Calls Tryz.prog 69 #[.string (d0.got ++ ⟨#[bus]⟩)] W fun e w' => e = .returned (.tuple #[.int .i64 (sizeV (c1.tk bus).g : Nat), .int .i64 (sizeE (c1.tk bus).g : Nat)]) ∧ Below W.heap.size W w' from by
        have hg2 : (c1.tk bus).g = (d0.got ++ ⟨#[bus]⟩ : ByteArray).data.toList := by rw [hK1.out hk]; rfl
        have hb2 : ∀ y ∈ (d0.got ++ ⟨#[bus]⟩ : ByteArray).data.toList, y = 48 ∨ y = 49 := by
          rw [← hg2, d1g]
          intro y hy
          rw [List.mem_append, List.mem_singleton] at hy
          rcases hy with hy | rfl
          · exact hgb y hy
          · exact hbus
        have hs2 : (d0.got ++ ⟨#[bus]⟩ : ByteArray).size ≤ 4000 := by
          have : (d0.got ++ ⟨#[bus]⟩ : ByteArray).data.toList.length = (d0.got ++ ⟨#[bus]⟩ : ByteArray).size := Array.length_toList
          rw [← this, ← hg2, d1g, List.length_append, List.length_singleton]
          omega
        rw [hg2]
        exact frSize_any _ W hb2 hs2)
      obtain ⟨d1, hd1⟩ : ∃ d1, d1 = c1.tk bus := ⟨_, rfl⟩
      have HD1 := hide (show d1 = { d0 with got := d0.got ++ ⟨#[bus]⟩ } by rw [hd1, hK1.out hk])
      have D1F := hide (show d1.off = false ∧ d1.rs = 0 ∧ cntB d1.tc d1.rc false 0 = true by rw [HD1.out]; exact D0F.out)
      rw [← hd1] at FS TF
      have HID1 := hide hd1
      have HCAT := hide (show ¬ 9223372036854775807 < d0.got.size + 1 by omega)
      clear hK1 hgb hgs hgm D0F d1g hd1 hdk
      go_wp2_with fail
      refine wp_region_L [0, 1, 2, 3, 4, 5] [(4, fun W => W.heap[b]? = some (.cells (mcL d0 (evL k zFr 0)).toArray t (0, 0)))] (by kernel_rfl) ?_
      replace B9 := hide (show w9.drew.heap[b]? = _ from B9.out)
      replace Q9 := hide (show Below b w w9.drew from Q9.out.drew)
      clear d19 f19
      generalize w9.drew = wd at *
      refine wpAnyL_pure (i := 0) (v := .pointer (some ⟨b, 0, none⟩)) rfl rfl (by kernel_rfl) (by kernel_rfl) (by kernel_rfl) (by kernel_rfl) (by kernel_rfl) (fun _ _ _ h => h) rfl (fun W => by go_simp) ?_
      go_simp
      refine wpAnyL_pure (i := 1) (v := .pointer (some ⟨b, 0, none⟩)) rfl rfl (by kernel_rfl) (by kernel_rfl) (by kernel_rfl) (by kernel_rfl) (by kernel_rfl) (fun _ _ _ h => h) rfl (fun W => by go_simp) ?_
      go_simp
      refine wpAnyL_pure (i := 2) (v := .pointer (some ⟨b, 0, none⟩)) rfl rfl (by kernel_rfl) (by kernel_rfl) (by kernel_rfl) (by kernel_rfl) (by kernel_rfl) (fun _ _ _ h => h) rfl (fun W => by go_simp) ?_
      go_simp
      refine wpAnyL_pure (i := 3) (v := .pointer (some ⟨b, 19, none⟩)) rfl rfl (by kernel_rfl) (by kernel_rfl) (by kernel_rfl) (by kernel_rfl) (by kernel_rfl) (fun _ _ _ h => h) rfl (fun W => by go_simp) ?_
      go_simp
      refine wpAnyL_load (i := 4) (v := .string d0.got) rfl rfl (by kernel_rfl) (by kernel_rfl) (by kernel_rfl) (by kernel_rfl) (by kernel_rfl) (fun _ _ _ h => h) rfl (fun W h => by (obtain ⟨-, -, ⟨-, -, -, -, -, d19, -⟩⟩ := mc_cells h; clear h; go_simp)) (B9.out) ?_
      go_simp
      refine wpAnyL_pure (i := 5) (v := .int .u8 bus.toNat) rfl rfl (by kernel_rfl) (by kernel_rfl) (by kernel_rfl) (by kernel_rfl) (by kernel_rfl) (fun _ _ _ h => h) rfl (fun W => by go_simp) ?_
      go_simp
      refine wpAnyL_one (i := 6) (by kernel_rfl) ?_
      refine wpOp_do rfl rfl ?_
      go_simp
      have qb : Below wd.heap.size wd (wd.alloc (.cells #[.int .u8 bus.toNat] 5)) := (Below.refl _ _).alloc (Nat.le_refl _) _
      have zbd : b < wd.heap.size := heap_lt B9.out
      have Z1 := hide (World.alloc_heap_new wd (.cells #[.int .u8 bus.toNat] 5))
      have B10 := hide (heap_below B9.out qb)
      have Q10 := hide (Q9.out.trans (qb.mono (Nat.le_of_lt zbd)))
      clear qb B9 Q9
      generalize wd.alloc (.cells #[.int .u8 bus.toNat] 5) = we at *
      generalize wd.heap.size = g at *
      refine ⟨keepsL_mk (by kernel_rfl) (.cons B10.out .nil), ?_⟩
      go_simp
      have hconv := run_bytes_str (P := Tryz.prog) we 110 9 5 Tryz.underlying110 Tryz.underlying5 Tryz.underlying9 g 1 1 [bus] rfl (fun i hi => by
        have : i = 0 := by simpa using hi
        subst this
        simp [World.cell?, Z1.out])
      refine wpAnyL_one (i := 7) (by kernel_rfl) ?_
      refine wpOp_do rfl rfl ?_
      go_simp
      clear hconv
      refine ⟨keepsL_mk (by kernel_rfl) (.cons B10.out .nil), ?_⟩
      go_simp
      have hcat := HCAT.out
      refine wpAnyL_one (i := 8) (by kernel_rfl) ?_
      refine wpOp_do rfl rfl ?_
      go_simp
      clear hcat
      refine ⟨keepsL_all (by kernel_rfl) (by kernel_rfl), ?_⟩
      go_simp
      refine wpAnyL_one (i := 9) (by kernel_rfl) ?_
      refine wpOp_do rfl rfl ?_
      go_simp
      refine ⟨keepsL_all (by kernel_rfl) (by kernel_rfl), ?_⟩
      go_simp
      refine wpAnyL_one (i := 10) (by kernel_rfl) ?_
      refine wpOp_do rfl rfl ?_
      go_simp
      refine ⟨keepsL_all (by kernel_rfl) (by kernel_rfl), ?_⟩
      go_simp
      refine wpAnyL_one (i := 11) (by kernel_rfl) ?_
      refine wpOp_do rfl rfl ?_
      go_simp
      refine ⟨keepsL_all (by kernel_rfl) (by kernel_rfl), ?_⟩
      go_simp
      obtain ⟨-, -, ⟨-, -, -, -, -, d19, -⟩⟩ := mc_cells B10.out
      have f19 := cl_froz B10.out 19
      refine wpAnyL_one (i := 12) (by kernel_rfl) ?_
      refine wpOp_do rfl rfl ?_
      go_simp
      have B11 := hide (show (we.setCell ⟨b, 19, none⟩ (.string (d0.got ++ ⟨#[bus]⟩))).heap[b]? = some (.cells (mcL d1 (evL k zFr 0)).toArray t (0, 0)) by
        have := mc_set B10.out 19 (.string (d0.got ++ ⟨#[bus]⟩))
        rw [HD1.out]
        simpa [mcL, Cl.cs] using this)
      have Q11 := hide (below_set Q10.out 19 (.string (d0.got ++ ⟨#[bus]⟩)))
      clear B10 Q10 Z1 d19 f19
      refine ⟨keepsL_all (by kernel_rfl) (by kernel_rfl), ?_⟩
      go_simp
      refine wpAnyL_done (by kernel_rfl) ?_ _
      generalize we.setCell ⟨b, 19, none⟩ (.string (d0.got ++ ⟨#[bus]⟩)) = wf at *
      have d19 : wf.cell? ⟨b, 19, none⟩ = some (.string (d0.got ++ ⟨#[bus]⟩)) := by
        obtain ⟨-, -, ⟨-, -, -, -, -, d19, -⟩⟩ := mc_cells B11.out
        rw [HD1.out] at d19
        exact d19
      go_wp2_with fail
      (with_reducible refine (FS.out _).mono ?_)
      rintro e12 w12 ⟨rfl, q12⟩
      have B12 := hide (heap_below B11.out q12)
      have Q12 := hide (Q11.out.trans (q12.mono (Nat.le_of_lt (heap_lt B11.out))))
      clear q12 B11 Q11 FS d19
      by_cases hz : sizeE d1.g = 12
      · have F1 := hide (FA.out d1 D1F.out 12 _ B12)
        have HM := hide (TF.out ⟨hk, hz⟩)
        rw [hz]
        clear FA D1F TF hz HD1 HD0
        go_wp2_with fail
        (with_reducible refine (F1.out).mono ?_)
        rintro e13 w13 ⟨⟨v, rfl⟩, hB, q13⟩
        go_wp2_with fail
        refine bodyPost_ret (results_none (by rfl) _ _ _) rfl ⟨⟨_, rfl⟩, by rw [HM.out]; exact hB, Q12.out.trans q13⟩
      · have hzn : ((sizeE d1.g : Int) == 12) = false := by rw [beq_eq_false_iff_ne]; omega
        clear FA D1F TF
        go_wp2_with fail
        go_meet
        exact ⟨by omega, fun h => hz (by rw [HID1.out]; exact h.2), by rw [← HID1.out]; exact B12, Q12⟩
    · have hdk := hK0.out (by omega)
      rw [hk]
      clear hK0 hK1 T3 TF FA
      go_wp2_with fail
      go_meet
      exact ⟨by omega, by omega, by rw [hdk]; exact B9, Q9⟩
    · have F1 := hide (FA.out d0 D0F.out 10 _ B9)
      have HM := hide (show M = ⟨d0.fail 10, 3, zFr, 10⟩ by rw [T3.out hk, hK0.out (by omega)])
      rw [hk]
      clear hK0 hK1 T3 TF FA
      go_wp2_with fail
      (with_reducible refine (F1.out).mono ?_)
      rintro e10 w10 ⟨⟨v, rfl⟩, hB, q10⟩
      go_wp2_with fail
      refine bodyPost_ret (results_none (by rfl) _ _ _) rfl ⟨⟨_, rfl⟩, by rw [HM.out]; exact hB, Q9.out.trans q10⟩
  case rest =>
  obtain ⟨n3, nF, hB, hQ⟩ := hcut
  have HM := hide (TG.out n3 nF)
  obtain ⟨d, hd⟩ : ∃ d, d = c1.tk bus := ⟨_, rfl⟩
  have hat1 : 0 ≤ d.at_ := by rw [hd]; exact HAT.out.1
  have hat2 : d.at_ ≤ 1000 := by rw [hd]; exact HAT.out.2
  have HDG := hide (show d.en = false ∧ d.good = false by rw [hd]; exact ⟨HD.out.en, HD.out.good⟩)
  have HDN := hide (show d.sn = (d.N : Int) by rw [hd, tk_N]; rfl)
  have HDL := hide (HLE.out n3 nF)
  have hgs : d.g.length = d.got.size := Array.length_toList
  have hgl : 1 ≤ d.g.length := by
    rw [hd, tk_g]
    split
    · rw [List.length_append]; simp
    · have := HLEN0.out
      rw [HD0.out] at this
      exact this
  have hgb : ∀ y ∈ d.g, y = 48 ∨ y = 49 := by
    rw [hd, tk_g]
    intro y hy
    split at hy
    · rw [List.mem_append, List.mem_singleton] at hy
      rcases hy with hy | rfl
      · exact HD.out.bits y hy
      · exact hbus
    · exact HD.out.bits y hy
  have hgm : d.g.length ≤ 119 := by
    have := HD.out.most
    rw [hd, tk_g]
    split
    · rw [List.length_append, List.length_singleton]; omega
    · omega
  rw [← hd] at hB HDL HM
  clear n3 nF TG T3 TF HLE HD HD0 HLEN0 HL0 HGD hK0 hK1 FA D0F hgood hd B9 Q9 hN5
  obtain ⟨-, -, ⟨d14, -, d16, -⟩⟩ := mc_cells hB.out
  have f16 := cl_froz hB.out 16
  go_upto_if 108 with fail
  go_cut [108] from 9 (fun _ W => Hid (W.heap[b]? = some (.cells (mcL d.adv (evL k zFr 0)).toArray t (0, 0))) ∧ Hid (Below b w W))
  case first =>
    clear HDG HDN HDL hgs hgl hgb hgm HM
    rcases Bool.eq_false_or_eq_true d.sends with hs | hs
    · have HA := hide (show d.adv = { d with at_ := d.at_ + 1 } by unfold Cl.adv; rw [if_pos hs])
      have H := hide (mc_set hB.out 16 (.int .i64 (d.at_ + 1)))
      have HQ := hide (below_set hQ.out 16 (.int .i64 (d.at_ + 1)))
      rw [hs]
      clear hB hQ
      go_wp2_with fail
      go_meet
      refine ⟨hide ?_, HQ⟩
      have := H.out
      rw [HA.out]
      simpa [mcL, Cl.cs] using this
    · have HA := hide (show d.adv = d by unfold Cl.adv; rw [if_neg (by rw [hs]; decide)])
      rw [hs]
      go_wp2_with fail
      go_meet
      exact ⟨by rw [HA.out]; exact hB, hQ⟩
  case rest =>
  clear hB hQ d14 d16 f16 hat1 hat2
  obtain ⟨hB, hQ⟩ := hcut
  obtain ⟨q1, q2, q3, q4, q5, q6, q7, q8, q9, q10, q11, q12⟩ := adv_same d
  obtain ⟨e, he⟩ : ∃ e, e = d.adv := ⟨_, rfl⟩
  rw [← he] at q1 q2 q3 q4 q12 hB HM
  have HEN := hide (show e.sn = (e.N : Int) by rw [q12, q4]; exact HDN.out)
  have HEG := hide (show e.en = false ∧ e.good = false by rw [q1, q2]; exact HDG.out)
  have hgs2 : e.g.length = e.got.size := Array.length_toList
  rw [← q3] at hgl hgb hgm HDL
  have CZ := hide (fun W => show Calls Tryz.prog 74 #[.string e.got] W fun x w' => x = .returned (.int .i64 (sizC e.g : Nat)) ∧ Below W.heap.size W w' from ctlSize_any e.got W hgb (by omega))
  have GD := hide (fun W => show Calls Tryz.prog 75 #[.string e.got] W fun x w' => x = .returned (.bool (goodB e.g)) ∧ Below W.heap.size W w' from ctlGood_any e.got W hgb (by omega))
  have zc : b < wc.heap.size := heap_lt hB.out
  obtain ⟨-, -, ⟨-, -, -, -, d18, d19, -⟩⟩ := mc_cells hB.out
  rw [HEN.out] at d18
  have m18 := fun s : InW wc => s.cell zc d18
  have m19 := fun s : InW wc => s.cell zc d19
  have hs0 : 0 < e.got.size := by omega
  clear q1 q2 q3 q4 q5 q6 q7 q8 q9 q10 q11 q12 he hgs HDN HDG d18 d19
  cases hdone : doneB e.g e.N with
  | true =>
    obtain ⟨s1, s2⟩ := sizC_done hdone
    have HW := hide (show e.whole = { e with en := true, good := goodB e.g } by unfold Cl.whole; rw [if_pos hdone])
    rw [s1, hgs2] at CZ
    have s2' : (e.N : Int) < 5 := by omega
    clear hdone s1 s2 HDL hgb hgl hgm hgs2
    go_wp2_with fail
    refine wp_region_tame (by kernel_rfl) (by kernel_rfl) ?_
    repeat (go_big_quiet_step (first | (go_at_call 74; exact tame_of (CZ.out _))))
    refine wpQuiet_nil ?_
    rintro _ ⟨sw, rfl⟩
    have B20 := hide (heap_below hB.out sw.h)
    have Q20 := hide (hQ.out.trans (sw.h.mono (Nat.le_of_lt zc)))
    obtain ⟨-, -, ⟨-, -, -, -, -, d19, -⟩⟩ := mc_cells B20.out
    clear m18 m19
    go_wp2_with fail
    (with_reducible refine (GD.out _).mono ?_)
    rintro e21 w21 ⟨rfl, q21⟩
    have B21 := hide (heap_below B20.out q21)
    have Q21 := hide (Q20.out.trans (q21.mono (Nat.le_of_lt (heap_lt B20.out))))
    obtain ⟨-, -, ⟨-, -, -, -, -, -, d20, -, d22⟩⟩ := mc_cells B21.out
    have f20 := cl_froz B21.out 20
    have f22 := cl_froz B21.out 22
    have H := hide (mc_set (mc_set B21.out 20 (.bool true)) 22 (.bool (goodB e.g)))
    have HQ := hide (below_set (below_set Q21.out 20 (.bool true)) 22 (.bool (goodB e.g)))
    clear q21 B20 Q20 B21 Q21 GD CZ d19
    go_wp2_with fail
    go_end0
    refine ⟨⟨_, rfl⟩, ?_, HQ.out⟩
    rw [HM.out]
    have := H.out
    rw [HW.out]
    simpa [mcL, Cl.cs] using this
  | false =>
    have HW := hide (show e.whole = e by unfold Cl.whole; rw [if_neg (by rw [hdone]; decide)])
    have hz := sizC_not hdone HDL.out
    rw [hgs2] at hz
    generalize sizC e.g = z at *
    have hz2 : ((e.got.size : Int) == (z : Int)) = false ∨ z = e.got.size ∧ decide ((e.N : Int) < 5) = false := by
      rcases hz with h | h | ⟨h, h2⟩
      · left; rw [beq_eq_false_iff_ne]; omega
      · left; rw [beq_eq_false_iff_ne]; omega
      · right; exact ⟨h, decide_eq_false (by omega)⟩
    clear hdone hz HDL hgb hgl hgm hgs2 GD
    rcases hz2 with h | ⟨h, h2⟩
    · go_wp2_with fail
      refine wp_region_tame (by kernel_rfl) (by kernel_rfl) ?_
      repeat (go_big_quiet_step (first | (go_at_call 74; exact tame_of (CZ.out _))))
      refine wpQuiet_nil ?_
      rintro _ ⟨sw, rfl⟩
      have B20 := hide (heap_below hB.out sw.h)
      have Q20 := hide (hQ.out.trans (sw.h.mono (Nat.le_of_lt zc)))
      clear m18 m19
      go_wp2_with fail
      go_end0
      exact ⟨⟨_, rfl⟩, by rw [HM.out, HW.out]; exact B20.out, Q20.out⟩
    · subst h
      go_wp2_with fail
      refine wp_region_tame (by kernel_rfl) (by kernel_rfl) ?_
      repeat (go_big_quiet_step (first | (go_at_call 74; exact tame_of (CZ.out _))))
      refine wpQuiet_nil ?_
      rintro _ ⟨sw, rfl⟩
      have B20 := hide (heap_below hB.out sw.h)
      have Q20 := hide (hQ.out.trans (sw.h.mono (Nat.le_of_lt zc)))
      clear m18 m19
      go_wp2_with fail
      go_end0
      exact ⟨⟨_, rfl⟩, by rw [HM.out, HW.out]; exact B20.out, Q20.out⟩
end Go.Proofs.YthkilodnghiocaaGreatDoor
