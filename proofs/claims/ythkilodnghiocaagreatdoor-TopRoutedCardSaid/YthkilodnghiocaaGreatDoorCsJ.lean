/- The walk of a machine's behind. -/
import Derived.Test.YthkilodnghiocaaGreatDoorCsI
namespace Go.Proofs.YthkilodnghiocaaGreatDoor
open Go.ChangeShapes Go.WideShapes Go.ChangeAt Go.RowKit
open FP (Fr uN uK doneB sizeE sizeV goodB bitsF bodyF headOf readV readE RS rsOf)

theorem Cl.Ok.at_bd {c : Cl} (h : c.Ok) (h2 : c.st = 2) : 0 ≤ c.at_ ∧ c.at_ ≤ 1000 := by
  have hi := h.inn h2
  rcases Bool.eq_false_or_eq_true c.sends with hs | hs
  · obtain ⟨y1, y2, y3, y4, y5⟩ := hi.yes hs
    have hb := FP.body_le (h.has y1)
    have := hi.t0
    have := hi.t9
    cases he : c.en
    · have := y4 he; omega
    · have := y3 he; omega
  · have := (hi.no hs).2
    omega
theorem headOf_ext (s : ByteArray) (m : Nat) (hm : (s.size : Int) - 15 = (m : Int)) : headOf s.data.toList = (s.extract 0 m).data.toList := by
  have LS : s.data.toList.length = s.size := Array.length_toList
  unfold headOf
  rw [LS, toList_extract, List.extract_eq_take_drop, List.drop_zero, Nat.sub_zero, show m = s.size - 15 by omega]

set_option maxRecDepth 100000 in
set_option maxHeartbeats 16000000 in
theorem mcBehind_ok (c : Cl) (b : Nat) (t : TypeId) (bus : UInt8) (hbus : bus = 48 ∨ bus = 49) (w : World) (h : c.Ok) (h2 : c.st = 2) (he : c.en = true) (hB : Hid (w.heap[b]? = some (.cells (mcL c (evL 0 zFr 0)).toArray t (0, 0)))) :
    Calls Tryz.prog 98 #[.pointer (some ⟨b, 0, none⟩), .int .u8 bus.toNat] w fun e w' => (∃ v, e = .returned v) ∧ w'.heap[b]? = some (.cells (mcL (c.behind bus).c (evL (c.behind bus).kind (c.behind bus).ef (c.behind bus).bad)).toArray t (0, 0)) ∧ Below b w w' := by
  have hi := h.inn h2
  have hoff := h.on (by omega)
  obtain ⟨hrs, hcn, _⟩ := cnt_on h.cnt hoff
  have hat := h.at_bd h2
  have t0 := hi.t0
  have t9 := hi.t9
  have FA := hide (fun bad W hh => mcFails_on c (evL 0 zFr 0) bad b t W hh rfl hoff hrs hcn)
  have EL := hide (fun W hh => mcEnds_low c (evL 0 zFr 0) b t W hh)
  have EC := hide (fun W hh (hs : c.sends = false) => mcEnds_came c (evL 0 zFr 0) b t W hh hs)
  have ES := hide (fun W hh (hs : c.sends = true) => mcEnds_sent c (evL 0 zFr 0) b t W hh rfl hs hoff hrs hcn)
  have CO := hide (fun W hh => mcCounts_on c (evL 0 zFr 0) 2 b t W hh hoff hrs hcn (by decide))
  have hlen : 15 ≤ c.got.size := by
    have hd : doneB c.g c.N = true := by rw [← hi.en]; exact he
    have h1 := (sizC_done hd).1
    have h3 : c.g.length = c.got.size := Array.length_toList
    unfold sizC at h1
    split at h1
    · omega
    · have := hi.first
      rw [List.length_eq_zero_iff.1 (show c.g.length = 0 by omega)] at this
      cases this
  have hgm : c.got.size ≤ 118 := by
    have := FP.got_most hi.size hi.le
    have h3 : c.g.length = c.got.size := Array.length_toList
    omega
  obtain ⟨m, hm⟩ : ∃ m : Nat, (c.got.size : Int) - 15 = m := ⟨c.got.size - 15, by omega⟩
  have RD := hide (fun W => show Calls Tryz.prog 45 #[.string (c.got.extract 0 m)] W fun e w' => e = .returned (.tuple #[.agg #[.int .u32 (readV (headOf c.g)).id, .bool (readV (headOf c.g)).ext, .bool (readV (headOf c.g)).rem, .int .i64 (readV (headOf c.g)).dlc, .string (readV (headOf c.g)).data], .int .i64 (readE (headOf c.g) : Nat)]) ∧ Below W.heap.size W w' from (show headOf c.g = (c.got.extract 0 m).data.toList from headOf_ext c.got m hm) ▸ frRead_any (c.got.extract 0 m) W (extract_bits hi.bits _ _) (by rw [ByteArray.size_extract]; omega))
  have HRF := hide (show ∃ rv, rv = readV (headOf c.g) from ⟨_, rfl⟩)
  generalize hrv : readV (headOf c.g) = rv at *
  generalize readE (headOf c.g) = re at *
  have HRV := hide hrv
  have HM := hide hm
  have HAT := hide hat
  have HLEN := hide (show (15 : Int) ≤ c.got.size ∧ (c.got.size : Int) ≤ 118 by omega)
  obtain ⟨M, hM⟩ : ∃ M, M = c.behind bus := ⟨_, rfl⟩
  rw [← hM]
  have HBE := hide hM
  have HT := hide (show 0 ≤ c.tail ∧ c.tail ≤ 9 from ⟨t0, t9⟩)
  clear hi h h2 he hoff hrs hcn hlen hgm hm hM HRF hrv hat
  obtain ⟨-, -, ⟨d14, -, -, -, -, -, -, d21, d22⟩⟩ := mc_cells hB.out
  go_enter Tryz.func98, Tryz.ntmps98
  go_upto_block 0 with fail
  go_cut [4, 5, 6, 7] from 8 (fun _ _ _ _ W => ∃ (c1 : Cl) (k : Int) (f : Fr), Hid (M = ⟨c1.on, k, f, 0⟩) ∧ Hid (c1.tail = c.tail ∧ c1.at_ = c.at_) ∧ Hid (W.heap[b]? = some (.cells (mcL c1 (evL k f 0)).toArray t (0, 0))) ∧ Hid (Below b w W))
  case first =>
    have hk : c.tail = 1 ∨ c.tail = 2 ∨ c.tail = 8 ∨ c.tail = 9 ∨ (c.tail ≠ 1 ∧ c.tail ≠ 2 ∧ c.tail ≠ 8 ∧ c.tail ≠ 9) := by omega
    rcases hk with ht | ht | ht | ht | ⟨k1, k2, k8, k9⟩
    · rcases hbus with rfl | rfl
      · rcases Bool.eq_false_or_eq_true c.sends with hs | hs
        · have MM := hide (show M = ⟨c.on, 0, zFr, 0⟩ by rw [HBE.out]; simp [Cl.behind, ev0, ht, hs])
          rw [ht] at d21
          rw [hs] at d14
          clear FA EL EC ES CO RD HBE HRV HM HAT HLEN HT t0 t9
          go_wp2_with fail
          go_meet
          exact ⟨c, 0, zFr, MM, hide ⟨rfl, rfl⟩, hB, hide (Below.refl _ _)⟩
        · have MM := hide (show M = ⟨c.on, 0, zFr, 0⟩ by rw [HBE.out]; simp [Cl.behind, ev0, ht, hs])
          rw [ht] at d21
          rw [hs] at d14
          clear FA EL EC ES CO RD HBE HRV HM HAT HLEN HT t0 t9
          go_wp2_with fail
          go_meet
          exact ⟨c, 0, zFr, MM, hide ⟨rfl, rfl⟩, hB, hide (Below.refl _ _)⟩
      · rcases Bool.eq_false_or_eq_true c.sends with hs | hs
        · have MM := hide (show M = ⟨c.fail 14, 3, zFr, 14⟩ by rw [HBE.out]; simp [Cl.behind, ht, hs])
          have F1 := hide (FA.out 14 w hB)
          rw [ht] at d21
          rw [hs] at d14
          clear FA EL EC ES CO RD HBE HRV HM HAT HLEN HT t0 t9
          go_wp2_with fail
          (with_reducible refine (F1.out).mono ?_)
          rintro e3 w3 ⟨⟨v, rfl⟩, hB3, q3⟩
          go_wp2_with fail
          refine bodyPost_ret (results_none (by rfl) _ _ _) rfl ⟨⟨_, rfl⟩, by rw [MM.out]; exact hB3, q3⟩
        · have MM := hide (show M = ⟨c.on, 0, zFr, 0⟩ by rw [HBE.out]; simp [Cl.behind, ev0, ht, hs])
          rw [ht] at d21
          rw [hs] at d14
          clear FA EL EC ES CO RD HBE HRV HM HAT HLEN HT t0 t9
          go_wp2_with fail
          go_meet
          exact ⟨c, 0, zFr, MM, hide ⟨rfl, rfl⟩, hB, hide (Below.refl _ _)⟩
    · rcases hbus with rfl | rfl
      · have MM := hide (show M = ⟨c.fail 12, 3, zFr, 12⟩ by rw [HBE.out]; simp [Cl.behind, ht])
        have F1 := hide (FA.out 12 w hB)
        rw [ht] at d21
        clear FA EL EC ES CO RD HBE HRV HM HAT HLEN HT t0 t9
        go_wp2_with fail
        (with_reducible refine (F1.out).mono ?_)
        rintro e3 w3 ⟨⟨v, rfl⟩, hB3, q3⟩
        go_wp2_with fail
        refine bodyPost_ret (results_none (by rfl) _ _ _) rfl ⟨⟨_, rfl⟩, by rw [MM.out]; exact hB3, q3⟩
      · rcases Bool.eq_false_or_eq_true c.sends with hs | hs
        · have MM := hide (show M = ⟨c.on, 0, zFr, 0⟩ by rw [HBE.out]; simp [Cl.behind, ev0, ht, hs])
          rw [ht] at d21
          rw [hs] at d14
          clear FA EL EC ES CO RD HBE HRV HM HAT HLEN HT t0 t9
          go_wp2_with fail
          go_meet
          exact ⟨c, 0, zFr, MM, hide ⟨rfl, rfl⟩, hB, hide (Below.refl _ _)⟩
        · rcases Bool.eq_false_or_eq_true c.good with hg | hg
          · have MM := hide (show M = ⟨c.on, 0, zFr, 0⟩ by rw [HBE.out]; simp [Cl.behind, ev0, ht, hs, hg])
            rw [ht] at d21
            rw [hs] at d14
            rw [hg] at d22
            clear FA EL EC ES CO RD HBE HRV HM HAT HLEN HT t0 t9
            go_wp2_with fail
            go_meet
            exact ⟨c, 0, zFr, MM, hide ⟨rfl, rfl⟩, hB, hide (Below.refl _ _)⟩
          · have MM := hide (show M = ⟨c.fail 11, 3, zFr, 11⟩ by rw [HBE.out]; simp [Cl.behind, ht, hs, hg])
            have F1 := hide (FA.out 11 w hB)
            rw [ht] at d21
            rw [hs] at d14
            rw [hg] at d22
            clear FA EL EC ES CO RD HBE HRV HM HAT HLEN HT t0 t9
            go_wp2_with fail
            (with_reducible refine (F1.out).mono ?_)
            rintro e3 w3 ⟨⟨v, rfl⟩, hB3, q3⟩
            go_wp2_with fail
            refine bodyPost_ret (results_none (by rfl) _ _ _) rfl ⟨⟨_, rfl⟩, by rw [MM.out]; exact hB3, q3⟩
    · rcases hbus with rfl | rfl
      · have MM := hide (show M = ⟨c.fail 12, 3, zFr, 12⟩ by rw [HBE.out]; simp [Cl.behind, ht])
        have F1 := hide (FA.out 12 w hB)
        rw [ht] at d21
        clear FA EL EC ES CO RD HBE HRV HM HAT HLEN HT t0 t9
        go_wp2_with fail
        (with_reducible refine (F1.out).mono ?_)
        rintro e3 w3 ⟨⟨v, rfl⟩, hB3, q3⟩
        go_wp2_with fail
        refine bodyPost_ret (results_none (by rfl) _ _ _) rfl ⟨⟨_, rfl⟩, by rw [MM.out]; exact hB3, q3⟩
      · rcases Bool.eq_false_or_eq_true c.sends with hs | hs
        · have MM := hide (show M = ⟨c.on, 0, zFr, 0⟩ by rw [HBE.out]; simp [Cl.behind, ev0, ht, hs])
          rw [ht] at d21
          rw [hs] at d14
          clear FA EL EC ES CO RD HBE HRV HM HAT HLEN HT t0 t9
          go_wp2_with fail
          go_meet
          exact ⟨c, 0, zFr, MM, hide ⟨rfl, rfl⟩, hB, hide (Below.refl _ _)⟩
        · have MM := hide (show M = ⟨(c.count 2).on, 2, rv, 0⟩ by rw [HBE.out]; simp [Cl.behind, ht, hs, HRV.out])
          have HE := hide (show (c.count 2).tail = c.tail ∧ (c.count 2).at_ = c.at_ by unfold Cl.count; split <;> exact ⟨rfl, rfl⟩)
          have HG := hide (show (c.count 2).got = c.got by unfold Cl.count; split <;> rfl)
          have F1 := hide (CO.out w hB)
          rw [ht] at d21
          rw [hs] at d14
          have hml : (m : Int) ≤ c.got.size := by have := HM.out; omega
          have hm0 : (c.got.size : Int) - 15 = (m : Int) := HM.out
          have hm4 : (m : Int) ≤ 118 := by have := HLEN.out; omega
          clear FA EL EC ES CO HBE HRV HM HAT HLEN HT t0 t9
          generalize c.count 2 = cd at *
          go_wp2_with fail
          (with_reducible refine (F1.out).mono ?_)
          rintro e3 w3 ⟨rfl, hB3, q3⟩
          have B3 := hide hB3
          have Q3 := hide q3
          clear hB3 q3 F1 d14 d21 d22
          go_wp2_with fail
          refine wp_region_L [0, 1, 2, 3, 4, 5, 6, 7, 8, 9, 10, 11, 12, 14, 15, 16] [(4, fun W => W.cell? ⟨b, 19, none⟩ = some (.string c.got)), (9, fun W => W.cell? ⟨b, 19, none⟩ = some (.string c.got))] (by kernel_rfl) ?_
          replace B3 := hide (show w3.drew.heap[b]? = _ from B3.out)
          replace Q3 := hide (show Below b w w3.drew from Q3.out.drew)
          generalize w3.drew = w4 at *
          have CG := hide (show w4.cell? ⟨b, 19, none⟩ = some (.string c.got) by (obtain ⟨-, -, ⟨-, -, -, -, -, d19, -⟩⟩ := mc_cells B3.out; rw [HG.out] at d19; exact d19))
          have zb : b < w4.heap.size := heap_lt B3.out
          refine wpAnyL_pure (i := 0) (v := .pointer (some ⟨b, 0, none⟩)) rfl rfl (by kernel_rfl) (by kernel_rfl) (by kernel_rfl) (by kernel_rfl) (by kernel_rfl) (fun _ _ _ h => h) rfl (fun W => by go_simp) ?_
          go_simp
          refine wpAnyL_pure (i := 1) (v := .pointer (some ⟨b, 0, none⟩)) rfl rfl (by kernel_rfl) (by kernel_rfl) (by kernel_rfl) (by kernel_rfl) (by kernel_rfl) (fun _ _ _ h => h) rfl (fun W => by go_simp) ?_
          go_simp
          refine wpAnyL_pure (i := 2) (v := .pointer (some ⟨b, 0, none⟩)) rfl rfl (by kernel_rfl) (by kernel_rfl) (by kernel_rfl) (by kernel_rfl) (by kernel_rfl) (fun _ _ _ h => h) rfl (fun W => by go_simp) ?_
          go_simp
          refine wpAnyL_pure (i := 3) (v := .pointer (some ⟨b, 19, none⟩)) rfl rfl (by kernel_rfl) (by kernel_rfl) (by kernel_rfl) (by kernel_rfl) (by kernel_rfl) (fun _ _ _ h => h) rfl (fun W => by go_simp) ?_
          go_simp
          refine wpAnyL_load (i := 4) (v := .string c.got) rfl rfl (by kernel_rfl) (by kernel_rfl) (by kernel_rfl) (by kernel_rfl) (by kernel_rfl) (fun _ _ _ h => h) rfl (fun W h => by (have hc0 := h; clear h; go_simp)) (CG.out) ?_
          go_simp
          refine wpAnyL_pure (i := 5) (v := .pointer (some ⟨b, 0, none⟩)) rfl rfl (by kernel_rfl) (by kernel_rfl) (by kernel_rfl) (by kernel_rfl) (by kernel_rfl) (fun _ _ _ h => h) rfl (fun W => by go_simp) ?_
          go_simp
          refine wpAnyL_pure (i := 6) (v := .pointer (some ⟨b, 0, none⟩)) rfl rfl (by kernel_rfl) (by kernel_rfl) (by kernel_rfl) (by kernel_rfl) (by kernel_rfl) (fun _ _ _ h => h) rfl (fun W => by go_simp) ?_
          go_simp
          refine wpAnyL_pure (i := 7) (v := .pointer (some ⟨b, 0, none⟩)) rfl rfl (by kernel_rfl) (by kernel_rfl) (by kernel_rfl) (by kernel_rfl) (by kernel_rfl) (fun _ _ _ h => h) rfl (fun W => by go_simp) ?_
          go_simp
          refine wpAnyL_pure (i := 8) (v := .pointer (some ⟨b, 19, none⟩)) rfl rfl (by kernel_rfl) (by kernel_rfl) (by kernel_rfl) (by kernel_rfl) (by kernel_rfl) (fun _ _ _ h => h) rfl (fun W => by go_simp) ?_
          go_simp
          refine wpAnyL_load (i := 9) (v := .string c.got) rfl rfl (by kernel_rfl) (by kernel_rfl) (by kernel_rfl) (by kernel_rfl) (by kernel_rfl) (fun _ _ _ h => h) rfl (fun W h => by (have hc0 := h; clear h; go_simp)) (CG.out) ?_
          go_simp
          refine wpAnyL_pure (i := 10) (v := .int .i64 c.got.size) rfl rfl (by kernel_rfl) (by kernel_rfl) (by kernel_rfl) (by kernel_rfl) (by kernel_rfl) (fun _ _ _ h => h) rfl (fun W => by go_simp) ?_
          go_simp
          refine wpAnyL_pure (i := 11) (v := .int .i64 m) rfl rfl (by kernel_rfl) (by kernel_rfl) (by kernel_rfl) (by kernel_rfl) (by kernel_rfl) (fun _ _ _ h => h) rfl (fun W => by (have hwr : IntKind.i64.wrap (m : Int) = (m : Int) := IntWalk.i64_in _ (by omega); go_simp)) ?_
          go_simp
          refine wpAnyL_pure (i := 12) (v := .string (c.got.extract 0 m)) rfl rfl (by kernel_rfl) (by kernel_rfl) (by kernel_rfl) (by kernel_rfl) (by kernel_rfl) (fun _ _ _ h => h) rfl (fun W => by go_simp) ?_
          go_simp
          clear CG
          refine wpAnyL_two (i := 13) (k := 17) (by kernel_rfl) ?_ ?_
          · refine wpOp_do rfl rfl ?_
            go_simp
            (with_reducible refine (RD.out _).mono ?_)
            rintro e5 w5 ⟨rfl, q5⟩
            have B5 := hide (heap_below B3.out q5)
            have Q5 := hide (Q3.out.trans (q5.mono (Nat.le_of_lt zb)))
            have zb5 : b < w5.heap.size := heap_lt B5.out
            clear q5 B3 Q3
            go_simp
            refine ⟨keepsL_all (by kernel_rfl) (by kernel_rfl), ?_⟩
            refine wpAnyL_pure (i := 14) (v := .tuple #[.agg #[.int .u32 rv.id, .bool rv.ext, .bool rv.rem, .int .i64 rv.dlc, .string rv.data], .int .i64 re]) rfl rfl (by kernel_rfl) (by kernel_rfl) (by kernel_rfl) (by kernel_rfl) (by kernel_rfl) (fun _ _ _ h => h) rfl (fun W => by go_simp) ?_
            go_simp
            refine wpAnyL_pure (i := 15) (v := .agg #[.int .u32 rv.id, .bool rv.ext, .bool rv.rem, .int .i64 rv.dlc, .string rv.data]) rfl rfl (by kernel_rfl) (by kernel_rfl) (by kernel_rfl) (by kernel_rfl) (by kernel_rfl) (fun _ _ _ h => h) rfl (fun W => by go_simp) ?_
            go_simp
            refine wpAnyL_pure (i := 16) (v := .int .i64 re) rfl rfl (by kernel_rfl) (by kernel_rfl) (by kernel_rfl) (by kernel_rfl) (by kernel_rfl) (fun _ _ _ h => h) rfl (fun W => by go_simp) ?_
            go_simp
            refine wpAnyL_one (i := 17) (by kernel_rfl) ?_
            refine wpOp_do rfl rfl ?_
            go_simp
            have al : Below w5.heap.size w5 (w5.alloc (.cells (frc zFr).toArray 45)) := (Below.refl _ _).alloc (Nat.le_refl _) _
            have B6 := hide (heap_below B5.out al)
            have Q6 := hide (Q5.out.trans (al.mono (Nat.le_of_lt zb5)))
            have F6 := hide (World.alloc_heap_new w5 (.cells (frc zFr).toArray 45))
            clear al B5 Q5
            have CG6 := hide (show (w5.alloc (.cells (frc zFr).toArray 45)).cell? ⟨b, 19, none⟩ = some (.string c.got) by (obtain ⟨-, -, ⟨-, -, -, -, -, d19, -⟩⟩ := mc_cells B6.out; rw [HG.out] at d19; exact d19))
            refine ⟨keepsL_mk (by kernel_rfl) (.cons CG6.out (.cons CG6.out .nil)), ?_⟩
            clear CG6
            change wpAnyL _ _ _ _ _ _ _ _ _ (w5.alloc (.cells (frc zFr).toArray 45))
            generalize w5.alloc (.cells (frc zFr).toArray 45) = w6 at *
            refine wpAnyL_one (i := 18) (by kernel_rfl) ?_
            refine wpOp_do rfl rfl ?_
            refine wp_store_as 45 (.tmp 6) (.tmp 105) rfl w5.heap.size 0 (frc rv) (by rfl) (by rfl) (by exact (show World.there _ w5.heap.size 0 5 from there_heap (cs := frc zFr) F6.out)) (by kernel_rfl) (by simp [Value.oneCell', frc]) ?_
            intro W7 e7
            have Y7 := hide (show W7.heap[w5.heap.size]? = some (.cells (frc rv).toArray 45 (0, 0)) by rw [e7]; exact whole_heap (frc rv) (xs := frc zFr) F6.out rfl)
            have B7 := hide (show W7.heap[b]? = some (.cells (mcL cd (evL 0 zFr 0)).toArray t (0, 0)) by rw [e7]; exact other_heap (by omega) _ _ _ B6.out)
            have Q7 := hide (show Below b w W7 by rw [e7]; exact Q6.out.trans (below_setCells _ _ _ (by omega)))
            clear e7 F6 B6 Q6
            refine ⟨keepsL_all (by kernel_rfl) (by kernel_rfl), ?_⟩
            go_simp
            refine wpAnyL_one (i := 19) (by kernel_rfl) ?_
            refine wpOp_do rfl rfl ?_
            go_simp
            refine ⟨keepsL_all (by kernel_rfl) (by kernel_rfl), ?_⟩
            refine wpAnyL_done (by kernel_rfl) ?_ _
            obtain ⟨y0, y1, y2, y3, y4⟩ := frCells Y7.out
            have T7 := hide (there_sub (there_heap B7.out) 23 7 (by simp [mcL, Cl.cs, evL]))
            go_wp2_with (refine wpList_store_hid (by rfl) 50 (.tmp 111) (.tmp 109) (by rfl) b 23 (evL 2 rv 0) (by rfl) (by rfl) (by exact T7.out) (by kernel_rfl) (by simp [Value.oneCell', evL]) ?_)
            intro W8 e8
            have B8 := hide (show W8.heap[b]? = some (.cells (mcL cd (evL 2 rv 0)).toArray t (0, 0)) by
              rw [e8.out]
              have := set_heap (evL 2 rv 0) (mcL cd (evL 0 zFr 0)) 23 W7 B7.out
              simpa [mcL, Cl.cs, evL, setL] using this)
            have Q8 := hide (show Below b w W8 by rw [e8.out]; exact Q7.out.trans (below_setCells _ _ _ (Nat.le_refl _)))
            clear e8 T7 B7 Q7 Y7 y0 y1 y2 y3 y4
            go_wp2_with fail
            go_meet
            exact ⟨cd, 2, rv, MM, HE, B8, Q8⟩
          · refine wpOp_do rfl rfl ?_
            go_simp
            have al : Below w4.heap.size w4 (w4.alloc (.cells (frc zFr).toArray 45)) := (Below.refl _ _).alloc (Nat.le_refl _) _
            have B5 := hide (heap_below B3.out al)
            have Q5 := hide (Q3.out.trans (al.mono (Nat.le_of_lt zb)))
            have F5 := hide (World.alloc_heap_new w4 (.cells (frc zFr).toArray 45))
            clear al B3 Q3
            have CG6 := hide (show (w4.alloc (.cells (frc zFr).toArray 45)).cell? ⟨b, 19, none⟩ = some (.string c.got) by (obtain ⟨-, -, ⟨-, -, -, -, -, d19, -⟩⟩ := mc_cells B5.out; rw [HG.out] at d19; exact d19))
            refine ⟨keepsL_mk (by kernel_rfl) (.cons CG6.out (.cons CG6.out .nil)), ?_⟩
            clear CG6
            change wpAnyL _ _ _ _ _ _ _ _ _ (w4.alloc (.cells (frc zFr).toArray 45))
            generalize w4.alloc (.cells (frc zFr).toArray 45) = w5 at *
            refine wpAnyL_one (i := 13) (by kernel_rfl) ?_
            refine wpOp_do rfl rfl ?_
            go_simp
            (with_reducible refine (RD.out _).mono ?_)
            rintro e6 w6 ⟨rfl, q6⟩
            have F6 := hide (heap_below F5.out q6)
            have B6 := hide (heap_below B5.out q6)
            have Q6 := hide (Q5.out.trans (q6.mono (Nat.le_of_lt (heap_lt B5.out))))
            clear q6 B5 Q5 F5
            go_simp
            refine ⟨keepsL_all (by kernel_rfl) (by kernel_rfl), ?_⟩
            refine wpAnyL_pure (i := 14) (v := .tuple #[.agg #[.int .u32 rv.id, .bool rv.ext, .bool rv.rem, .int .i64 rv.dlc, .string rv.data], .int .i64 re]) rfl rfl (by kernel_rfl) (by kernel_rfl) (by kernel_rfl) (by kernel_rfl) (by kernel_rfl) (fun _ _ _ h => h) rfl (fun W => by go_simp) ?_
            go_simp
            refine wpAnyL_pure (i := 15) (v := .agg #[.int .u32 rv.id, .bool rv.ext, .bool rv.rem, .int .i64 rv.dlc, .string rv.data]) rfl rfl (by kernel_rfl) (by kernel_rfl) (by kernel_rfl) (by kernel_rfl) (by kernel_rfl) (fun _ _ _ h => h) rfl (fun W => by go_simp) ?_
            go_simp
            refine wpAnyL_pure (i := 16) (v := .int .i64 re) rfl rfl (by kernel_rfl) (by kernel_rfl) (by kernel_rfl) (by kernel_rfl) (by kernel_rfl) (fun _ _ _ h => h) rfl (fun W => by go_simp) ?_
            go_simp
            refine wpAnyL_one (i := 18) (by kernel_rfl) ?_
            refine wpOp_do rfl rfl ?_
            refine wp_store_as 45 (.tmp 6) (.tmp 105) rfl w4.heap.size 0 (frc rv) (by rfl) (by rfl) (by exact (show World.there _ w4.heap.size 0 5 from there_heap (cs := frc zFr) F6.out)) (by kernel_rfl) (by simp [Value.oneCell', frc]) ?_
            intro W7 e7
            have Y7 := hide (show W7.heap[w4.heap.size]? = some (.cells (frc rv).toArray 45 (0, 0)) by rw [e7]; exact whole_heap (frc rv) (xs := frc zFr) F6.out rfl)
            have B7 := hide (show W7.heap[b]? = some (.cells (mcL cd (evL 0 zFr 0)).toArray t (0, 0)) by rw [e7]; exact other_heap (by omega) _ _ _ B6.out)
            have Q7 := hide (show Below b w W7 by rw [e7]; exact Q6.out.trans (below_setCells _ _ _ (by omega)))
            clear e7 F6 B6 Q6
            refine ⟨keepsL_all (by kernel_rfl) (by kernel_rfl), ?_⟩
            go_simp
            refine wpAnyL_one (i := 19) (by kernel_rfl) ?_
            refine wpOp_do rfl rfl ?_
            go_simp
            refine ⟨keepsL_all (by kernel_rfl) (by kernel_rfl), ?_⟩
            refine wpAnyL_done (by kernel_rfl) ?_ _
            obtain ⟨y0, y1, y2, y3, y4⟩ := frCells Y7.out
            have T7 := hide (there_sub (there_heap B7.out) 23 7 (by simp [mcL, Cl.cs, evL]))
            go_wp2_with (refine wpList_store_hid (by rfl) 50 (.tmp 111) (.tmp 109) (by rfl) b 23 (evL 2 rv 0) (by rfl) (by rfl) (by exact T7.out) (by kernel_rfl) (by simp [Value.oneCell', evL]) ?_)
            intro W8 e8
            have B8 := hide (show W8.heap[b]? = some (.cells (mcL cd (evL 2 rv 0)).toArray t (0, 0)) by
              rw [e8.out]
              have := set_heap (evL 2 rv 0) (mcL cd (evL 0 zFr 0)) 23 W7 B7.out
              simpa [mcL, Cl.cs, evL, setL] using this)
            have Q8 := hide (show Below b w W8 by rw [e8.out]; exact Q7.out.trans (below_setCells _ _ _ (Nat.le_refl _)))
            clear e8 T7 B7 Q7 Y7 y0 y1 y2 y3 y4
            go_wp2_with fail
            go_meet
            exact ⟨cd, 2, rv, MM, HE, B8, Q8⟩
    · rcases hbus with rfl | rfl
      · rcases Bool.eq_false_or_eq_true c.sends with hs | hs
        · have MM := hide (show M = ⟨c.fail 12, 3, zFr, 12⟩ by rw [HBE.out]; simp [Cl.behind, ht, hs])
          have F1 := hide (FA.out 12 w hB)
          rw [ht] at d21
          rw [hs] at d14
          clear FA EL EC ES CO RD HBE HRV HM HAT HLEN HT t0 t9
          go_wp2_with fail
          (with_reducible refine (F1.out).mono ?_)
          rintro e3 w3 ⟨⟨v, rfl⟩, hB3, q3⟩
          go_wp2_with fail
          refine bodyPost_ret (results_none (by rfl) _ _ _) rfl ⟨⟨_, rfl⟩, by rw [MM.out]; exact hB3, q3⟩
        · have MM := hide (show M = ⟨{ c.to 3 with hard := true }, 0, zFr, 0⟩ by rw [HBE.out]; simp [Cl.behind, Cl.ends, ht, hs])
          have F1 := hide (EL.out w hB)
          rw [ht] at d21
          rw [hs] at d14
          clear FA EL EC ES CO RD HBE HRV HM HAT HLEN HT t0 t9
          go_wp2_with fail
          (with_reducible refine (F1.out).mono ?_)
          rintro e3 w3 ⟨⟨v, rfl⟩, hB3, q3⟩
          go_wp2_with fail
          refine bodyPost_ret (results_none (by rfl) _ _ _) rfl ⟨⟨_, rfl⟩, by rw [MM.out]; exact hB3, q3⟩
      · rcases Bool.eq_false_or_eq_true c.sends with hs | hs
        · have MM := hide (show M = ⟨c.sent, 1, c.f, 0⟩ by rw [HBE.out]; simp [Cl.behind, Cl.ends, ht, hs])
          have F1 := hide (ES.out w hB hs)
          rw [ht] at d21
          rw [hs] at d14
          clear FA EL EC ES CO RD HBE HRV HM HAT HLEN HT t0 t9
          go_wp2_with fail
          (with_reducible refine (F1.out).mono ?_)
          rintro e3 w3 ⟨⟨v, rfl⟩, hB3, q3⟩
          go_wp2_with fail
          refine bodyPost_ret (results_none (by rfl) _ _ _) rfl ⟨⟨_, rfl⟩, by rw [MM.out]; exact hB3, q3⟩
        · have MM := hide (show M = ⟨c.to 6, 0, zFr, 0⟩ by rw [HBE.out]; simp [Cl.behind, Cl.ends, ht, hs])
          have F1 := hide (EC.out w hB hs)
          rw [ht] at d21
          rw [hs] at d14
          clear FA EL EC ES CO RD HBE HRV HM HAT HLEN HT t0 t9
          go_wp2_with fail
          (with_reducible refine (F1.out).mono ?_)
          rintro e3 w3 ⟨⟨v, rfl⟩, hB3, q3⟩
          go_wp2_with fail
          refine bodyPost_ret (results_none (by rfl) _ _ _) rfl ⟨⟨_, rfl⟩, by rw [MM.out]; exact hB3, q3⟩
    · rcases hbus with rfl | rfl
      · have MM := hide (show M = ⟨c.fail 12, 3, zFr, 12⟩ by rw [HBE.out]; simp [Cl.behind, k1, k9])
        have F1 := hide (FA.out 12 w hB)
        have j1 : (c.tail == 1) = false := by simpa using k1
        have j2 : (c.tail == 2) = false := by simpa using k2
        have j8 : (c.tail == 8) = false := by simpa using k8
        have j9 : (c.tail == 9) = false := by simpa using k9
        have i1 : (c.tail != 1) = true := by simpa using k1
        have i9 : (c.tail != 9) = true := by simpa using k9
        clear k1 k2 k8 k9
        clear FA EL EC ES CO RD HBE HRV HM HAT HLEN HT t0 t9
        go_wp2_with fail
        (with_reducible refine (F1.out).mono ?_)
        rintro e3 w3 ⟨⟨v, rfl⟩, hB3, q3⟩
        go_wp2_with fail
        refine bodyPost_ret (results_none (by rfl) _ _ _) rfl ⟨⟨_, rfl⟩, by rw [MM.out]; exact hB3, q3⟩
      · have MM := hide (show M = ⟨c.on, 0, zFr, 0⟩ by rw [HBE.out]; simp [Cl.behind, ev0, k1, k2, k8, k9])
        have j1 : (c.tail == 1) = false := by simpa using k1
        have j2 : (c.tail == 2) = false := by simpa using k2
        have j8 : (c.tail == 8) = false := by simpa using k8
        have j9 : (c.tail == 9) = false := by simpa using k9
        have i1 : (c.tail != 1) = true := by simpa using k1
        have i9 : (c.tail != 9) = true := by simpa using k9
        clear k1 k2 k8 k9
        clear FA EL EC ES CO RD HBE HRV HM HAT HLEN HT t0 t9
        go_wp2_with fail
        go_meet
        exact ⟨c, 0, zFr, MM, hide ⟨rfl, rfl⟩, hB, hide (Below.refl _ _)⟩
  case rest =>
  obtain ⟨c1, k, f, hM, hE, hB1, hQ1⟩ := hcut
  clear d14 d21 d22 FA EL EC ES CO RD HBE HRV hB
  obtain ⟨-, -, ⟨d14, -, d16, -, -, -, -, d21, -⟩⟩ := mc_cells hB1.out
  have b1 : 0 ≤ c1.tail := by rw [hE.out.1]; exact HT.out.1
  have b2 : c1.tail ≤ 9 := by rw [hE.out.1]; exact HT.out.2
  have b3 : 0 ≤ c1.at_ := by rw [hE.out.2]; exact HAT.out.1
  have b4 : c1.at_ ≤ 1000 := by rw [hE.out.2]; exact HAT.out.2
  have f16 := cl_froz hB1.out 16
  have f21 := cl_froz hB1.out 21
  clear t0 t9 hE HT HAT HM HLEN
  rcases Bool.eq_false_or_eq_true c1.sends with hs | hs
  · have HO := hide (show c1.on = { c1 with tail := c1.tail + 1, at_ := c1.at_ + 1 } by unfold Cl.on; rw [if_pos hs])
    rw [hs] at d14
    have H := hide (mc_set (mc_set hB1.out 21 (.int .i64 (c1.tail + 1))) 16 (.int .i64 (c1.at_ + 1)))
    have HQ := hide (below_set (below_set hQ1.out 21 (.int .i64 (c1.tail + 1))) 16 (.int .i64 (c1.at_ + 1)))
    clear hs hB1 hQ1
    go_wp2_with fail
    go_end0
    refine ⟨⟨_, rfl⟩, ?_, HQ.out⟩
    have := H.out
    rw [hM.out, HO.out]
    simpa [mcL, Cl.cs] using this
  · have HO := hide (show c1.on = { c1 with tail := c1.tail + 1 } by unfold Cl.on; rw [if_neg (by rw [hs]; decide)])
    rw [hs] at d14
    have H := hide (mc_set hB1.out 21 (.int .i64 (c1.tail + 1)))
    have HQ := hide (below_set hQ1.out 21 (.int .i64 (c1.tail + 1)))
    clear hs hB1 hQ1
    go_wp2_with fail
    go_end0
    refine ⟨⟨_, rfl⟩, ?_, HQ.out⟩
    have := H.out
    rw [hM.out, HO.out]
    simpa [mcL, Cl.cs] using this
end Go.Proofs.YthkilodnghiocaaGreatDoor
