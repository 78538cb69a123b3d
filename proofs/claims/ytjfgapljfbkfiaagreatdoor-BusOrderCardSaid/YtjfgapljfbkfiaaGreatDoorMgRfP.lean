/- The reference's Order: the walk. -/
import Derived.Test.YtjfgapljfbkfiaaGreatDoorMgRfB
import Derived.Test.YtjfgapljfbkfiaaGreatDoorOwS
import Derived.Test.YtjfgapljfbkfiaaGreatDoorMgBuOQ
import Derived.Test.YtjfgapljfbkfiaaGreatDoorMgBuP
namespace Go.Proofs.YtjfgapljfbkfiaaGreatDoor
open Go.ChangeShapes Go.WideShapes Go.ChangeAt Go.RowKit
open FP (Fr)
open OP (atF bestTo orderF)

theorem FrR.at2 {w : World} {B b off : Nat} {l : List Fr} (h : FrR w B (some ⟨b, off, none⟩) l) {k : Nat} (hk : k < l.length) :
    b < B ∧ w.cell? ⟨b, off + k * 5, none⟩ = some (.int .u32 l[k].id) ∧ w.cell? ⟨b, off + k * 5 + 1, none⟩ = some (.bool l[k].ext) ∧ w.cell? ⟨b, off + k * 5 + 2, none⟩ = some (.bool l[k].rem) ∧
      w.cell? ⟨b, off + k * 5 + 3, none⟩ = some (.int .i64 l[k].dlc) ∧ w.cell? ⟨b, off + k * 5 + 4, none⟩ = some (.string l[k].data) := by
  obtain ⟨b, off, e, hb, h⟩ := h.at_ hk
  cases e
  exact ⟨hb, h⟩
theorem FrR.all {w : World} {B b off : Nat} {l : List Fr} (h : FrR w B (some ⟨b, off, none⟩) l) (hB : B ≤ w.heap.size) {k : Nat} (hk : k < l.length) (s : InW w) :
    s.W.cell? ⟨b, off + k * 5, none⟩ = some (.int .u32 l[k].id) ∧ s.W.cell? ⟨b, off + k * 5 + 1, none⟩ = some (.bool l[k].ext) ∧ s.W.cell? ⟨b, off + k * 5 + 2, none⟩ = some (.bool l[k].rem) ∧
      s.W.cell? ⟨b, off + k * 5 + 3, none⟩ = some (.int .i64 l[k].dlc) ∧ s.W.cell? ⟨b, off + k * 5 + 4, none⟩ = some (.string l[k].data) := by
  obtain ⟨hb, c0, c1, c2, c3, c4⟩ := h.at2 hk
  have hb : b < w.heap.size := by omega
  exact ⟨s.cell hb c0, s.cell hb c1, s.cell hb c2, s.cell hb c3, s.cell hb c4⟩

theorem own_lt {W : World} {base : Nat} {e : TypeId} {sz : Nat} {A : Option Addr} {c : Nat} {R : List (List Value)} (h : Own W base e sz A c R) : ∀ g off, A = some ⟨g, off, none⟩ → g < W.heap.size := fun g off he => by
  rcases h.2 with ⟨hv, _⟩ | ⟨g', cap, cur, hv, _, hg, _⟩
  · simp only [Value.slice.injEq] at hv; rw [hv.1] at he; cases he
  · simp only [Value.slice.injEq] at hv; rw [hv.1] at he; cases he; exact heap_lt hg
/-- Frames that may be. -/
def GoodF (l : List Fr) : Prop := ∀ f ∈ l, FP.rightB f = true ∧ f.id < 4294967296
theorem GoodF.sub {l m : List Fr} (h : GoodF l) (p : m.Perm l) : GoodF m := fun f hf => h f (p.mem_iff.1 hf)
/-- Two rows lie in two blocks. -/
def Apart (A B : Option Addr) : Prop := ∀ g off g' off', A = some ⟨g, off, none⟩ → B = some ⟨g', off', none⟩ → g ≠ g'

theorem own_ge {W : World} {base : Nat} {e : TypeId} {sz : Nat} {A : Option Addr} {c : Nat} {R : List (List Value)} (h : Own W base e sz A c R) : ∀ g off, A = some ⟨g, off, none⟩ → base ≤ g := fun g off he => by
  rcases h.2 with ⟨hv, _⟩ | ⟨g', cap, cur, hv, hb, _⟩
  · simp only [Value.slice.injEq] at hv; rw [hv.1] at he; cases he
  · simp only [Value.slice.injEq] at hv; rw [hv.1] at he; cases he; exact hb
theorem own_form {W : World} {base : Nat} {e : TypeId} {sz : Nat} {A : Option Addr} {c : Nat} {R : List (List Value)} (h : Own W base e sz A c R) : A = none ∨ ∃ g, A = some ⟨g, 0, none⟩ := by
  rcases h.2 with ⟨hv, _⟩ | ⟨g', cap, cur, hv, hb, _⟩
  · simp only [Value.slice.injEq] at hv; exact .inl hv.1
  · simp only [Value.slice.injEq] at hv; exact .inr ⟨g', hv.1⟩
theorem own_apart {W W' : World} {base base' n : Nat} {e e' : TypeId} {sz sz' : Nat} {A B : Option Addr} {c c' : Nat} {R S : List (List Value)} (h : Own W base e sz A c R) (h' : Own W base' e' sz' B c' S) (ap : Apart A B) (hg : W.grownBy W' (Value.slice B n c').ownBlock) : Own W' base e sz A c R := by
  refine World.ownsRow.kept h hg ?_
  rcases own_form h with rfl | ⟨g, rfl⟩
  · exact .inl rfl
  · refine .inr ?_
    rcases own_form h' with rfl | ⟨g', rfl⟩
    · simp [Value.ownBlock]
    · have := ap g 0 g' 0 rfl rfl
      simpa [Value.ownBlock] using this

structure OrdR (l : List Fr) (w : World) (A : Option Addr) (cA : Nat) (left : List Fr) (B : Option Addr) (cB : Nat) (out : List Fr) (W : World) : Prop where
  own : Own W w.heap.size 31 5 A cA (left.map frc)
  ownB : Own W w.heap.size 31 5 B cB (out.map frc)
  apart : Apart A B
  q : Below w.heap.size w W
  eq : out ++ orderF left = orderF l
  good : GoodF left

def OrderV (l : List Fr) (w : World) (e : Ending) (w' : World) : Prop :=
  ∃ A c, e = .returned (.slice A (orderF l).length c) ∧ FrR w' w'.heap.size A (orderF l) ∧ (orderF l).length ≤ c ∧ (∀ g off, A = some ⟨g, off, none⟩ → w.heap.size ≤ g) ∧ Below w.heap.size w w'

set_option maxRecDepth 100000 in
set_option maxHeartbeats 2000000 in
theorem refOrder_any (l : List Fr) (A : Option Addr) (c : Nat) (w : World) (hr : FrR w w.heap.size A l) (hl : l.length ≤ 1000) (hg : GoodF l) :
    Calls Tryz.prog 13 #[.slice A l.length c] w (OrderV l w) := by
  have O0 := hide (Own.lit w w.heap.size 31 5 [] (Nat.le_refl _) (by simp) (by simp))
  have q0 : Below w.heap.size w (w.alloc (.cells #[] 31)) := (Below.refl _ _).alloc (Nat.le_refl _) _
  have R0 := hide (FrR.next hr q0 q0.size)
  have S1 := hide (show (([] : List (List Value)).length + (l.map frc).length) * 32 ≤ 140737488355328 by simp; omega)
  have S2 := hide (show ([] : List (List Value)).length + (l.map frc).length ≤ maxLen by simp [maxLen]; omega)
  have S3 := hide (show l.length = (l.map frc).length by simp)
  have HG := hide hg
  clear hr hg
  go_enter Tryz.func13, Tryz.ntmps13
  go_wp2_with (at_builtin; refine wpList_append_rows _ rfl _ _ 22 rfl slFrame w.heap.size _ _ _ [] rfl O0.out _ _ _ (l.map frc) rfl R0.out (frc_rows l) (frc_ones l) S1.out S2.out ?_ rfl S3.out ?_)
  · simp
  intro A4 n4 w4 o4 g4
  have q4 : Below w.heap.size w w4 := below_append q0 g4 O0.out (Nat.le_refl _) q0.size
  have RL := hide (show OrdR l w A4 n4 l (some ⟨w4.heap.size, 0, none⟩) 0 [] (w4.alloc (.cells #[] 31)) from ⟨Own.alloc (by simpa using o4) _, Own.mono (Own.lit w4 w4.heap.size 31 5 [] (Nat.le_refl _) (by simp) (by simp)) q4.size, fun g off g' off' e e' => by
      cases e'
      have := own_lt o4 g off e
      omega, q4.alloc q4.size _, rfl, HG.out⟩)
  clear o4 g4 O0 R0 S1 S2 S3 q0 q4
  go_wp2
  go_loopw [3, 4] (fun vl vo W => ∃ A cA left B cB out, vl = .slice A left.length cA ∧ vo = .slice B out.length cB ∧ left.length ≤ 1000 ∧ Hid (OrdR l w A cA left B cB out W)) (fun vl _ _ => match vl with | .slice _ n _ => n | _ => 0)
  case atStart => exact ⟨A4, n4, l, some ⟨w4.heap.size, 0, none⟩, 0, [], rfl, rfl, hl, RL⟩
  case round =>
    obtain ⟨A1, cA, left, B1, cB, out, rfl, rfl, hll, hR⟩ := hrel
    by_cases h0 : 0 < left.length
    · obtain ⟨g, rfl, hg1, hg2⟩ := hR.out.own.ofLen (by simpa using h0)
      have hle : left.length ≤ cA := by have := hR.out.own.le; simpa using this
      have ho1 : out.length ≤ 1000 := by have := congrArg List.length hR.out.eq; rw [List.length_append, OP.orderF_len, OP.orderF_len] at this; omega
      have hl0 : (0 : Int) < (left.length : Int) := by omega
      obtain ⟨wo, hwo⟩ : ∃ wo : World, wo = wr := ⟨_, rfl⟩
      have FR0 := hide (show FrR wr wr.heap.size (some ⟨g, 0, none⟩) left from hR.out.own.rd (frc_rows left))
      have HGD := hide hR.out.good
      rw [← hwo] at FR0
      have HWO := hide hwo
      go_wp2
      go_loopw [5, 18] (fun vk vj W2 => ∃ j : Nat, j ≤ left.length ∧ vj = .int .i64 j ∧ vk = .int .i64 (bestTo left j) ∧ Below wo.heap.size wo W2) (fun _ vj _ => left.length - (intOf vj).toNat)
      case atStart => exact ⟨0, Nat.zero_le _, rfl, rfl, by rw [HWO.out]; exact Below.refl _ _⟩
      case round =>
        obtain ⟨j, hj, rfl, rfl, q⟩ := hrel
        by_cases hlt : j < left.length
        · obtain ⟨b, hb⟩ : ∃ b, b = bestTo left j := ⟨_, rfl⟩
          have hbl : b < left.length := by
            rw [hb]
            rcases Nat.eq_zero_or_pos j with h | h
            · subst h; simpa [bestTo] using hlt
            · have := OP.bestTo_lt left j h; omega
          have LE := hide (fun W => refLess_any left[j] left[b] W (HGD.out _ (List.getElem_mem hlt)).1 (HGD.out _ (List.getElem_mem hbl)).1)
          have hst := show bestTo left (j + 1) = if lessB (atF left j) (atF left (bestTo left j)) = true then j else bestTo left j from rfl
          rw [← hb, OP.atF_lt hlt, OP.atF_lt hbl] at hst
          have mj := FrR.all (FR0.out.next q q.size) (Nat.le_refl _) hlt
          have mb := FrR.all (FR0.out.next q q.size) (Nat.le_refl _) hbl
          simp only [Nat.zero_add] at mj mb
          have i1 : (j : Int) < (left.length : Int) := by omega
          have i2 : (b : Int) < (left.length : Int) := by omega
          have i3 : (0 : Int) ≤ (j : Int) := by omega
          have i4 : (0 : Int) ≤ (b : Int) := by omega
          rw [← hb]
          rcases hL : lessB left[j] left[b] with _ | _
          all_goals
            rw [hL] at LE hst
            simp only [if_true, if_false, Bool.false_eq_true] at hst
            have HST := hide hst
            clear hst hL hb
            go_wp2_with fail
            refine wp_region_tame (by kernel_rfl) (by kernel_rfl) ?_
            repeat (go_big_quiet_step (first | (go_at_call 25; exact tame_of (LE.out _))))
            refine wpQuiet_nil ?_
            rintro _ ⟨s, rfl⟩
            have q5 := below_next q q.size s.h
            clear mj mb
            go_wp2
            go_roundw
            case rel => exact ⟨j + 1, by omega, by go_num, by rw [HST.out], q5⟩
            case measure => simp [intOf]; omega
        · obtain rfl : j = left.length := by omega
          obtain ⟨kb, hkb⟩ : ∃ kb, kb = bestTo left left.length := ⟨_, rfl⟩
          have hkl : kb < left.length := by rw [hkb]; exact OP.bestTo_lt left _ h0
          have HKB := hide hkb
          rw [← hkb]
          obtain ⟨_, c0, c1, c2, c3, c4⟩ := (FR0.out.next q q.size).at2 hkl
          simp only [Nat.zero_add] at c0 c1 c2 c3 c4
          have hro : OrdR l w (some ⟨g, 0, none⟩) cA left B1 cB out wo := by rw [HWO.out]; exact hR.out
          have oL := hro.own.grown q
          have oB := hro.ownB.grown q
          have qw : Below w.heap.size w wr := hro.q.trans (q.mono hro.q.size)
          have k1 : (kb : Int) < (left.length : Int) := by omega
          have k0 : (0 : Int) ≤ (kb : Int) := by omega
          have OB := hide (oB.alloc (.cells #[.int .u32 left[kb].id, .bool left[kb].ext, .bool left[kb].rem, .int .i64 left[kb].dlc, .string left[kb].data] 31))
          have OL := hide (oL.alloc (.cells #[.int .u32 left[kb].id, .bool left[kb].ext, .bool left[kb].rem, .int .i64 left[kb].dlc, .string left[kb].data] 31))
          have q1 : Below w.heap.size w (wr.alloc (.cells #[.int .u32 left[kb].id, .bool left[kb].ext, .bool left[kb].rem, .int .i64 left[kb].dlc, .string left[kb].data] 31)) := qw.alloc qw.size _
          have RX := hide (show Rd (wr.alloc (.cells #[.int .u32 left[kb].id, .bool left[kb].ext, .bool left[kb].rem, .int .i64 left[kb].dlc, .string left[kb].data] 31)) (wr.alloc (.cells #[.int .u32 left[kb].id, .bool left[kb].ext, .bool left[kb].rem, .int .i64 left[kb].dlc, .string left[kb].data] 31)).heap.size (some ⟨wr.heap.size, 0, none⟩) 5 [frc left[kb]] from by
            have := Rd.new wr [frc left[kb]] 5 31 (0, 0) (by simp [frc])
            simpa [frc] using this)
          have T1 := hide (show ((out.map frc).length + [frc left[kb]].length) * 32 ≤ 140737488355328 by simp; omega)
          have T2 := hide (show (out.map frc).length + [frc left[kb]].length ≤ maxLen by simp [maxLen]; omega)
          have T3 := hide (show out.length = (out.map frc).length by simp)
          have AP := hide hro.apart
          have EQ := hide hro.eq
          clear oL oB hro qw hkb
          go_wp2_with (at_builtin; refine wpList_append_rows _ rfl _ _ 22 rfl slFrame w.heap.size _ _ _ (out.map frc) rfl OB.out _ _ _ [frc left[kb]] rfl RX.out (by simp [frc]) (by simp [frc, Value.oneCell']) T1.out T2.out ?_ T3.out rfl ?_)
          · exact q1.size
          intro A5 n5 w5 o5 g5
          have oL5 := own_apart OL.out OB.out AP.out g5
          have q5 : Below w.heap.size w w5 := below_append q1 g5 OB.out (Nat.le_refl _) q1.size
          have OL5 := hide oL5
          have OO5 := hide o5
          clear o5 g5 oL5 c0 c1 c2 c3 c4 q1 OB OL RX T1 T2 T3
          have hto := run_to (P := Tryz.prog) 22 31 Tryz.underlying22 5 (fun W => by kernel_rfl) (some ⟨g, 0, none⟩) left.length cA kb kb rfl (by omega)
          obtain ⟨AF, eAF, hfrom⟩ := run_from (P := Tryz.prog) 22 31 Tryz.underlying22 5 (fun W => by kernel_rfl) (some ⟨g, 0, none⟩) left.length cA ((kb : Int) + 1) (kb + 1) (by omega) (by omega)
          have EAF := hide eAF
          clear eAF
          have L5 := hide (Own.lit w5 w5.heap.size 31 5 [] (Nat.le_refl _) (by simp) (by simp))
          have qa : Below w5.heap.size w5 (w5.alloc (.cells #[] 31)) := (Below.refl _ _).alloc (Nat.le_refl _) _
          have RT := hide (show Rd (w5.alloc (.cells #[] 31)) (w5.alloc (.cells #[] 31)).heap.size (some ⟨g, 0, none⟩) 5 ((left.map frc).take kb) from ((OL5.out.alloc _).rd (frc_rows left)).take kb)
          have hk5 : ((left.map frc).take kb).length = kb := by simp; omega
          have V1 := hide (show (([] : List (List Value)).length + ((left.map frc).take kb).length) * 32 ≤ 140737488355328 by rw [hk5]; simp; omega)
          have V2 := hide (show ([] : List (List Value)).length + ((left.map frc).take kb).length ≤ maxLen by rw [hk5]; simp [maxLen]; omega)
          have V3 := hide (show kb = ((left.map frc).take kb).length from hk5.symm)
          have FM := hide (show (∀ r ∈ (left.map frc).take kb, r.length = 5) ∧ (∀ r ∈ (left.map frc).take kb, ∀ u ∈ r, u.oneCell' = true) from ⟨fun r h => frc_rows left r (List.mem_of_mem_take h), fun r h => frc_ones left r (List.mem_of_mem_take h)⟩)
          clear hk5
          go_wp2_with (at_builtin; refine wpList_append_rows _ rfl _ _ 22 rfl slFrame w5.heap.size _ _ _ [] rfl L5.out _ _ _ ((left.map frc).take kb) rfl RT.out FM.out.1 FM.out.2 V1.out V2.out ?_ rfl V3.out ?_)
          · simp
          intro A6 n6 w6 o6 g6
          have q6 : Below w5.heap.size w5 w6 := below_append qa g6 L5.out (Nat.le_refl _) qa.size
          have OO6 := hide o6
          have RF := hide (show Rd w6 w6.heap.size AF 5 ((left.map frc).drop (kb + 1)) from by
            have h1 : Rd w6 w6.heap.size (some ⟨g, 0, none⟩) 5 (left.map frc) := Rd.next (OL5.out.rd (frc_rows left)) q6 q6.size
            have h2 := h1.drop (kb + 1) cA (by simpa using hle)
            rw [EAF.out]; exact h2)
          have hd5 : ((left.map frc).drop (kb + 1)).length = left.length - (kb + 1) := by simp
          have ht5 : ([] ++ (left.map frc).take kb).length = kb := by simp; omega
          have X1 := hide (show (([] ++ (left.map frc).take kb).length + ((left.map frc).drop (kb + 1)).length) * 32 ≤ 140737488355328 by rw [ht5, hd5]; omega)
          have X2 := hide (show ([] ++ (left.map frc).take kb).length + ((left.map frc).drop (kb + 1)).length ≤ maxLen by rw [ht5, hd5]; unfold maxLen; omega)
          have X3 := hide (show kb = ([] ++ (left.map frc).take kb).length by rw [ht5])
          have X4 := hide hd5.symm
          have FD := hide (show (∀ r ∈ (left.map frc).drop (kb + 1), r.length = 5) ∧ (∀ r ∈ (left.map frc).drop (kb + 1), ∀ u ∈ r, u.oneCell' = true) from ⟨fun r h => frc_rows left r (List.mem_of_mem_drop h), fun r h => frc_ones left r (List.mem_of_mem_drop h)⟩)
          clear o6 g6 RT V1 V2 V3 FM L5 hd5 ht5 hto
          go_wp2_with (at_builtin; refine wpList_append_rows _ rfl _ _ 22 rfl slFrame w5.heap.size _ _ _ ([] ++ (left.map frc).take kb) rfl OO6.out _ _ _ ((left.map frc).drop (kb + 1)) rfl RF.out FD.out.1 FD.out.2 X1.out X2.out ?_ X3.out X4.out ?_)
          · exact q6.size
          intro A7 n7 w7 o7 g7
          have q7 : Below w5.heap.size w5 w7 := below_append q6 g7 OO6.out (Nat.le_refl _) q6.size
          have NEXT := hide (show OrdR l w A7 n7 (left.take kb ++ left.drop (kb + 1)) A5 n5 (out ++ [left[kb]]) w7 from by
            refine ⟨?_, ?_, ?_, q5.trans (q7.mono q5.size), ?_, ?_⟩
            · have := Own.mono o7 q5.size
              rwa [← List.map_take, ← List.map_drop, ← List.map_append] at this
            · have := OO5.out.grown q7
              rwa [show out.map frc ++ [frc left[kb]] = (out ++ [left[kb]]).map frc by simp] at this
            · intro g1 off g2 off2 e1 e2
              have := own_ge o7 _ _ e1
              have := own_lt OO5.out _ _ e2
              omega
            · rw [← EQ.out, OP.orderF_step h0, ← HKB.out, OP.atF_lt hkl]
              simp
            · exact fun f hf => HGD.out f ((OP.rest_perm hkl).mem_iff.1 (List.mem_cons_of_mem _ hf)))
          have NL := hide (show kb + (left.length - (kb + 1)) = (left.take kb ++ left.drop (kb + 1)).length by simp; omega)
          have NO := hide (show out.length + 1 = (out ++ [left[kb]]).length by simp)
          have NB := hide (OP.rest_len hkl)
          clear o7 g7 OO5 OO6 OL5 RF FD X1 X2 X3 X4 EAF q5 q6 q7 hfrom
          go_wp2
          go_roundw
          case rel => exact ⟨A7, n7, _, A5, n5, _, by rw [NL.out], by rw [NO.out], by rw [NB.out]; omega, NEXT⟩
          case measure => have := NB.out; have := NL.out; simp; omega
    · have h1 : left = [] := by rcases left with _ | ⟨x, left⟩
                                · rfl
                                · simp at h0
      subst h1
      have E := hide (show out = orderF l by have := hR.out.eq; simpa [OP.orderF_nil] using this)
      have RO := hide (hR.out.ownB.rd (frc_rows out))
      have LO := hide (show out.length ≤ cB by have := hR.out.ownB.le; simpa using this)
      have BO := hide (own_ge hR.out.ownB)
      have QO := hR.out.q
      go_wp2
      go_ret
      exact ⟨B1, cB, by rw [← E.out]; rfl, by rw [← E.out]; exact RO.out, by rw [← E.out]; exact LO.out, BO.out, QO⟩
end Go.Proofs.YtjfgapljfbkfiaaGreatDoor

/- Rows of rows of frames, each the call's own; an append of which one knows where it lies. -/
namespace Go.Proofs.YtjfgapljfbkfiaaGreatDoor
open Go.ChangeShapes Go.WideShapes Go.ChangeAt Go.RowKit
open FP (Fr)

section
variable {P : Program} {ops : Array Oper} {rest : List Oper} {o : Oper} {a : Act} {Q : Exit → Act → World → Prop}
theorem run_append_one_lies (w : World) {t ty e : TypeId} {sz bytes : Nat} (T : SlT P t e sz bytes) (base : Nat) (A : Option Addr) (c : Nat) (cs : List (List Value)) (hown : Own w base e sz A c cs)
    (B : Option Addr) (d : Nat) (r : List Value) (hrd : Rd w w.heap.size B sz [r]) (hr : r.length = sz) (h1 : ∀ u ∈ r, u.oneCell' = true)
    (hbytes : (cs.length + 1) * bytes ≤ 140737488355328) (h63 : cs.length + 1 ≤ maxLen) (hbase : base ≤ w.heap.size) :
    ∃ A' c' w', (Builtin.append_ #[t, t] ty #[.slice A cs.length c, .slice B 1 d]).run P w = .ok (.slice A' (cs.length + 1) c') w' ∧ Own w' base e sz A' c' (cs ++ [r]) ∧ w.grownBy w' (Value.slice A cs.length c).ownBlock ∧
      (∀ g off, A' = some ⟨g, off, none⟩ → (Value.slice A cs.length c).ownBlock = some g ∨ g = w.heap.size) := by
  obtain ⟨i, z, ht, hi, hz, hsz, hby, hzs, h0⟩ := T
  obtain ⟨b, off, rfl, hblt, hc⟩ := hrd (by simp)
  have hnews : ∀ j u, r[j]? = some u → w.cell? ((⟨b, off, none⟩ : Addr).add j) = some u := fun j u hu => by
    have h3 := hc 0 r j u rfl hu
    rw [Go.WideShapes.add_plain]
    rw [show off + 0 * sz + j = off + j by omega] at h3
    exact h3
  obtain ⟨g, cap, w', hrun, h2, h3, h4, _⟩ := run_append_lies (P := P) w t ty base e i z sz bytes ht hi hz hsz hby hzs h0 (.slice A cs.length c) cs.length cs.flatten hown ⟨b, off, none⟩ 1 d r (by rw [hr]; omega) hnews h1 (by omega) h63 hbytes hbase w.heap.size rfl
  refine ⟨_, _, w', hrun, ?_, h3, fun g' off' he => ?_⟩
  · unfold Own
    rw [List.length_append, List.flatten_append]
    simpa using h2
  · cases he
    exact h4
theorem wp_append_one_lies {K : Act → World → Prop} (w : World) (s x : Operand) (t : TypeId)
    (ho : o.op = .call { callee := .builtin .append, args := #[s, x], argTypes := #[t, t] })
    {e : TypeId} {sz bytes : Nat} (T : SlT P t e sz bytes) (base : Nat) (A : Option Addr) (N c : Nat) (cs : List (List Value)) (hs : a.eval s = .slice A N c) (hown : Own w base e sz A c cs)
    (B : Option Addr) (d : Nat) (r : List Value) (hx : a.eval x = .slice B 1 d) (hrd : Rd w w.heap.size B sz [r]) (hr : r.length = sz) (h1 : ∀ u ∈ r, u.oneCell' = true)
    (hbytes : (cs.length + 1) * bytes ≤ 140737488355328) (h63 : cs.length + 1 ≤ maxLen) (hbase : base ≤ w.heap.size) (hN : N = cs.length)
    (h : ∀ A' c' w', Own w' base e sz A' c' (cs ++ [r]) → w.grownBy w' (Value.slice A N c).ownBlock → (∀ g off, A' = some ⟨g, off, none⟩ → (Value.slice A N c).ownBlock = some g ∨ g = w.heap.size) → K (a.put o.dst (.slice A' (N + 1) c')) w') : Oper.wp P o a w K Q := by
  subst hN
  obtain ⟨A', c', w', hrun, h2, h3, h4⟩ := run_append_one_lies (P := P) (ty := o.type) w T base A c cs hown B d r hrd hr h1 hbytes h63 hbase
  unfold Oper.wp execOp
  simp only [ho, resolve, invoke, builtin, Sem.run_bind, Sem.run_pure, Result.andThen_ok, List.map_toArray, List.map_cons, List.map_nil, hs, hx, hrun]
  exact h A' c' w' h2 h3 h4
end

def gotC (M : Nat) (A : Nat → Option Addr) (n c : Nat → Nat) : List Value := (List.range M).map fun j => .slice (A j) (n j) (c j)
theorem gotC_len (M : Nat) (A : Nat → Option Addr) (n c : Nat → Nat) : (gotC M A n c).length = M := by simp [gotC]
theorem gotC_at {M : Nat} {A : Nat → Option Addr} {n c : Nat → Nat} {j : Nat} (hj : j < M) : (gotC M A n c)[j]? = some (.slice (A j) (n j) (c j)) := by
  unfold gotC
  rw [List.getElem?_map, List.getElem?_range hj]
  rfl
def updF {α : Type} (f : Nat → α) (j : Nat) (v : α) : Nat → α := fun i => if i = j then v else f i
structure GotS (W : World) (base M gb : Nat) (rows : Nat → List Fr) (A : Nat → Option Addr) (c : Nat → Nat) : Prop where
  box : W.heap[gb]? = some (.cells (gotC M A (fun j => (rows j).length) c).toArray 22 (0, 0))
  own : ∀ j, j < M → Own W base 31 5 (A j) (c j) ((rows j).map frc)
  apart : ∀ i, i < M → ∀ j, j < M → i ≠ j → Apart (A i) (A j)
  lt : gb < base
  le : base ≤ W.heap.size
theorem GotS.below {W W' : World} {base M gb : Nat} {rows : Nat → List Fr} {A : Nat → Option Addr} {c : Nat → Nat} (h : GotS W base M gb rows A c) (q : Below W.heap.size W W') : GotS W' base M gb rows A c :=
  ⟨heap_below h.box q, fun j hj => (h.own j hj).grown q, h.apart, h.lt, Nat.le_trans h.le q.size⟩
theorem GotS.cell {W : World} {base M gb : Nat} {rows : Nat → List Fr} {A : Nat → Option Addr} {c : Nat → Nat} (h : GotS W base M gb rows A c) {j : Nat} (hj : j < M) : W.cell? ⟨gb, j, none⟩ = some (.slice (A j) (rows j).length (c j)) ∧ W.frozen? ⟨gb, j, none⟩ = false := by
  have hg := gotC_at (A := A) (n := fun j => (rows j).length) (c := c) hj
  refine ⟨?_, by simp [World.frozen?, h.box]⟩
  simp only [World.cell?, h.box]
  simpa using hg
theorem GotS.new {W : World} {base M : Nat} (hb : base = W.heap.size + 1) : GotS (W.alloc (.cells (Array.replicate M (.slice none 0 0)) 22)) base M W.heap.size (fun _ => []) (fun _ => none) (fun _ => 0) := by
  refine ⟨?_, fun j _ => Own.nil, fun i _ j _ _ g off g' off' h => by (cases h), by omega, by simp; omega⟩
  have e : gotC M (fun _ => none) (fun _ => ([] : List Fr).length) (fun _ => 0) = List.replicate M (.slice none 0 0) := by
    unfold gotC
    refine List.ext_getElem (by simp) fun i h1 h2 => by simp
  rw [e, List.toArray_replicate]
  exact World.alloc_heap_new W _
theorem GotS.append {W W' W2 : World} {base M gb : Nat} {rows : Nat → List Fr} {A : Nat → Option Addr} {c : Nat → Nat} (h : GotS W base M gb rows A c) {j : Nat} (hj : j < M) {f : Fr} {A' : Option Addr} {c' : Nat}
    (ho : Own W' base 31 5 A' c' ((rows j).map frc ++ [frc f])) (hg : W.grownBy W' (Value.slice (A j) (rows j).length (c j)).ownBlock) (hl : ∀ g off, A' = some ⟨g, off, none⟩ → (Value.slice (A j) (rows j).length (c j)).ownBlock = some g ∨ g = W.heap.size)
    (e2 : W2 = W'.setCell ⟨gb, j, none⟩ (.slice A' ((rows j).length + 1) c')) :
    GotS W2 base M gb (updF rows j (rows j ++ [f])) (updF A j A') (updF c j c') := by
  subst e2
  have hb := heap_grownB h.box hg (own_not (h.own j hj) h.lt)
  refine ⟨?_, fun i hi => ?_, fun i hi k hk hne => ?_, h.lt, ?_⟩
  · have := heap_setCell_same W' gb j _ _ (.slice A' ((rows j).length + 1) c') hb
    rw [this]
    congr 2
    rw [List.setIfInBounds_toArray]
    congr 1
    refine List.ext_getElem? fun i => ?_
    by_cases hiM : i < M
    · rw [gotC_at hiM, List.getElem?_set]
      by_cases hij : j = i
      · subst hij
        rw [if_pos rfl, if_pos (by rw [gotC_len]; exact hj)]
        simp [updF]
      · rw [if_neg hij, gotC_at hiM]
        simp [updF, Ne.symm hij]
    · rw [List.getElem?_eq_none (by rw [List.length_set, gotC_len]; omega), List.getElem?_eq_none (by rw [gotC_len]; omega)]
  · unfold updF
    by_cases hij : i = j
    · subst hij
      rw [if_pos rfl, if_pos rfl, if_pos rfl, List.map_append]
      exact own_setj ho h.lt _ _
    · rw [if_neg hij, if_neg hij, if_neg hij]
      exact own_setj (own_apart (h.own i hi) (h.own j hj) (h.apart i hi j hj hij) hg) h.lt _ _
  · have key : ∀ p, p < M → p ≠ j → ∀ g off g' off', A p = some ⟨g, off, none⟩ → A' = some ⟨g', off', none⟩ → g ≠ g' := fun p hp hpj g off g' off' e1 e2 => by
      rcases hl g' off' e2 with h1 | h1
      · rcases own_form (h.own j hj) with h2 | ⟨g3, h2⟩
        · rw [h2] at h1; simp [Value.ownBlock] at h1
        · rw [h2] at h1
          simp only [Value.ownBlock, Option.some.injEq] at h1
          have := h.apart p hp j hj hpj g off g3 0 e1 h2
          omega
      · have := own_lt (h.own p hp) g off e1
        omega
    unfold updF
    by_cases hij : i = j
    · rw [if_pos hij, if_neg (fun h => hne (hij.trans h.symm))]
      intro g off g' off' e1 e2 he
      exact key k hk (fun h => hne (hij.trans h.symm)) g' off' g off e2 e1 he.symm
    · rw [if_neg hij]
      by_cases hkj : k = j
      · rw [if_pos hkj]
        exact key i hi hij
      · rw [if_neg hkj]
        exact h.apart i hi k hk hne
  · have := h.le
    have := hg.size
    simp
    omega
theorem mk_got {M : Nat} (h2 : 2 ≤ M) (h4 : M ≤ 4) (W : World) : (Instr.makeSlice 42 (.int .i64 M) (.int .i64 M)).run Tryz.prog W = .ok (.slice (some ⟨W.heap.size, 0, none⟩) M M) (W.alloc (.cells (Array.replicate M (.slice none 0 0)) 22)) := by
  obtain rfl | rfl | rfl : M = 2 ∨ M = 3 ∨ M = 4 := by omega
  all_goals kernel_rfl
theorem got_cell {W : World} {gb M : Nat} {A : Nat → Option Addr} {n c : Nat → Nat} {t : TypeId} {fz : Nat × Nat} (h : W.heap[gb]? = some (.cells (gotC M A n c).toArray t fz)) {j : Nat} (hj : j < M) : W.cell? ⟨gb, j, none⟩ = some (.slice (A j) (n j) (c j)) := by
  have hg := gotC_at (A := A) (n := n) (c := c) hj
  simp only [World.cell?, h]
  simpa using hg
theorem rd_lt {w : World} {B : Nat} {A : Option Addr} {sz : Nat} {R : List (List Value)} (h : Rd w B A sz R) : R.length = 0 ∨ ∀ g off, A = some ⟨g, off, none⟩ → g < B := by
  by_cases hn : 0 < R.length
  · obtain ⟨g, off, e, hb, _⟩ := h hn
    refine .inr fun g2 off2 e2 => ?_
    rw [e] at e2
    cases e2
    exact hb
  · exact .inl (by omega)
theorem offB_lt {W : World} {B n m : Nat} {A : Option Addr} {base : Nat} {e : TypeId} {sz2 : Nat} {E : Option Addr} {c : Nat} {rows : List (List Value)} (h : m = 0 ∨ ∀ g off, A = some ⟨g, off, none⟩ → g < B) (ho : Own W base e sz2 E c rows) (hb : B ≤ base) : OffB A m (Value.slice E n c).ownBlock :=
  h.elim .inl fun h => .inr fun g off e => own_not ho (by have := h g off e; omega)
theorem hit_take (s : List Sn) {k : Nat} (hk : k < s.length) (j : Nat) : gotOf j (s.take (k + 1)) = gotOf j (s.take k) ++ (if hitB j s[k] = true then [s[k].ef] else []) := by
  rw [List.take_succ_eq_append_getElem hk, gotOf_app]
  congr 1
  unfold gotOf
  by_cases h : hitB j s[k] = true
  · rw [if_pos h]; simp [h]
  · rw [if_neg h]; simp [h]
theorem got_upd (s : List Sn) {k : Nat} (hk : k < s.length) {p : Nat} (hw : s[k].who = (p : Int)) (hkd : s[k].kind = 1 ∨ s[k].kind = 2) : (fun j => gotOf j (s.take (k + 1))) = updF (fun j => gotOf j (s.take k)) p (gotOf p (s.take k) ++ [s[k].ef]) := by
  funext j
  rw [hit_take s hk j]
  unfold updF hitB
  by_cases hj : j = p
  · subst hj
    rw [if_pos rfl, if_pos (by rw [hw]; rcases hkd with h | h <;> simp [h])]
  · rw [if_neg hj, if_neg (by rw [hw]; simp; intro h; omega), List.append_nil]
theorem got_upd2 {s : List Sn} {k : Nat} {R : Nat → List Fr} (hR : R = fun j => gotOf j (s.take k)) (hk : k < s.length) {p : Nat} (hw : s[k].who = (p : Int)) (hkd : s[k].kind = 1 ∨ s[k].kind = 2) : (fun j => gotOf j (s.take (k + 1))) = updF R p (R p ++ [s[k].ef]) := by
  rw [got_upd s hk hw hkd, hR]
theorem got_short {s : List Sn} {k : Nat} {R : Nat → List Fr} (hR : R = fun j => gotOf j (s.take k)) (hs : s.length ≤ 3000) (j : Nat) : (R j).length ≤ 3000 := by
  rw [hR]
  show (gotOf j (s.take k)).length ≤ 3000
  unfold gotOf
  rw [List.length_map]
  have := List.length_filter_le (hitB j) (s.take k)
  rw [List.length_take] at this
  omega
theorem got_same (s : List Sn) {k : Nat} (hk : k < s.length) (hkd : s[k].kind = 4) : (fun j => gotOf j (s.take (k + 1))) = fun j => gotOf j (s.take k) := by
  funext j
  rw [hit_take s hk j, if_neg (by unfold hitB; rw [hkd]; simp), List.append_nil]
theorem got_same2 {s : List Sn} {k : Nat} {R : Nat → List Fr} (hR : R = fun j => gotOf j (s.take k)) (hk : k < s.length) (hkd : s[k].kind = 4) : (fun j => gotOf j (s.take (k + 1))) = R := by
  rw [got_same s hk hkd, hR]
theorem sentOf_take (s : List Sn) {k : Nat} (hk : k < s.length) : sentOf (s.take (k + 1)) = sentOf (s.take k) + if s[k].kind = 1 then 1 else 0 := by
  rw [List.take_succ_eq_append_getElem hk, sentOf_app]
  congr 1
  unfold sentOf
  by_cases h : s[k].kind = 1
  · rw [if_pos h]; simp [h]
  · rw [if_neg h]; simp [h]
end Go.Proofs.YtjfgapljfbkfiaaGreatDoor

/- The reference's Same of two rows that are alike. -/
namespace Go.Proofs.YtjfgapljfbkfiaaGreatDoor
open Go.ChangeShapes Go.WideShapes Go.ChangeAt Go.RowKit
open FP (Fr)

set_option maxRecDepth 100000 in
set_option maxHeartbeats 1000000 in
theorem same5b (l : List Fr) (A : Option Addr) (c : Nat) (B : Option Addr) (d : Nat) (w : World) (hA : FrR w w.heap.size A l) (hB : FrR w w.heap.size B l) (hl : l.length ≤ 1000) :
    Calls Tryz.prog 15 #[.slice A l.length c, .slice B l.length d] w fun e w' => e = .returned (.bool true) ∧ Below w.heap.size w w' := by
  have HA := hide hA
  have HB := hide hB
  clear hA hB
  go_enter Tryz.func15, Tryz.ntmps15
  go_wp2
  go_loopw [13] (fun i W => ∃ k : Nat, k ≤ l.length ∧ i = .int .i64 k ∧ Below w.heap.size w W) (fun i _ => l.length - (intOf i).toNat)
  case atStart => exact ⟨0, Nat.zero_le _, rfl, Below.refl _ _⟩
  case round =>
    obtain ⟨k, hk, rfl, q⟩ := hrel
    by_cases hlt : k < l.length
    · obtain ⟨b, off, rfl, _⟩ := HA.out.at_ hlt
      obtain ⟨b', off', rfl, _⟩ := HB.out.at_ hlt
      have mA := FrR.all (FrR.next HA.out q q.size) (Nat.le_refl _) hlt
      have mB := FrR.all (FrR.next HB.out q q.size) (Nat.le_refl _) hlt
      have h1 : (k : Int) < (l.length : Int) := by omega
      have h0 : (0 : Int) ≤ (k : Int) := by omega
      go_wp2_with fail
      refine wp_region_tame (by kernel_rfl) (by kernel_rfl) ?_
      repeat (go_big_quiet_step (fail))
      refine wpQuiet_nil ?_
      rintro _ ⟨s, rfl⟩
      have qs := q.trans (s.h.mono q.size)
      clear mA mB
      go_wp2
      go_roundw
      case rel => exact ⟨k + 1, by omega, by go_num, qs⟩
      case measure => simp [intOf]; omega
    · go_wp2
      go_ret
      exact ⟨rfl, q⟩
end Go.Proofs.YtjfgapljfbkfiaaGreatDoor

/- Plain: a controller alone on a bus; and one that comes to it. -/
namespace Go.Proofs.YtjfgapljfbkfiaaGreatDoor
open Go.ChangeShapes Go.WideShapes Go.ChangeAt Go.RowKit
open FP (Fr uN uK doneB bitsF bodyF tenF RS rsStep rs0 rsOf)

def aloneP (f : Fr) : Nat := (bodyF f).length + 1
/-- Alone on a bus: behind so many errors, at a place of its round. -/
structure Aln (x : Fr) (c : Cl) (e p : Nat) : Prop where
  rc : c.rc = 0
  off : c.off = false
  rs : c.rs = 0
  has : c.has = true
  f : c.f = x
  tc : c.tc = (min (8 * e) 128 : Nat)
  st : (c.st = 1 ∧ p = 0) ∨ (c.st = 2 ∧ 1 ≤ p ∧ p ≤ aloneP x ∧ c = mid c true x p) ∨ (c.st = 3 ∧ (p : Int) = aloneP x + 1 + c.n ∧ c.was = true ∧ c.hard = (stOf c.tc c.rc c.off == 1)) ∨ (c.st = 4 ∧ p = aloneP x + 7 ∧ c.was = true) ∨
    (c.st = 5 ∧ (p : Int) = aloneP x + 7 + c.n ∧ c.was = true) ∨ (c.st = 6 ∧ (p : Int) = aloneP x + 15 + c.n ∧ c.was = true) ∨ (c.st = 7 ∧ (p : Int) = aloneP x + 18 + c.n ∧ 16 ≤ e)
/-- Where a round goes on. -/
def nextP (x : Fr) (e p : Nat) : Nat := if p = aloneP x + 25 ∨ (p = aloneP x + 17 ∧ e < 16) then 0 else p + 1

theorem aln_fail {x : Fr} {c : Cl} {e p : Nat} (h : Aln x c e p) (i : Nat) : Aln x ((mid c true x i).fail 14) (e + 1) (aloneP x + 1) := by
  obtain ⟨tc, rc, off, rs, st, n, was, hard, has, f', sends, out, at_, last, sn, got, en, tail, good⟩ := c
  obtain ⟨h1, h2, h3, h4, h5, h6, h8⟩ := h
  dsimp only at h1 h2 h3 h4 h5 h6
  subst h1 h2 h3 h4 h5
  clear h8
  by_cases hp : stOf tc 0 false = 2
  · have h128 : (min (8 * e) 128 : Nat) = 128 := by
      unfold stOf at hp
      rw [if_neg (by decide)] at hp
      split at hp
      · omega
      · cases hp
    have e1 : (mid ⟨tc, 0, false, 0, st, n, was, hard, true, f', sends, out, at_, last, sn, got, en, tail, good⟩ true f' i).failC 14 = { (mid ⟨tc, 0, false, 0, st, n, was, hard, true, f', sends, out, at_, last, sn, got, en, tail, good⟩ true f' i) with was := true } := by
      unfold Cl.failC
      rw [if_pos ⟨rfl, hp⟩]
      rfl
    unfold Cl.fail
    rw [e1]
    unfold Cl.failS
    rw [if_neg (by show ¬ stOf tc 0 false = 3; rw [hp]; decide)]
    refine ⟨rfl, rfl, rfl, rfl, rfl, ?_, .inr (.inr (.inl ⟨rfl, by show ((aloneP f' + 1 : Nat) : Int) = aloneP f' + 1 + 0; omega, rfl, rfl⟩))⟩
    show tc = _
    omega
  · have h127 : 8 * e ≤ 127 := by
      unfold stOf at hp
      rw [if_neg (by decide)] at hp
      by_cases q : 127 < tc ∨ 127 < (0 : Int)
      · rw [if_pos q] at hp; exact absurd rfl hp
      · clear hp
        have q1 : ¬ 127 < tc := fun e => q (.inl e)
        clear q
        have hmm : (min (8 * e) 128 : Nat) ≤ 127 := by omega
        omega
    have h16 : e + 1 ≤ 16 := by clear hp h6; omega
    have hmm : (min (8 * e) 128 : Nat) = 8 * e := Nat.min_eq_left (by clear hp h6; omega)
    have htc : tc = ((8 * e : Nat) : Int) := by rw [h6, hmm]
    subst htc
    have e2 : cntTc 3 ((8 * e : Nat) : Int) = ((8 * (e + 1) : Nat) : Int) := by unfold cntTc; rw [if_neg (by decide), if_pos (.inl rfl)]; omega
    have e1 : (mid ⟨((8 * e : Nat) : Int), 0, false, 0, st, n, was, hard, true, f', sends, out, at_, last, sn, got, en, tail, good⟩ true f' i).failC 14 = { (mid ⟨((8 * e : Nat) : Int), 0, false, 0, st, n, was, hard, true, f', sends, out, at_, last, sn, got, en, tail, good⟩ true f' i) with was := true, tc := ((8 * (e + 1) : Nat) : Int), rc := 0 } := by
      unfold Cl.failC
      rw [if_neg (by intro q; exact hp q.2)]
      show ({ (mid ⟨((8 * e : Nat) : Int), 0, false, 0, st, n, was, hard, true, f', sends, out, at_, last, sn, got, en, tail, good⟩ true f' i) with was := true } : Cl).count 3 = _
      unfold Cl.count
      rw [if_neg (by show ¬ 255 < cntTc 3 ((8 * e : Nat) : Int); rw [e2]; omega)]
      show ({ (mid ⟨((8 * e : Nat) : Int), 0, false, 0, st, n, was, hard, true, f', sends, out, at_, last, sn, got, en, tail, good⟩ true f' i) with was := true, tc := cntTc 3 ((8 * e : Nat) : Int), rc := cntRc 3 0 } : Cl) = _
      rw [e2]
      rfl
    unfold Cl.fail
    rw [e1]
    unfold Cl.failS
    rw [if_neg (by show ¬ stOf ((8 * (e + 1) : Nat) : Int) 0 false = 3; unfold stOf; rw [if_neg (by decide)]; split <;> decide)]
    refine ⟨rfl, rfl, rfl, rfl, rfl, ?_, .inr (.inr (.inl ⟨rfl, by show ((aloneP f' + 1 : Nat) : Int) = aloneP f' + 1 + 0; omega, rfl, rfl⟩))⟩
    show ((8 * (e + 1) : Nat) : Int) = _
    congr 1
    omega

theorem aln_st {x : Fr} {c d : Cl} {e p p' : Nat} (h : Aln x c e p) (h1 : d.rc = c.rc) (h2 : d.off = c.off) (h3 : d.rs = c.rs) (h4 : d.has = c.has) (h5 : d.f = c.f) (h6 : d.tc = c.tc)
    (hs : (d.st = 1 ∧ p' = 0) ∨ (d.st = 2 ∧ 1 ≤ p' ∧ p' ≤ aloneP x ∧ d = mid d true x p') ∨ (d.st = 3 ∧ (p' : Int) = aloneP x + 1 + d.n ∧ d.was = true ∧ d.hard = (stOf d.tc d.rc d.off == 1)) ∨ (d.st = 4 ∧ p' = aloneP x + 7 ∧ d.was = true) ∨
    (d.st = 5 ∧ (p' : Int) = aloneP x + 7 + d.n ∧ d.was = true) ∨ (d.st = 6 ∧ (p' : Int) = aloneP x + 15 + d.n ∧ d.was = true) ∨ (d.st = 7 ∧ (p' : Int) = aloneP x + 18 + d.n ∧ 16 ≤ e)) : Aln x d e p' :=
  ⟨h1.trans h.rc, h2.trans h.off, h3.trans h.rs, h4.trans h.has, h5.trans h.f, h6.trans h.tc, hs⟩
theorem aln_le {x : Fr} {c : Cl} {e p : Nat} (hk : c.Ok) (h : Aln x c e p) : p ≤ aloneP x + 25 ∧ (p = aloneP x + 17 → c.st = 6 ∨ True) := by
  have hn := hk.n9
  refine ⟨?_, fun _ => .inr trivial⟩
  rcases h.st with ⟨h1, h2⟩ | ⟨h1, h2, h3, h4⟩ | ⟨h1, h2, h3, h4⟩ | ⟨h1, h2, h3⟩ | ⟨h1, h2, h3⟩ | ⟨h1, h2, h3⟩ | ⟨h1, h2, h3⟩
  · omega
  · omega
  · rw [h1] at hn; have hn' : c.n ≤ 5 := hn; omega
  · omega
  · rw [h1] at hn; have hn' : c.n ≤ 7 := hn; omega
  · rw [h1] at hn; have hn' : c.n ≤ 2 := hn; omega
  · rw [h1] at hn; have hn' : c.n ≤ 7 := hn; omega
theorem aln_stOf {x : Fr} {c : Cl} {e p : Nat} (h : Aln x c e p) : stOf c.tc c.rc c.off = if e < 16 then 1 else 2 := by
  rw [h.rc, h.off, h.tc]
  unfold stOf
  rw [if_neg (by decide)]
  by_cases h16 : e < 16
  · rw [if_neg (by omega), if_pos h16]
  · rw [if_pos (by omega), if_neg h16]

/-- A bit more, as it drives it itself. -/
theorem aln_step {x : Fr} (hr : FP.rightB x = true) {c : Cl} {e p : Nat} (hk : c.Ok) (h : Aln x c e p) :
    (p = aloneP x ∧ (c.samp c.drv).kind = 3 ∧ (c.samp c.drv).bad = 14 ∧ Aln x (c.samp c.drv).c (e + 1) (p + 1)) ∨ (p ≠ aloneP x ∧ (c.samp c.drv).kind = 0 ∧ Aln x (c.samp c.drv).c e (nextP x e p)) := by
  have hm := FP.body_le hr
  have hge := FP.body_ge hr
  have hl := FP.body_len x
  have hn9 := hk.n9
  have hn0 := hk.n0
  have sim : ∀ d : Cl, p ≠ aloneP x → c.samp c.drv = ev0 d → Aln x d e (nextP x e p) → (p = aloneP x ∧ (c.samp c.drv).kind = 3 ∧ (c.samp c.drv).bad = 14 ∧ Aln x (c.samp c.drv).c (e + 1) (p + 1)) ∨ (p ≠ aloneP x ∧ (c.samp c.drv).kind = 0 ∧ Aln x (c.samp c.drv).c e (nextP x e p)) := fun d hp hd hb => by
    rw [hd]
    exact .inr ⟨hp, rfl, hb⟩
  have nx : p < aloneP x + 17 → nextP x e p = p + 1 := fun q => if_neg (by omega)
  rcases h.st with ⟨h1, h2⟩ | ⟨h1, h2, h3, h4⟩ | ⟨h1, h2, h3, h4⟩ | ⟨h1, h2, h3⟩ | ⟨h1, h2, h3⟩ | ⟨h1, h2, h3⟩ | ⟨h1, h2, h3⟩
  · have hd : c.drv = 48 := by unfold Cl.drv; rw [if_pos h1, if_pos h.has]
    have hP : aloneP x = (bodyF x).length + 1 := rfl
    refine sim c.begin1 (by omega) ?_ ?_
    · rw [hd]
      unfold Cl.samp
      rw [if_neg (by omega), if_pos h1, if_pos rfl, if_pos h.has]
    · rw [nx (by omega), mid_begin1, h.f, h2]
      exact aln_st h rfl rfl rfl rfl rfl rfl (.inr (.inl ⟨rfl, by omega, by omega, rfl⟩))
  · have hP : aloneP x = (bodyF x).length + 1 := rfl
    by_cases hlt : p < (bodyF x).length
    · have hb : (bitsF x)[p]? = some (bitsF x)[p] := List.getElem?_eq_getElem (by omega)
      have hd : c.drv = (bitsF x)[p] := by rw [h4, mid_drvS hb]
      refine sim (mid c true x (p + 1)) (by omega) ?_ ?_
      · rw [hd]
        conv => lhs; rw [h4]
        exact mid_step hr hlt (by rw [← FP.body_get x p hlt]; exact hb)
      · rw [nx (by omega)]
        exact aln_st h rfl rfl rfl rfl rfl rfl (.inr (.inl ⟨rfl, by omega, by omega, rfl⟩))
    · have hb : (bitsF x)[p]? = some 49 := bits_tail x (by omega) (by omega)
      have hd : c.drv = 49 := by rw [h4, mid_drvS hb]
      by_cases hi : p = (bodyF x).length
      · refine sim (mid c true x (p + 1)) (by omega) ?_ ?_
        · rw [hd]
          conv => lhs; rw [h4]
          exact mid_next (b := 49) (by omega) (by omega) (fun q => by cases q) (by rw [if_neg (by omega)]; decide)
        · rw [nx (by omega)]
          exact aln_st h rfl rfl rfl rfl rfl rfl (.inr (.inl ⟨rfl, by omega, by omega, rfl⟩))
      · have es : c.samp c.drv = ⟨(mid c true x p).fail 14, 3, zFr, 14⟩ := by
          rw [hd]
          conv => lhs; rw [h4]
          exact mid_ack (b := 49) (by omega) (by decide)
        left
        rw [es]
        have hpp : p = aloneP x := by omega
        refine ⟨hpp, rfl, rfl, ?_⟩
        rw [hpp]
        have := aln_fail h p
        rw [hpp] at this
        exact this
  · rw [h1] at hn9
    have hn9' : c.n ≤ 5 := hn9
    refine sim c.flag1 (by omega) ?_ ?_
    · unfold Cl.samp
      rw [if_neg (by omega), if_neg (by omega), if_neg (by omega), if_pos h1]
    · rw [nx (by omega)]
      unfold Cl.flag1
      split
      · exact aln_st h rfl rfl rfl rfl rfl rfl (.inr (.inr (.inr (.inl ⟨rfl, by omega, h3⟩))))
      · refine aln_st h rfl rfl rfl rfl rfl rfl (.inr (.inr (.inl ⟨h1, ?_, h3, h4⟩)))
        show ((p + 1 : Nat) : Int) = aloneP x + 1 + (c.n + 1)
        omega
  · have hd : c.drv = 49 := by unfold Cl.drv; rw [if_neg (by omega), if_neg (by omega), if_neg (by omega)]
    refine sim { c.to 5 with n := 1 } (by omega) ?_ ?_
    · rw [hd]
      unfold Cl.samp
      rw [if_neg (by omega), if_neg (by omega), if_neg (by omega), if_neg (by omega), if_pos h1, if_neg (by decide)]
    · rw [nx (by omega)]
      refine aln_st h rfl rfl rfl rfl rfl rfl (.inr (.inr (.inr (.inr (.inl ⟨rfl, ?_, h3⟩)))))
      show ((p + 1 : Nat) : Int) = aloneP x + 7 + 1
      omega
  · have hd : c.drv = 49 := by unfold Cl.drv; rw [if_neg (by omega), if_neg (by omega), if_neg (by omega)]
    rw [h1] at hn9
    have hn9' : c.n ≤ 7 := hn9
    refine sim (c.delim1 false) (by omega) ?_ ?_
    · rw [hd]
      unfold Cl.samp
      rw [if_neg (by omega), if_neg (by omega), if_neg (by omega), if_neg (by omega), if_neg (by omega), if_pos h1]
      rfl
    · rw [nx (by omega)]
      unfold Cl.delim1
      rw [if_neg (by decide)]
      split
      · refine aln_st h rfl rfl rfl rfl rfl rfl (.inr (.inr (.inr (.inr (.inr (.inl ⟨rfl, ?_, h3⟩))))))
        show ((p + 1 : Nat) : Int) = aloneP x + 15 + 0
        omega
      · refine aln_st h rfl rfl rfl rfl rfl rfl (.inr (.inr (.inr (.inr (.inl ⟨h1, ?_, h3⟩)))))
        show ((p + 1 : Nat) : Int) = aloneP x + 7 + (c.n + 1)
        omega
  · have hd : c.drv = 49 := by unfold Cl.drv; rw [if_neg (by omega), if_neg (by omega), if_neg (by omega)]
    rw [h1] at hn9
    have hn9' : c.n ≤ 2 := hn9
    refine sim c.gap1 (by omega) ?_ ?_
    · rw [hd]
      unfold Cl.samp
      rw [if_neg (by omega), if_neg (by omega), if_neg (by omega), if_neg (by omega), if_neg (by omega), if_neg (by omega), if_pos h1, if_neg (by decide)]
    · have hso := aln_stOf h
      unfold Cl.gap1
      split
      · by_cases h16 : e < 16
        · rw [if_pos h16] at hso
          rw [if_neg (by rw [hso]; exact fun q => absurd q.2 (by decide))]
          have en : nextP x e p = 0 := if_pos (by omega)
          rw [en]
          exact aln_st h rfl rfl rfl rfl rfl rfl (.inl ⟨rfl, rfl⟩)
        · rw [if_neg h16] at hso
          rw [if_pos ⟨h3, hso⟩]
          have en : nextP x e p = p + 1 := if_neg (by omega)
          rw [en]
          refine aln_st h rfl rfl rfl rfl rfl rfl (.inr (.inr (.inr (.inr (.inr (.inr ⟨rfl, ?_, by omega⟩))))))
          show ((p + 1 : Nat) : Int) = aloneP x + 18 + 0
          omega
      · rw [nx (by omega)]
        refine aln_st h rfl rfl rfl rfl rfl rfl (.inr (.inr (.inr (.inr (.inr (.inl ⟨h1, ?_, h3⟩))))))
        show ((p + 1 : Nat) : Int) = aloneP x + 15 + (c.n + 1)
        omega
  · have hd : c.drv = 49 := by unfold Cl.drv; rw [if_neg (by omega), if_neg (by omega), if_neg (by omega)]
    rw [h1] at hn9
    have hn9' : c.n ≤ 7 := hn9
    refine sim c.hold1 (by omega) ?_ ?_
    · rw [hd]
      unfold Cl.samp
      rw [if_neg (by omega), if_neg (by omega), if_neg (by omega), if_neg (by omega), if_neg (by omega), if_neg (by omega), if_neg (by omega), if_pos h1, if_neg (by decide)]
    · unfold Cl.hold1
      split
      · have en : nextP x e p = 0 := if_pos (by omega)
        rw [en]
        exact aln_st h rfl rfl rfl rfl rfl rfl (.inl ⟨rfl, rfl⟩)
      · have en : nextP x e p = p + 1 := if_neg (by omega)
        rw [en]
        refine aln_st h rfl rfl rfl rfl rfl rfl (.inr (.inr (.inr (.inr (.inr (.inr ⟨h1, ?_, h3⟩))))))
        show ((p + 1 : Nat) : Int) = aloneP x + 18 + (c.n + 1)
        omega
end Go.Proofs.YtjfgapljfbkfiaaGreatDoor

/- Plain: BusAlone: alone for 4000 bits; then one more. -/
namespace Go.Proofs.YtjfgapljfbkfiaaGreatDoor
open Go.ChangeShapes Go.WideShapes Go.ChangeAt Go.RowKit
open FP (Fr uN uK doneB bitsF bodyF tenF RS rsStep rs0 rsOf)

theorem lvl_one {c : Cl} (h : c.Ok) : lvlB [c] = c.drv := by
  unfold lvlB
  rcases ok_drv h with e | e <;> simp [e]
theorem lvl_two {c d : Cl} (h : c.Ok) (hd : d.drv = 49) : lvlB [c, d] = c.drv := by
  unfold lvlB
  rcases ok_drv h with e | e <;> simp [e, hd]
theorem lvl_low {c d : Cl} (hd : d.drv = 48) : lvlB [c, d] = 48 := by
  unfold lvlB
  simp [hd]
/-- One that waits, with a frame. -/
def waitC (x : Fr) (k : Nat) : Cl := { zCl.give x with n := k }
theorem wait_ok {x : Fr} (hr : FP.rightB x = true) {k : Nat} (hk : k ≤ 10) : (waitC x k).Ok :=
  ⟨rfl, rfl, fun _ => hr, (fun e => by cases e), (by decide : (0 : Int) ≤ 0), (by decide : (0 : Int) ≤ 8), by show (0 : Int) ≤ k; omega, by show (k : Int) ≤ 10; omega, (fun e => by cases e), fun _ => ⟨rfl, rfl, rfl, rfl, rfl, rfl, rfl, rfl, rfl⟩, (fun e => by cases e)⟩
theorem wait_step (x : Fr) {k : Nat} (hk : k ≤ 10) : (waitC x k).drv = 49 ∧ (waitC x k).samp 49 = ev0 (if k = 10 then idleC.give x else waitC x (k + 1)) := by
  refine ⟨rfl, ?_⟩
  show ev0 (waitC x k).join1 = _
  congr 1
  unfold Cl.join1
  by_cases h : k = 10
  · subst h
    rw [if_pos (by rfl), if_pos rfl]
    rfl
  · rw [if_neg (by show ¬ (k : Int) = 10; omega), if_neg h]
    rfl
/-- Behind k bits alone. -/
structure AlnR (x : Fr) (k : Nat) (l : List Cl) (s : List Sn) : Prop where
  st : (k ≤ 10 ∧ l = [waitC x k] ∧ s = []) ∨ (11 ≤ k ∧ ∃ c e p, l = [c] ∧ c.Ok ∧ Aln x c e p ∧ s.length = e ∧ (∀ y ∈ s, y.kind = 3 ∧ y.bad = 14) ∧ (p ≤ aloneP x → k ≤ 180 * e + p + 11) ∧ (aloneP x < p → k + 180 ≤ 180 * e + p + 11))
theorem aln_run {x : Fr} (hr : FP.rightB x = true) : ∀ k, AlnR x k (itB [waitC x 0] k) (snB [waitC x 0] 0 k)
  | 0 => ⟨.inl ⟨by omega, rfl, rfl⟩⟩
  | k + 1 => by
    have hm := FP.body_le hr
    have hP : aloneP x = (bodyF x).length + 1 := rfl
    rcases (aln_run hr k).st with ⟨h1, h2, h3⟩ | ⟨h1, c, e, p, h2, h3, h4, h5, h6, h7, h8⟩
    · have hl : lvlB [waitC x k] = 49 := (lvl_one (wait_ok hr h1)).trans (wait_step x h1).1
      have he : evB [waitC x k] = [ev0 (if k = 10 then idleC.give x else waitC x (k + 1))] := by
        unfold evB
        rw [hl, List.map_cons, List.map_nil, (wait_step x h1).2]
      have hs : snB [waitC x 0] 0 (k + 1) = [] := by
        rw [snB, h3, h2, he]
        rfl
      have hi : itB [waitC x 0] (k + 1) = [if k = 10 then idleC.give x else waitC x (k + 1)] := by
        rw [itB, h2]
        unfold stpB
        rw [he]
        rfl
      rw [hs, hi]
      by_cases h10 : k = 10
      · subst h10
        rw [if_pos rfl]
        refine ⟨.inr ⟨by omega, idleC.give x, 0, 0, rfl, idle_ok.give rfl hr, ⟨rfl, rfl, rfl, rfl, rfl, rfl, .inl ⟨rfl, rfl⟩⟩, rfl, (fun y hy => by cases hy), fun _ => by omega, fun q => by omega⟩⟩
      · rw [if_neg h10]
        exact ⟨.inl ⟨by omega, rfl, rfl⟩⟩
    · have hl : lvlB [c] = c.drv := lvl_one h3
      have he : evB [c] = [c.samp c.drv] := by
        unfold evB
        rw [hl]
        rfl
      have hi : itB [waitC x 0] (k + 1) = [(c.samp c.drv).c] := by
        rw [itB, h2]
        unfold stpB
        rw [he]
        rfl
      have hok : (c.samp c.drv).c.Ok := h3.samp _ (ok_drv h3)
      have hle := (aln_le h3 h4).1
      rw [hi, snB, h2, he]
      rcases aln_step hr h3 h4 with ⟨a1, a2, a3, a4⟩ | ⟨a1, a2, a3⟩
      · refine ⟨.inr ⟨by omega, _, e + 1, p + 1, rfl, hok, a4, ?_, fun y hy => ?_, fun q => by omega, fun _ => ?_⟩⟩
        · rw [List.length_append, h5]
          simp [seens, a2]
        · rw [List.mem_append] at hy
          rcases hy with hy | hy
          · exact h6 y hy
          · simp only [seens] at hy
            rw [if_neg (by rw [a2]; decide), List.mem_singleton] at hy
            rw [hy]
            exact ⟨a2, a3⟩
        · have := h7 (by omega)
          omega
      · refine ⟨.inr ⟨by omega, _, e, nextP x e p, rfl, hok, a3, ?_, fun y hy => ?_, fun q => ?_, fun q => ?_⟩⟩
        · rw [List.length_append, h5]
          simp [seens, a2]
        · rw [List.mem_append] at hy
          rcases hy with hy | hy
          · exact h6 y hy
          · simp only [seens] at hy
            rw [if_pos a2] at hy
            cases hy
        · unfold nextP at q ⊢
          split
          · have := h8 (by omega)
            omega
          · rw [if_neg (by assumption)] at q
            have := h7 (by omega)
            omega
        · unfold nextP at q ⊢
          split
          · rw [if_pos (by assumption)] at q; omega
          · rw [if_neg (by assumption)] at q
            have := h8 (by omega)
            omega
/-- Behind 4000 bits alone. -/
theorem aln_end {x : Fr} (hr : FP.rightB x = true) : ∃ c e p, itB [waitC x 0] 4000 = [c] ∧ c.Ok ∧ Aln x c e p ∧ 17 ≤ e ∧ (snB [waitC x 0] 0 4000).length = e ∧ ∀ y ∈ snB [waitC x 0] 0 4000, y.kind = 3 ∧ y.bad = 14 := by
  have hm := FP.body_le hr
  have hP : aloneP x = (bodyF x).length + 1 := rfl
  rcases (aln_run hr 4000).st with ⟨h1, _⟩ | ⟨h1, c, e, p, h2, h3, h4, h5, h6, h7, h8⟩
  · omega
  · have hle := (aln_le h3 h4).1
    refine ⟨c, e, p, h2, h3, h4, ?_, h5, h6⟩
    by_cases q : p ≤ aloneP x
    · have := h7 q; omega
    · have := h8 (by omega); omega

/-- How many recessive bits stand last behind i bits of a frame. -/
def trl (x : Fr) (i : Nat) : Nat := if (rsOf ((bodyF x).take i)).last = 49 then (rsOf ((bodyF x).take i)).n else 0
theorem rs_n5 {x : Fr} (hr : FP.rightB x = true) {i : Nat} (hi : i ≤ (bodyF x).length) : (rsOf ((bodyF x).take i)).n ≤ 5 := by
  induction i with
  | zero => rw [List.take_zero]; decide
  | succ i ih =>
    have hb : (bodyF x)[i]? = some (bodyF x)[i] := List.getElem?_eq_getElem (by omega)
    rw [take_snoc hb, FP.rsOf_snoc]
    exact (FP.uN_le (ih (by omega)) _).2
theorem trl_le {x : Fr} (hr : FP.rightB x = true) {i : Nat} (hi : i ≤ (bodyF x).length) : trl x i ≤ 5 := by
  unfold trl
  split
  · exact rs_n5 hr hi
  · omega
theorem trl_step {x : Fr} (hr : FP.rightB x = true) {i : Nat} (hi : i < (bodyF x).length) (hb : (bodyF x)[i]? = some 49) : trl x i + 1 ≤ trl x (i + 1) := by
  have F := FP.fol_body hr (j := i) (by omega)
  have he := F.err 49 hb
  unfold trl
  rw [take_snoc hb, FP.rsOf_snoc]
  generalize rsOf ((bodyF x).take i) = r at *
  obtain ⟨last, n, got⟩ := r
  dsimp only at he
  show (if last = 49 then n else 0) + 1 ≤ (if (49 : UInt8) = 49 then uN last n 49 else 0)
  rw [if_pos rfl]
  unfold uN
  unfold FP.uK at he
  by_cases h5 : n = 5
  · rw [if_pos h5] at he ⊢
    by_cases hl : last = 49
    · rw [if_pos hl.symm] at he
      exact absurd rfl he
    · rw [if_neg hl, if_neg (fun q => hl q.symm)]
      omega
  · rw [if_neg h5]
    by_cases hl : last = 49
    · rw [if_pos hl, if_pos hl.symm]
      omega
    · rw [if_neg hl, if_neg (fun q => hl q.symm)]
      omega

/-- Nothing is sent, nothing comes. -/
structure Quiet (c : Cl) : Prop where
  ok : c.Ok
  has : c.has = false
  st : c.st = 1 ∨ c.st = 6 ∨ c.st = 7
theorem quiet_step {c : Cl} (h : Quiet c) : c.drv = 49 ∧ Quiet (c.samp 49).c ∧ (c.samp 49).kind = 0 := by
  have hok := h.ok.samp 49 (.inr rfl)
  rcases h.st with h1 | h1 | h1
  · refine ⟨by unfold Cl.drv; rw [if_pos h1, if_neg (by rw [h.has]; decide)], ?_⟩
    have e : c.samp 49 = ev0 c := by
      unfold Cl.samp
      rw [if_neg (by omega), if_pos h1, if_neg (by decide)]
    rw [e]
    exact ⟨h, rfl⟩
  · refine ⟨by unfold Cl.drv; rw [if_neg (by omega), if_neg (by omega), if_neg (by omega)], ?_⟩
    have e : c.samp 49 = ev0 c.gap1 := by
      unfold Cl.samp
      rw [if_neg (by omega), if_neg (by omega), if_neg (by omega), if_neg (by omega), if_neg (by omega), if_neg (by omega), if_pos h1, if_neg (by decide)]
    rw [e] at hok ⊢
    refine ⟨⟨hok, ?_, ?_⟩, rfl⟩
    · show c.gap1.has = false
      unfold Cl.gap1
      split
      · split <;> exact h.has
      · exact h.has
    · show c.gap1.st = 1 ∨ c.gap1.st = 6 ∨ c.gap1.st = 7
      unfold Cl.gap1
      split
      · split
        · exact .inr (.inr rfl)
        · exact .inl rfl
      · exact .inr (.inl h1)
  · refine ⟨by unfold Cl.drv; rw [if_neg (by omega), if_neg (by omega), if_neg (by omega)], ?_⟩
    have e : c.samp 49 = ev0 c.hold1 := by
      unfold Cl.samp
      rw [if_neg (by omega), if_neg (by omega), if_neg (by omega), if_neg (by omega), if_neg (by omega), if_neg (by omega), if_neg (by omega), if_pos h1, if_neg (by decide)]
    rw [e] at hok ⊢
    refine ⟨⟨hok, ?_, ?_⟩, rfl⟩
    · show c.hold1.has = false
      unfold Cl.hold1
      split <;> exact h.has
    · show c.hold1.st = 1 ∨ c.hold1.st = 6 ∨ c.hold1.st = 7
      unfold Cl.hold1
      split
      · exact .inl rfl
      · exact .inr (.inr h1)

/-- One that joins. -/
def joinC (k : Nat) : Cl := { zCl with n := k }
theorem join_high {k : Nat} (hk : k ≤ 10) : (joinC k).drv = 49 ∧ (joinC k).samp 49 = ev0 (if k = 10 then idleC else joinC (k + 1)) := by
  refine ⟨rfl, ?_⟩
  show ev0 (joinC k).join1 = _
  congr 1
  unfold Cl.join1
  by_cases h : k = 10
  · subst h
    rw [if_pos (by rfl), if_pos rfl]
    rfl
  · rw [if_neg (by show ¬ (k : Int) = 10; omega), if_neg h]
    rfl
theorem join_low (k : Nat) : (joinC k).samp 48 = ev0 (joinC 0) := rfl
theorem idle_high : idleC.drv = 49 ∧ idleC.samp 49 = ev0 idleC := ⟨rfl, rfl⟩

def sentN (s : List Sn) : Nat := (s.filter fun y => y.kind == 1).length
theorem sentN_app (a b : List Sn) : sentN (a ++ b) = sentN a + sentN b := by unfold sentN; rw [List.filter_append, List.length_append]
theorem sent_two (now : Int) (a b : Mc) : sentN (seens now 0 [a, b]) = (if a.kind = 1 then 1 else 0) + (if b.kind = 1 then 1 else 0) := by
  unfold sentN
  simp only [seens]
  by_cases h1 : a.kind = 0
  · rw [if_pos h1, if_neg (show ¬ a.kind = 1 by omega)]
    by_cases h2 : b.kind = 0
    · rw [if_pos h2, if_neg (show ¬ b.kind = 1 by omega)]; rfl
    · rw [if_neg h2]
      by_cases h3 : b.kind = 1 <;> simp [h3]
  · rw [if_neg h1]
    by_cases h2 : b.kind = 0
    · rw [if_pos h2, if_neg (show ¬ b.kind = 1 by omega)]
      by_cases h3 : a.kind = 1 <;> simp [h3]
    · rw [if_neg h2]
      by_cases h3 : b.kind = 1 <;> by_cases h4 : a.kind = 1 <;> simp [h3, h4]

/-- Two on a bus: the first one with its frame, the other one new; t bits behind. -/
def Duo (x : Fr) (t sent : Nat) (l : List Cl) : Prop :=
  (∃ c k e p, l = [c, joinC k] ∧ sent = 0 ∧ c.Ok ∧ Aln x c e p ∧ 16 ≤ e ∧ k ≤ 10 ∧ (1 ≤ p → p ≤ (bodyF x).length → k ≤ trl x p) ∧ (p = (bodyF x).length + 1 → k ≤ 6) ∧ (p = 0 ∨ t ≤ p ∨ (t ≤ (bodyF x).length + 27 + p ∧ 1 ≤ p ∧ ((bodyF x).length ≤ p → p ≤ (bodyF x).length + k))) ∧ (p = 0 → t ≤ (bodyF x).length + 27)) ∨
  (∃ c e p, l = [c, idleC] ∧ sent = 0 ∧ c.Ok ∧ Aln x c e p ∧ 16 ≤ e ∧ (bodyF x).length + 1 < p ∧ t ≤ (bodyF x).length + 27 + p) ∨
  (∃ g i, l = [sndS g x i, rcvS idleC x i] ∧ sent = 0 ∧ i < (bitsF x).length ∧ t ≤ 2 * (bodyF x).length + 54 + i ∧ g.Ok ∧ g.st = 1 ∧ g.has = true ∧ g.f = x) ∨
  (∃ c d, l = [c, d] ∧ sent = 1 ∧ Quiet c ∧ Quiet d)
theorem aln_hush {x : Fr} {c : Cl} {e p : Nat} (h : Aln x c e p) (h16 : 16 ≤ e) (hp : aloneP x < p) : c.drv = 49 := by
  have hso := aln_stOf h
  rw [if_neg (by omega)] at hso
  rcases h.st with ⟨h1, h2⟩ | ⟨h1, h2, h3, h4⟩ | ⟨h1, h2, h3, h4⟩ | ⟨h1, h2, h3⟩ | ⟨h1, h2, h3⟩ | ⟨h1, h2, h3⟩ | ⟨h1, h2, h3⟩
  · omega
  · omega
  · unfold Cl.drv
    rw [if_neg (by omega), if_neg (by omega), if_pos h1, h4, hso]
    rfl
  · unfold Cl.drv; rw [if_neg (by omega), if_neg (by omega), if_neg (by omega)]
  · unfold Cl.drv; rw [if_neg (by omega), if_neg (by omega), if_neg (by omega)]
  · unfold Cl.drv; rw [if_neg (by omega), if_neg (by omega), if_neg (by omega)]
  · unfold Cl.drv; rw [if_neg (by omega), if_neg (by omega), if_neg (by omega)]
theorem aln_idle {x : Fr} {c : Cl} {e : Nat} (hk : c.Ok) (h : Aln x c e 0) : c.st = 1 := by
  have hn := hk.n0
  rcases h.st with ⟨h1, h2⟩ | ⟨h1, h2, h3, h4⟩ | ⟨h1, h2, h3, h4⟩ | ⟨h1, h2, h3⟩ | ⟨h1, h2, h3⟩ | ⟨h1, h2, h3⟩ | ⟨h1, h2, h3⟩
  · exact h1
  all_goals omega
theorem aln_frame {x : Fr} {c : Cl} {e p : Nat} (hk : c.Ok) (h : Aln x c e p) (h1 : 1 ≤ p) (h2 : p ≤ aloneP x) {b : UInt8} (hb : (bitsF x)[p]? = some b) : c.drv = b := by
  have hn := hk.n0
  rcases h.st with ⟨h1, h2⟩ | ⟨h1, h2, h3, h4⟩ | ⟨h1, h2, h3, h4⟩ | ⟨h1, h2, h3⟩ | ⟨h1, h2, h3⟩ | ⟨h1, h2, h3⟩ | ⟨h1, h2, h3⟩
  · omega
  · rw [h4, mid_drvS hb]
  all_goals omega
theorem quiet_snd {g : Cl} {x : Fr} (hr : FP.rightB x = true) (hg : g.Ok) (h1 : g.st = 1) (hh : g.has = true) (hf : g.f = x) : Quiet (sndS g x (bitsF x).length) := by
  have hl := FP.body_len x
  have e : sndS g x (bitsF x).length = (mid g true x ((bodyF x).length + 9)).sent := by unfold sndS; rw [if_neg (by omega), if_neg (by omega)]
  refine ⟨snd_ok hg hr h1 hh hf _ (Nat.le_refl _), by rw [e]; rfl, .inr (.inl ?_)⟩
  rw [e]
  unfold Cl.sent
  show (((mid g true x ((bodyF x).length + 9)).to 6).count 1).st = 6
  unfold Cl.count
  split <;> rfl
theorem quiet_rcv {x : Fr} (hr : FP.rightB x = true) : Quiet (rcvS idleC x (bitsF x).length) :=
  ⟨rcv_ok idle_ok hr rfl rfl _ (Nat.le_refl _), by rw [rcv_end]; rfl, by rw [rcv_end]; exact .inr (.inl rfl)⟩
theorem stp_two {c d : Cl} {b : UInt8} (hb : lvlB [c, d] = b) : evB [c, d] = [c.samp b, d.samp b] ∧ stpB [c, d] = [(c.samp b).c, (d.samp b).c] := by
  unfold stpB evB
  rw [hb]
  exact ⟨rfl, rfl⟩
theorem duo_step {x : Fr} (hr : FP.rightB x = true) {t sent : Nat} {l : List Cl} (h : Duo x t sent l) (now : Int) : Duo x (t + 1) (sent + sentN (seens now 0 (evB l))) (stpB l) := by
  have hm := FP.body_le hr
  have hge := FP.body_ge hr
  have hl := FP.body_len x
  have hP : aloneP x = (bodyF x).length + 1 := rfl
  rcases h with ⟨c, k, e, p, rfl, rfl, hok, ha, h16, hk, ht, h6, hw, h0⟩ | ⟨c, e, p, rfl, rfl, hok, ha, h16, hp, ht⟩ | ⟨g, i, rfl, rfl, hi, ht, hg, h1, hh, hf⟩ | ⟨c, d, rfl, rfl, hc, hd⟩
  · have hlv : lvlB [c, joinC k] = c.drv := lvl_two hok rfl
    obtain ⟨ev, st⟩ := stp_two hlv
    have hle := (aln_le hok ha).1
    rw [ev, st, sent_two]
    have hok2 : (c.samp c.drv).c.Ok := hok.samp _ (ok_drv hok)
    by_cases p0 : p = 0
    · subst p0
      have hs1 := aln_idle hok ha
      have hdv : c.drv = 48 := by unfold Cl.drv; rw [if_pos hs1, if_pos ha.has]
      rcases aln_step hr hok ha with ⟨a1, _⟩ | ⟨a1, a2, a3⟩
      · omega
      · rw [hdv] at a2 a3 hok2 ⊢
        rw [join_low, a2]
        have en : nextP x e 0 = 1 := if_neg (by omega)
        rw [en] at a3
        exact .inl ⟨_, 0, e, 1, rfl, rfl, hok2, a3, h16, by omega, fun _ _ => Nat.zero_le _, fun q => by omega, .inr (.inr ⟨by have := h0 rfl; omega, by omega, fun q => by omega⟩), fun q => by omega⟩
    · by_cases pm : p ≤ aloneP x
      · have hb : (bitsF x)[p]? = some (bitsF x)[p] := List.getElem?_eq_getElem (by omega)
        have hdv := aln_frame hok ha (by omega) pm hb
        have hbit := FP.bits_bits x _ (List.getElem_mem (l := bitsF x) (n := p) (by omega))
        have hk5 : k ≤ 6 := by
          by_cases q : p ≤ (bodyF x).length
          · have := ht (by omega) q
            have := trl_le hr q
            omega
          · exact h6 (by omega)
        have kn : k ≠ 10 := by omega
        rcases aln_step hr hok ha with ⟨a1, a2, a3, a4⟩ | ⟨a1, a2, a3⟩
        · have hb49 : c.drv = 49 := by rw [hdv]; have := bits_tail x (i := p) (by omega) (by omega); rw [hb] at this; exact Option.some.inj this
          rw [hb49] at a2 a4 hok2 ⊢
          rw [(join_high hk).2, if_neg kn, a2]
          exact .inl ⟨_, k + 1, e + 1, p + 1, rfl, rfl, hok2, a4, by omega, by omega, fun _ q => by omega, fun q => by omega, by omega, fun q => by omega⟩
        · have en : nextP x e p = p + 1 := if_neg (by omega)
          rw [en] at a3
          have hpm : p ≤ (bodyF x).length := by omega
          rcases hbit with hbit | hbit
          · rw [hbit] at hdv hb
            have hlt : p < (bodyF x).length := by
              rcases Nat.lt_or_ge p (bodyF x).length with q | q
              · exact q
              · have := bits_tail x (i := p) q (by omega)
                rw [hb] at this
                exact absurd (Option.some.inj this) (by decide)
            rw [hdv] at a2 a3 hok2 ⊢
            rw [join_low, a2]
            exact .inl ⟨_, 0, e, p + 1, rfl, rfl, hok2, a3, h16, by omega, fun _ _ => Nat.zero_le _, fun q => by omega, by omega, fun q => by omega⟩
          · rw [hbit] at hdv hb
            rw [hdv] at a2 a3 hok2 ⊢
            rw [(join_high hk).2, if_neg kn, a2]
            have ht5 := ht (by omega) hpm
            have ht6 := trl_le hr hpm
            refine .inl ⟨_, k + 1, e, p + 1, rfl, rfl, hok2, a3, h16, by omega, fun _ q => ?_, fun q => by omega, by omega, fun q => by omega⟩
            have h1 := trl_step hr (i := p) (by omega) (by rw [← FP.body_get x p (by omega)]; exact hb)
            have h2 := ht (by omega) hpm
            omega
      · have hdv := aln_hush ha h16 (by omega)
        rcases aln_step hr hok ha with ⟨a1, _⟩ | ⟨a1, a2, a3⟩
        · omega
        · rw [hdv] at a2 a3 hok2 ⊢
          rw [(join_high hk).2, a2]
          have hnx : nextP x e p = 0 ∧ p = aloneP x + 25 ∨ nextP x e p = p + 1 := by
            unfold nextP
            by_cases q : p = aloneP x + 25
            · exact .inl ⟨if_pos (.inl q), q⟩
            · exact .inr (if_neg (by omega))
          by_cases k10 : k = 10
          · rw [if_pos k10]
            rcases hnx with ⟨q1, q2⟩ | q1
            · rw [q1] at a3
              refine .inr (.inr (.inl ⟨(c.samp 49).c, 0, ?_, rfl, by omega, by omega, hok2, aln_idle hok2 a3, a3.has, a3.f⟩))
              rw [show sndS (c.samp 49).c x 0 = (c.samp 49).c from if_pos rfl, show rcvS idleC x 0 = idleC from if_pos rfl]
              rfl
            · rw [q1] at a3
              exact .inr (.inl ⟨_, e, p + 1, rfl, rfl, hok2, a3, h16, by omega, by omega⟩)
          · rw [if_neg k10]
            rcases hnx with ⟨q1, q2⟩ | q1
            · rw [q1] at a3
              exact .inl ⟨_, k + 1, e, 0, rfl, rfl, hok2, a3, h16, by omega, fun q => by omega, fun q => by omega, by omega, fun _ => by omega⟩
            · rw [q1] at a3
              exact .inl ⟨_, k + 1, e, p + 1, rfl, rfl, hok2, a3, h16, by omega, fun _ q => by omega, fun q => by omega, by omega, fun q => by omega⟩
  · have hlv : lvlB [c, idleC] = c.drv := lvl_two hok rfl
    obtain ⟨ev, st⟩ := stp_two hlv
    have hle := (aln_le hok ha).1
    have hdv := aln_hush ha h16 (by omega)
    have hok2 : (c.samp c.drv).c.Ok := hok.samp _ (ok_drv hok)
    rw [ev, st, sent_two]
    rcases aln_step hr hok ha with ⟨a1, _⟩ | ⟨a1, a2, a3⟩
    · omega
    · rw [hdv] at a2 a3 hok2 ⊢
      rw [idle_high.2, a2]
      have hnx : nextP x e p = 0 ∧ p = aloneP x + 25 ∨ nextP x e p = p + 1 := by
        unfold nextP
        by_cases q : p = aloneP x + 25
        · exact .inl ⟨if_pos (.inl q), q⟩
        · exact .inr (if_neg (by omega))
      rcases hnx with ⟨q1, q2⟩ | q1
      · rw [q1] at a3
        refine .inr (.inr (.inl ⟨(c.samp 49).c, 0, ?_, rfl, by omega, by omega, hok2, aln_idle hok2 a3, a3.has, a3.f⟩))
        rw [show sndS (c.samp 49).c x 0 = (c.samp 49).c from if_pos rfl, show rcvS idleC x 0 = idleC from if_pos rfl]
        rfl
      · rw [q1] at a3
        exact .inr (.inl ⟨_, e, p + 1, rfl, rfl, hok2, a3, h16, by omega, by omega⟩)
  · obtain ⟨b, hb, hbit⟩ := bits_some x hi
    have s1 := snd_step hr h1 hh hf hi hb
    have s2 := rcv_step (c := idleC) hr rfl rfl hi hb
    have hoks : (sndS g x i).Ok := snd_ok hg hr h1 hh hf i (by omega)
    have hlv : lvlB [sndS g x i, rcvS idleC x i] = busB x i b := by
      unfold busB
      by_cases q : i = (bodyF x).length + 1
      · rw [if_pos q]
        exact lvl_low (by rw [s2.1, if_pos q])
      · rw [if_neg q, lvl_two hoks (by rw [s2.1, if_neg q]), s1.1]
    obtain ⟨ev, st⟩ := stp_two hlv
    rw [ev, st, sent_two, s1.2, s2.2]
    have k2 : ¬ (if i = (bodyF x).length + 8 then (2 : Int) else 0) = 1 := by split <;> decide
    show Duo x (t + 1) (0 + ((if (if i + 1 = (bitsF x).length then (1 : Int) else 0) = 1 then 1 else 0) + (if (if i = (bodyF x).length + 8 then (2 : Int) else 0) = 1 then 1 else 0))) [sndS g x (i + 1), rcvS idleC x (i + 1)]
    rw [if_neg k2]
    by_cases hn : i + 1 = (bitsF x).length
    · rw [if_pos hn, if_pos rfl]
      refine .inr (.inr (.inr ⟨_, _, rfl, rfl, ?_, ?_⟩))
      · rw [hn]; exact quiet_snd hr hg h1 hh hf
      · rw [hn]; exact quiet_rcv hr
    · rw [if_neg hn, if_neg (by decide)]
      exact .inr (.inr (.inl ⟨g, i + 1, rfl, rfl, by omega, by omega, hg, h1, hh, hf⟩))
  · obtain ⟨c1, c2, c3⟩ := quiet_step hc
    obtain ⟨d1, d2, d3⟩ := quiet_step hd
    have hlv : lvlB [c, d] = 49 := by rw [lvl_two hc.ok d1, c1]
    obtain ⟨ev, st⟩ := stp_two hlv
    rw [ev, st, sent_two, c3, d3]
    exact .inr (.inr (.inr ⟨_, _, rfl, rfl, c2, d2⟩))
theorem duo_zero {x : Fr} {c : Cl} {e p : Nat} (hok : c.Ok) (ha : Aln x c e p) (h16 : 16 ≤ e) : Duo x 0 0 [c, zCl] :=
  .inl ⟨c, 0, e, p, rfl, rfl, hok, ha, h16, by omega, fun _ _ => Nat.zero_le _, fun _ => by omega, .inr (.inl (by omega)), fun _ => by omega⟩
theorem duo_run {x : Fr} (hr : FP.rightB x = true) {c : Cl} {e p : Nat} (hok : c.Ok) (ha : Aln x c e p) (h16 : 16 ≤ e) (now : Int) : ∀ k, Duo x k (sentN (snB [c, zCl] now k)) (itB [c, zCl] k)
  | 0 => duo_zero hok ha h16
  | k + 1 => by
    have := duo_step hr (duo_run hr hok ha h16 now k) (now + k)
    rw [snB, sentN_app]
    exact this
/-- Behind 600 bits it is sent once. -/
theorem duo_end {x : Fr} (hr : FP.rightB x = true) {c : Cl} {e p : Nat} (hok : c.Ok) (ha : Aln x c e p) (h16 : 16 ≤ e) (now : Int) : sentN (snB [c, zCl] now 600) = 1 ∧ ∃ a b, itB [c, zCl] 600 = [a, b] ∧ a.has = false := by
  have hm := FP.body_le hr
  have hl := FP.body_len x
  have hP : aloneP x = (bodyF x).length + 1 := rfl
  rcases duo_run hr hok ha h16 now 600 with ⟨d, k, e', p', h1, h2, h3, h4, h5, h6, h7, h8, h9, h10⟩ | ⟨d, e', p', h1, h2, h3, h4, h5, h6, h7⟩ | ⟨g, i, h1, h2, h3, h4, _⟩ | ⟨a, b, h1, h2, h3, h4⟩
  · have := (aln_le h3 h4).1
    omega
  · have := (aln_le h3 h4).1
    omega
  · omega
  · exact ⟨h2, a, b, h1, h3.has⟩
end Go.Proofs.YtjfgapljfbkfiaaGreatDoor
