/- The reference's Order: the walk. -/
import Derived.Test.YtkfedgjepiljiaaDoorMgBxL
import Derived.Test.YtkfedgjepiljiaaDoorOwS
import Derived.Test.YtkfedgjepiljiaaDoorMgBxG
namespace Go.Proofs.YtkfedgjepiljiaaDoor
open Go.ChangeShapes Go.WideShapes Go.ChangeAt Go.RowKit
open FP (Fr)
open OP (atF bestTo orderF)

theorem FrR.at2 {w : World} {B b off : Nat} {l : List Fr} (h : FrR w B (some ⟨b, off, none⟩) l) {k : Nat} (hk : k < l.length) :
    b < B ∧ w.cell? ⟨b, off + k * 5, none⟩ = some (.int .u32 l[k].id) ∧ w.cell? ⟨b, off + k * 5 + 1, none⟩ = some (.bool l[k].ext) ∧ w.cell? ⟨b, off + k * 5 + 2, none⟩ = some (.bool l[k].rem) ∧
      w.cell? ⟨b, off + k * 5 + 3, none⟩ = some (.int .i64 l[k].dlc) ∧ w.cell? ⟨b, off + k * 5 + 4, none⟩ = some (.string l[k].data) := by
  obtain ⟨b, off, e, hb, h⟩ := h.at_ hk
  cases e
  exact ⟨hb, h⟩
theorem FrR.all {w : World} {B b off : Nat} {l : List Fr} (h : FrR w B (some ⟨b, off, none⟩) l) (hB : B ≤ w.heap.size) {k : Nat} (hk : k < l.length) (s : InW w) :
    s.W.cell? ⟨b, off + k * 5, none⟩ = some (.int .u32 l[k].id) ∧ s.W.cell? ⟨b, off + k * 5 + 1, none⟩ = some (.bool l[k].ext) ∧ s.W.cell? ⟨b, off + k * 5 + 2, none⟩ = some (.bool l[k].rem) ∧
      s.W.cell? ⟨b, off + k * 5 + 3, none⟩ = some (.int .i64 l[k].dlc) ∧ s.W.cell? ⟨b, off + k * 5 + 4, none⟩ = some (.string l[k].data) := by
  obtain ⟨hb, c0, c1, c2, c3, c4⟩ := h.at2 hk
  have hb : b < w.heap.size := by omega
  exact ⟨s.cell hb c0, s.cell hb c1, s.cell hb c2, s.cell hb c3, s.cell hb c4⟩

theorem own_lt {W : World} {base : Nat} {e : TypeId} {sz : Nat} {A : Option Addr} {c : Nat} {R : List (List Value)} (h : Own W base e sz A c R) : ∀ g off, A = some ⟨g, off, none⟩ → g < W.heap.size := fun g off he => by
  rcases h.2 with ⟨hv, _⟩ | ⟨g', cap, cur, hv, _, hg, _⟩
  · simp only [Value.slice.injEq] at hv; rw [hv.1] at he; cases he
  · simp only [Value.slice.injEq] at hv; rw [hv.1] at he; cases he; exact heap_lt hg
/-- Frames that may be. -/
def GoodF (l : List Fr) : Prop := ∀ f ∈ l, FP.rightB f = true ∧ f.id < 4294967296
theorem GoodF.sub {l m : List Fr} (h : GoodF l) (p : m.Perm l) : GoodF m := fun f hf => h f (p.mem_iff.1 hf)
/-- Two rows lie in two blocks. -/
def Apart (A B : Option Addr) : Prop := ∀ g off g' off', A = some ⟨g, off, none⟩ → B = some ⟨g', off', none⟩ → g ≠ g'

theorem own_ge {W : World} {base : Nat} {e : TypeId} {sz : Nat} {A : Option Addr} {c : Nat} {R : List (List Value)} (h : Own W base e sz A c R) : ∀ g off, A = some ⟨g, off, none⟩ → base ≤ g := fun g off he => by
  rcases h.2 with ⟨hv, _⟩ | ⟨g', cap, cur, hv, hb, _⟩
  · simp only [Value.slice.injEq] at hv; rw [hv.1] at he; cases he
  · simp only [Value.slice.injEq] at hv; rw [hv.1] at he; cases he; exact hb
theorem own_form {W : World} {base : Nat} {e : TypeId} {sz : Nat} {A : Option Addr} {c : Nat} {R : List (List Value)} (h : Own W base e sz A c R) : A = none ∨ ∃ g, A = some ⟨g, 0, none⟩ := by
  rcases h.2 with ⟨hv, _⟩ | ⟨g', cap, cur, hv, hb, _⟩
  · simp only [Value.slice.injEq] at hv; exact .inl hv.1
  · simp only [Value.slice.injEq] at hv; exact .inr ⟨g', hv.1⟩
theorem own_apart {W W' : World} {base base' n : Nat} {e e' : TypeId} {sz sz' : Nat} {A B : Option Addr} {c c' : Nat} {R S : List (List Value)} (h : Own W base e sz A c R) (h' : Own W base' e' sz' B c' S) (ap : Apart A B) (hg : W.grownBy W' (Value.slice B n c').ownBlock) : Own W' base e sz A c R := by
  refine World.ownsRow.kept h hg ?_
  rcases own_form h with rfl | ⟨g, rfl⟩
  · exact .inl rfl
  · refine .inr ?_
    rcases own_form h' with rfl | ⟨g', rfl⟩
    · simp [Value.ownBlock]
    · have := ap g 0 g' 0 rfl rfl
      simpa [Value.ownBlock] using this

structure OrdR (l : List Fr) (w : World) (A : Option Addr) (cA : Nat) (left : List Fr) (B : Option Addr) (cB : Nat) (out : List Fr) (W : World) : Prop where
  own : Own W w.heap.size 24 5 A cA (left.map frc)
  ownB : Own W w.heap.size 24 5 B cB (out.map frc)
  apart : Apart A B
  q : Below w.heap.size w W
  eq : out ++ orderF left = orderF l
  good : GoodF left

def OrderV (l : List Fr) (w : World) (e : Ending) (w' : World) : Prop :=
  ∃ A c, e = .returned (.slice A (orderF l).length c) ∧ FrR w' w'.heap.size A (orderF l) ∧ (orderF l).length ≤ c ∧ (∀ g off, A = some ⟨g, off, none⟩ → w.heap.size ≤ g) ∧ Below w.heap.size w w'

set_option maxRecDepth 100000 in
set_option maxHeartbeats 2000000 in
theorem refOrder_any (l : List Fr) (A : Option Addr) (c : Nat) (w : World) (hr : FrR w w.heap.size A l) (hl : l.length ≤ 1000) (hg : GoodF l) :
    Calls Tryd.prog 13 #[.slice A l.length c] w (OrderV l w) := by
  have O0 := hide (Own.lit w w.heap.size 24 5 [] (Nat.le_refl _) (by simp) (by simp))
  have q0 : Below w.heap.size w (w.alloc (.cells #[] 24)) := (Below.refl _ _).alloc (Nat.le_refl _) _
  have R0 := hide (FrR.next hr q0 q0.size)
  have S1 := hide (show (([] : List (List Value)).length + (l.map frc).length) * 32 ≤ 140737488355328 by simp; omega)
  have S2 := hide (show ([] : List (List Value)).length + (l.map frc).length ≤ maxLen by simp [maxLen]; omega)
  have S3 := hide (show l.length = (l.map frc).length by simp)
  have HG := hide hg
  clear hr hg
  go_enter Tryd.func13, Tryd.ntmps13
  go_wp2_with (at_builtin; refine wpList_append_rows _ rfl _ _ 48 rfl slFrame w.heap.size _ _ _ [] rfl O0.out _ _ _ (l.map frc) rfl R0.out (frc_rows l) (frc_ones l) S1.out S2.out ?_ rfl S3.out ?_)
  · simp
  intro A4 n4 w4 o4 g4
  have q4 : Below w.heap.size w w4 := below_append q0 g4 O0.out (Nat.le_refl _) q0.size
  have RL := hide (show OrdR l w A4 n4 l (some ⟨w4.heap.size, 0, none⟩) 0 [] (w4.alloc (.cells #[] 24)) from ⟨Own.alloc (by simpa using o4) _, Own.mono (Own.lit w4 w4.heap.size 24 5 [] (Nat.le_refl _) (by simp) (by simp)) q4.size, fun g off g' off' e e' => by
      cases e'
      have := own_lt o4 g off e
      omega, q4.alloc q4.size _, rfl, HG.out⟩)
  clear o4 g4 O0 R0 S1 S2 S3 q0 q4
  go_wp2
  go_loopw [3, 4] (fun vl vo W => ∃ A cA left B cB out, vl = .slice A left.length cA ∧ vo = .slice B out.length cB ∧ left.length ≤ 1000 ∧ Hid (OrdR l w A cA left B cB out W)) (fun vl _ _ => match vl with | .slice _ n _ => n | _ => 0)
  case atStart => exact ⟨A4, n4, l, some ⟨w4.heap.size, 0, none⟩, 0, [], rfl, rfl, hl, RL⟩
  case round =>
    obtain ⟨A1, cA, left, B1, cB, out, rfl, rfl, hll, hR⟩ := hrel
    by_cases h0 : 0 < left.length
    · obtain ⟨g, rfl, hg1, hg2⟩ := hR.out.own.ofLen (by simpa using h0)
      have hle : left.length ≤ cA := by have := hR.out.own.le; simpa using this
      have ho1 : out.length ≤ 1000 := by have := congrArg List.length hR.out.eq; rw [List.length_append, OP.orderF_len, OP.orderF_len] at this; omega
      have hl0 : (0 : Int) < (left.length : Int) := by omega
      obtain ⟨wo, hwo⟩ : ∃ wo : World, wo = wr := ⟨_, rfl⟩
      have FR0 := hide (show FrR wr wr.heap.size (some ⟨g, 0, none⟩) left from hR.out.own.rd (frc_rows left))
      have HGD := hide hR.out.good
      rw [← hwo] at FR0
      have HWO := hide hwo
      go_wp2
      go_loopw [5, 18] (fun vk vj W2 => ∃ j : Nat, j ≤ left.length ∧ vj = .int .i64 j ∧ vk = .int .i64 (bestTo left j) ∧ Below wo.heap.size wo W2) (fun _ vj _ => left.length - (intOf vj).toNat)
      case atStart => exact ⟨0, Nat.zero_le _, rfl, rfl, by rw [HWO.out]; exact Below.refl _ _⟩
      case round =>
        obtain ⟨j, hj, rfl, rfl, q⟩ := hrel
        by_cases hlt : j < left.length
        · obtain ⟨b, hb⟩ : ∃ b, b = bestTo left j := ⟨_, rfl⟩
          have hbl : b < left.length := by
            rw [hb]
            rcases Nat.eq_zero_or_pos j with h | h
            · subst h; simpa [bestTo] using hlt
            · have := OP.bestTo_lt left j h; omega
          have LE := hide (fun W => refLess_any left[j] left[b] W (HGD.out _ (List.getElem_mem hlt)).1 (HGD.out _ (List.getElem_mem hbl)).1)
          have hst := show bestTo left (j + 1) = if lessB (atF left j) (atF left (bestTo left j)) = true then j else bestTo left j from rfl
          rw [← hb, OP.atF_lt hlt, OP.atF_lt hbl] at hst
          have mj := FrR.all (FR0.out.next q q.size) (Nat.le_refl _) hlt
          have mb := FrR.all (FR0.out.next q q.size) (Nat.le_refl _) hbl
          simp only [Nat.zero_add] at mj mb
          have i1 : (j : Int) < (left.length : Int) := by omega
          have i2 : (b : Int) < (left.length : Int) := by omega
          have i3 : (0 : Int) ≤ (j : Int) := by omega
          have i4 : (0 : Int) ≤ (b : Int) := by omega
          rw [← hb]
          rcases hL : lessB left[j] left[b] with _ | _
          all_goals
            rw [hL] at LE hst
            simp only [if_true, if_false, Bool.false_eq_true] at hst
            have HST := hide hst
            clear hst hL hb
            go_wp2_with fail
            refine wp_region_tame (by kernel_rfl) (by kernel_rfl) ?_
            repeat (go_big_quiet_step (first | (go_at_call 26; exact tame_of (LE.out _))))
            refine wpQuiet_nil ?_
            rintro _ ⟨s, rfl⟩
            have q5 := below_next q q.size s.h
            clear mj mb
            go_wp2
            go_roundw
            case rel => exact ⟨j + 1, by omega, by go_num, by rw [HST.out], q5⟩
            case measure => simp [intOf]; omega
        · obtain rfl : j = left.length := by omega
          obtain ⟨kb, hkb⟩ : ∃ kb, kb = bestTo left left.length := ⟨_, rfl⟩
          have hkl : kb < left.length := by rw [hkb]; exact OP.bestTo_lt left _ h0
          have HKB := hide hkb
          rw [← hkb]
          obtain ⟨_, c0, c1, c2, c3, c4⟩ := (FR0.out.next q q.size).at2 hkl
          simp only [Nat.zero_add] at c0 c1 c2 c3 c4
          have hro : OrdR l w (some ⟨g, 0, none⟩) cA left B1 cB out wo := by rw [HWO.out]; exact hR.out
          have oL := hro.own.grown q
          have oB := hro.ownB.grown q
          have qw : Below w.heap.size w wr := hro.q.trans (q.mono hro.q.size)
          have k1 : (kb : Int) < (left.length : Int) := by omega
          have k0 : (0 : Int) ≤ (kb : Int) := by omega
          have OB := hide (oB.alloc (.cells #[.int .u32 left[kb].id, .bool left[kb].ext, .bool left[kb].rem, .int .i64 left[kb].dlc, .string left[kb].data] 24))
          have OL := hide (oL.alloc (.cells #[.int .u32 left[kb].id, .bool left[kb].ext, .bool left[kb].rem, .int .i64 left[kb].dlc, .string left[kb].data] 24))
          have q1 : Below w.heap.size w (wr.alloc (.cells #[.int .u32 left[kb].id, .bool left[kb].ext, .bool left[kb].rem, .int .i64 left[kb].dlc, .string left[kb].data] 24)) := qw.alloc qw.size _
          have RX := hide (show Rd (wr.alloc (.cells #[.int .u32 left[kb].id, .bool left[kb].ext, .bool left[kb].rem, .int .i64 left[kb].dlc, .string left[kb].data] 24)) (wr.alloc (.cells #[.int .u32 left[kb].id, .bool left[kb].ext, .bool left[kb].rem, .int .i64 left[kb].dlc, .string left[kb].data] 24)).heap.size (some ⟨wr.heap.size, 0, none⟩) 5 [frc left[kb]] from by
            have := Rd.new wr [frc left[kb]] 5 24 (0, 0) (by simp [frc])
            simpa [frc] using this)
          have T1 := hide (show ((out.map frc).length + [frc left[kb]].length) * 32 ≤ 140737488355328 by simp; omega)
          have T2 := hide (show (out.map frc).length + [frc left[kb]].length ≤ maxLen by simp [maxLen]; omega)
          have T3 := hide (show out.length = (out.map frc).length by simp)
          have AP := hide hro.apart
          have EQ := hide hro.eq
          clear oL oB hro qw hkb
          go_wp2_with (at_builtin; refine wpList_append_rows _ rfl _ _ 48 rfl slFrame w.heap.size _ _ _ (out.map frc) rfl OB.out _ _ _ [frc left[kb]] rfl RX.out (by simp [frc]) (by simp [frc, Value.oneCell']) T1.out T2.out ?_ T3.out rfl ?_)
          · exact q1.size
          intro A5 n5 w5 o5 g5
          have oL5 := own_apart OL.out OB.out AP.out g5
          have q5 : Below w.heap.size w w5 := below_append q1 g5 OB.out (Nat.le_refl _) q1.size
          have OL5 := hide oL5
          have OO5 := hide o5
          clear o5 g5 oL5 c0 c1 c2 c3 c4 q1 OB OL RX T1 T2 T3
          have hto := run_to (P := Tryd.prog) 48 24 Tryd.underlying48 5 (fun W => by kernel_rfl) (some ⟨g, 0, none⟩) left.length cA kb kb rfl (by omega)
          obtain ⟨AF, eAF, hfrom⟩ := run_from (P := Tryd.prog) 48 24 Tryd.underlying48 5 (fun W => by kernel_rfl) (some ⟨g, 0, none⟩) left.length cA ((kb : Int) + 1) (kb + 1) (by omega) (by omega)
          have EAF := hide eAF
          clear eAF
          have L5 := hide (Own.lit w5 w5.heap.size 24 5 [] (Nat.le_refl _) (by simp) (by simp))
          have qa : Below w5.heap.size w5 (w5.alloc (.cells #[] 24)) := (Below.refl _ _).alloc (Nat.le_refl _) _
          have RT := hide (show Rd (w5.alloc (.cells #[] 24)) (w5.alloc (.cells #[] 24)).heap.size (some ⟨g, 0, none⟩) 5 ((left.map frc).take kb) from ((OL5.out.alloc _).rd (frc_rows left)).take kb)
          have hk5 : ((left.map frc).take kb).length = kb := by simp; omega
          have V1 := hide (show (([] : List (List Value)).length + ((left.map frc).take kb).length) * 32 ≤ 140737488355328 by rw [hk5]; simp; omega)
          have V2 := hide (show ([] : List (List Value)).length + ((left.map frc).take kb).length ≤ maxLen by rw [hk5]; simp [maxLen]; omega)
          have V3 := hide (show kb = ((left.map frc).take kb).length from hk5.symm)
          have FM := hide (show (∀ r ∈ (left.map frc).take kb, r.length = 5) ∧ (∀ r ∈ (left.map frc).take kb, ∀ u ∈ r, u.oneCell' = true) from ⟨fun r h => frc_rows left r (List.mem_of_mem_take h), fun r h => frc_ones left r (List.mem_of_mem_take h)⟩)
          clear hk5
          go_wp2_with (at_builtin; refine wpList_append_rows _ rfl _ _ 48 rfl slFrame w5.heap.size _ _ _ [] rfl L5.out _ _ _ ((left.map frc).take kb) rfl RT.out FM.out.1 FM.out.2 V1.out V2.out ?_ rfl V3.out ?_)
          · simp
          intro A6 n6 w6 o6 g6
          have q6 : Below w5.heap.size w5 w6 := below_append qa g6 L5.out (Nat.le_refl _) qa.size
          have OO6 := hide o6
          have RF := hide (show Rd w6 w6.heap.size AF 5 ((left.map frc).drop (kb + 1)) from by
            have h1 : Rd w6 w6.heap.size (some ⟨g, 0, none⟩) 5 (left.map frc) := Rd.next (OL5.out.rd (frc_rows left)) q6 q6.size
            have h2 := h1.drop (kb + 1) cA (by simpa using hle)
            rw [EAF.out]; exact h2)
          have hd5 : ((left.map frc).drop (kb + 1)).length = left.length - (kb + 1) := by simp
          have ht5 : ([] ++ (left.map frc).take kb).length = kb := by simp; omega
          have X1 := hide (show (([] ++ (left.map frc).take kb).length + ((left.map frc).drop (kb + 1)).length) * 32 ≤ 140737488355328 by rw [ht5, hd5]; omega)
          have X2 := hide (show ([] ++ (left.map frc).take kb).length + ((left.map frc).drop (kb + 1)).length ≤ maxLen by rw [ht5, hd5]; unfold maxLen; omega)
          have X3 := hide (show kb = ([] ++ (left.map frc).take kb).length by rw [ht5])
          have X4 := hide hd5.symm
          have FD := hide (show (∀ r ∈ (left.map frc).drop (kb + 1), r.length = 5) ∧ (∀ r ∈ (left.map frc).drop (kb + 1), ∀ u ∈ r, u.oneCell' = true) from ⟨fun r h => frc_rows left r (List.mem_of_mem_drop h), fun r h => frc_ones left r (List.mem_of_mem_drop h)⟩)
          clear o6 g6 RT V1 V2 V3 FM L5 hd5 ht5 hto
          go_wp2_with (at_builtin; refine wpList_append_rows _ rfl _ _ 48 rfl slFrame w5.heap.size _ _ _ ([] ++ (left.map frc).take kb) rfl OO6.out _ _ _ ((left.map frc).drop (kb + 1)) rfl RF.out FD.out.1 FD.out.2 X1.out X2.out ?_ X3.out X4.out ?_)
          · exact q6.size
          intro A7 n7 w7 o7 g7
          have q7 : Below w5.heap.size w5 w7 := below_append q6 g7 OO6.out (Nat.le_refl _) q6.size
          have NEXT := hide (show OrdR l w A7 n7 (left.take kb ++ left.drop (kb + 1)) A5 n5 (out ++ [left[kb]]) w7 from by
            refine ⟨?_, ?_, ?_, q5.trans (q7.mono q5.size), ?_, ?_⟩
            · have := Own.mono o7 q5.size
              rwa [← List.map_take, ← List.map_drop, ← List.map_append] at this
            · have := OO5.out.grown q7
              rwa [show out.map frc ++ [frc left[kb]] = (out ++ [left[kb]]).map frc by simp] at this
            · intro g1 off g2 off2 e1 e2
              have := own_ge o7 _ _ e1
              have := own_lt OO5.out _ _ e2
              omega
            · rw [← EQ.out, OP.orderF_step h0, ← HKB.out, OP.atF_lt hkl]
              simp
            · exact fun f hf => HGD.out f ((OP.rest_perm hkl).mem_iff.1 (List.mem_cons_of_mem _ hf)))
          have NL := hide (show kb + (left.length - (kb + 1)) = (left.take kb ++ left.drop (kb + 1)).length by simp; omega)
          have NO := hide (show out.length + 1 = (out ++ [left[kb]]).length by simp)
          have NB := hide (OP.rest_len hkl)
          clear o7 g7 OO5 OO6 OL5 RF FD X1 X2 X3 X4 EAF q5 q6 q7 hfrom
          go_wp2
          go_roundw
          case rel => exact ⟨A7, n7, _, A5, n5, _, by rw [NL.out], by rw [NO.out], by rw [NB.out]; omega, NEXT⟩
          case measure => have := NB.out; have := NL.out; simp; omega
    · have h1 : left = [] := by rcases left with _ | ⟨x, left⟩
                                · rfl
                                · simp at h0
      subst h1
      have E := hide (show out = orderF l by have := hR.out.eq; simpa [OP.orderF_nil] using this)
      have RO := hide (hR.out.ownB.rd (frc_rows out))
      have LO := hide (show out.length ≤ cB by have := hR.out.ownB.le; simpa using this)
      have BO := hide (own_ge hR.out.ownB)
      have QO := hR.out.q
      go_wp2
      go_ret
      exact ⟨B1, cB, by rw [← E.out]; rfl, by rw [← E.out]; exact RO.out, by rw [← E.out]; exact LO.out, BO.out, QO⟩
end Go.Proofs.YtkfedgjepiljiaaDoor

/- alive of the box statements. -/
namespace Go.Proofs.YtkfedgjepiljiaaDoor
open Go.ChangeShapes Go.WideShapes Go.ChangeAt Go.RowKit
open FP (Fr)
open HP (kB at' Hp)

def aF : Fr := ⟨5, false, false, 0, ⟨#[]⟩⟩
def aB : Bx := ⟨7, aF, 0⟩
theorem bxNew_ok (n : Int) (h : 1 ≤ n ∧ n ≤ 8) (w : World) : Calls Tryd.prog 15 #[.int .i64 n] w fun e w' => e = .returned (.tuple #[.agg #[.slice none 0 0, .int .i64 0, .int .i64 n], .int .i64 0]) ∧ Below w.heap.size w w' := by
  have := bxNew_any n w
  rwa [if_pos h] at this

end Go.Proofs.YtkfedgjepiljiaaDoor
