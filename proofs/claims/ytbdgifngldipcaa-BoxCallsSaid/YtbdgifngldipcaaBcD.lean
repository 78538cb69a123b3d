/- The reference's Sorted of boxes. -/
import Derived.Test.YtbdgifngldipcaaBcB
import Derived.Test.YtbdgifngldipcaaBxS
import Derived.Test.YtbdgifngldipcaaHpU
import Derived.Deep.CutBlock
namespace Go.Proofs.Ytbdgifngldipcaa
open Go.ChangeShapes Go.WideShapes Go.ChangeAt Go.RowKit
open FP (Fr)

def posB (out : List Bx) (x : Bx) : Nat := (out.takeWhile fun y => aheadB y x).length
def insB (out : List Bx) (x : Bx) : List Bx := out.take (posB out x) ++ x :: out.drop (posB out x)
def sortB (l : List Bx) : List Bx := l.foldl insB []
theorem insB_perm (out : List Bx) (x : Bx) : (insB out x).Perm (x :: out) := by
  unfold insB
  have h := List.perm_middle (a := x) (l₁ := out.take (posB out x)) (l₂ := out.drop (posB out x))
  rwa [List.take_append_drop] at h
theorem insB_len (out : List Bx) (x : Bx) : (insB out x).length = out.length + 1 := (insB_perm out x).length_eq
theorem posB_le (out : List Bx) (x : Bx) : posB out x ≤ out.length := (List.takeWhile_sublist _).length_le
theorem foldB_perm : ∀ (l acc : List Bx), (l.foldl insB acc).Perm (l ++ acc)
  | [], acc => List.Perm.refl _
  | x :: l, acc => (foldB_perm l (insB acc x)).trans (((List.Perm.refl l).append (insB_perm acc x)).trans List.perm_middle)
theorem sortB_perm (l : List Bx) : (sortB l).Perm l := by have := foldB_perm l []; rwa [List.append_nil] at this
theorem sortB_len (l : List Bx) : (sortB l).length = l.length := (sortB_perm l).length_eq
theorem sortB_succ {l : List Bx} {k : Nat} (h : k < l.length) : sortB (l.take (k + 1)) = insB (sortB (l.take k)) l[k] := by
  unfold sortB
  rw [List.take_succ_eq_append_getElem h, List.foldl_append]
  rfl
theorem posB_eq {out : List Bx} {x : Bx} {j : Nat} (hj : j ≤ out.length) (hp : ∀ p (h : p < out.length), p < j → aheadB out[p] x = true) (he : j = out.length ∨ ∃ h : j < out.length, aheadB out[j] x = false) : posB out x = j := by
  unfold posB
  induction out generalizing j with
  | nil => simp at hj; simp [hj]
  | cons y out ih =>
    rcases j with _ | j
    · rcases he with he | ⟨h, he⟩
      · simp at he
      · rw [List.takeWhile_cons_of_neg (by simpa using he)]; rfl
    · have h0 := hp 0 (by simp) (by omega)
      rw [List.takeWhile_cons_of_pos (by simpa using h0), List.length_cons, ih (by simpa using hj) (fun p h hpj => by have := hp (p + 1) (by simpa using h) (by omega); rwa [List.getElem_cons_succ] at this) (by
        rcases he with he | ⟨h, he⟩
        · left; simpa using he
        · right; exact ⟨by simpa using h, by simpa using he⟩)]

theorem bx_cells7 {W : World} {B : Nat} {x : Bx} {t : TypeId} {fz : Nat × Nat} (h : W.heap[B]? = some (.cells #[.int .i64 x.h, .int .u32 x.f.id, .bool x.f.ext, .bool x.f.rem, .int .i64 x.f.dlc, .string x.f.data, .int .i64 x.s] t fz)) :
    W.cell? ⟨B, 0, none⟩ = some (.int .i64 x.h) ∧ W.cell? ⟨B, 1, none⟩ = some (.int .u32 x.f.id) ∧ W.cell? ⟨B, 2, none⟩ = some (.bool x.f.ext) ∧ W.cell? ⟨B, 3, none⟩ = some (.bool x.f.rem) ∧ W.cell? ⟨B, 4, none⟩ = some (.int .i64 x.f.dlc) ∧ W.cell? ⟨B, 5, none⟩ = some (.string x.f.data) ∧ W.cell? ⟨B, 6, none⟩ = some (.int .i64 x.s) := by
  refine ⟨?_, ?_, ?_, ?_, ?_, ?_, ?_⟩ <;> simp [World.cell?, h]

def RowB1 (l : List Bx) (w : World) (e : Ending) (w' : World) : Prop :=
  ∃ A c, e = .returned (.slice A l.length c) ∧ BxR w' w'.heap.size A l ∧ l.length ≤ c ∧ Below w.heap.size w w'

set_option maxRecDepth 100000 in
set_option maxHeartbeats 4000000 in
theorem sorted9_any (l : List Bx) (A : Option Addr) (c : Nat) (w : World) (hr : BxR w w.heap.size A l) (hl : l.length ≤ 100) (hg : ∀ x ∈ l, FP.rightB x.f = true) :
    Calls Try.prog 48 #[.slice A l.length c] w (RowB1 (sortB l) w) := by
  have HR := hide hr
  have HG := hide hg
  have q0 : Below w.heap.size w (w.alloc (.cells #[] 70)) := (Below.refl _ _).alloc (Nat.le_refl _) _
  clear hr hg
  go_enter Try.func48, Try.ntmps48
  go_wp2
  go_loopw [11, 3] (fun i vo W => ∃ (k : Nat) (out : List Bx) (A' : Option Addr) (c' : Nat), k ≤ l.length ∧ i = .int .i64 k ∧ vo = .slice A' k c' ∧ Hid (out = sortB (l.take k)) ∧ Hid (out.length = k) ∧ Hid (BxR W W.heap.size A' out) ∧ k ≤ c' ∧ Below w.heap.size w W) (fun i _ _ => l.length - (intOf i).toNat)
  case atStart => exact ⟨0, [], _, 0, Nat.zero_le _, rfl, rfl, hide rfl, hide rfl, hide Rd.nil, Nat.le_refl _, q0⟩
  case round =>
    rename World => wa
    clear q0
    obtain ⟨k, out, A', c', hk, rfl, rfl, hE, hL, hO, hkc, q⟩ := hrel
    have zb : w.heap.size ≤ wa.heap.size := q.size
    by_cases hlt : k < l.length
    · obtain ⟨b, off, rfl, hbs, d0, d1, d2, d3, d4, d5, d6⟩ := (BxR.next HR.out q q.size).at_ hlt
      have SN := hide (sortB_succ hlt)
      have gx := HG.out l[k] (List.getElem_mem hlt)
      have GX := hide gx
      clear gx
      generalize l[k] = x at *
      have hi1 : (k : Int) < (l.length : Int) := by omega
      go_upto_block 2 with fail
      have qa : Below wa.heap.size wa (wa.alloc (.cells #[.int .i64 x.h, .int .u32 x.f.id, .bool x.f.ext, .bool x.f.rem, .int .i64 x.f.dlc, .string x.f.data, .int .i64 x.s] 70)) := (Below.refl _ _).alloc (Nat.le_refl _) _
      have G5 := hide (World.alloc_heap_new wa (.cells #[.int .i64 x.h, .int .u32 x.f.id, .bool x.f.ext, .bool x.f.rem, .int .i64 x.f.dlc, .string x.f.data, .int .i64 x.s] 70))
      have OA := hide (BxR.next hO.out qa qa.size)
      have QA := below_next q q.size qa
      have GO : Hid (∀ y ∈ out, FP.rightB y.f = true) := hide (fun y hy => by
        rw [hE.out] at hy
        exact HG.out y (List.mem_of_mem_take ((sortB_perm _).mem_iff.1 hy)))
      have hk100 : k ≤ 100 := by omega
      clear hO d0 d1 d2 d3 d4 d5 d6 qa q zb
      generalize wa.alloc (.cells #[.int .i64 x.h, .int .u32 x.f.id, .bool x.f.ext, .bool x.f.rem, .int .i64 x.f.dlc, .string x.f.data, .int .i64 x.s] 70) = wb at *
      go_cut [6] from 12 to 45 (fun vj W => ∃ j : Nat, j ≤ k ∧ vj = .int .i64 j ∧ Hid (posB out x = j) ∧ Below wb.heap.size wb W)
      case first =>
        go_wp2_with fail
        go_loopw [6] (fun vj W => ∃ j : Nat, j ≤ k ∧ vj = .int .i64 j ∧ Hid (∀ p (h : p < out.length), p < j → aheadB out[p] x = true) ∧ Below wb.heap.size wb W) (fun vj _ => k - (intOf vj).toNat)
        case atStart => exact ⟨0, Nat.zero_le _, rfl, hide (fun _ _ h => absurd h (by omega)), Below.refl _ _⟩
        case round =>
          rename World => wc
          obtain ⟨j, hj, rfl, hP, qc⟩ := hrel
          have mx := fun s : InW wc => bxBox_s (heap_below G5.out qc) s
          by_cases hjk : j < k
          · have hjo : j < out.length := by rw [hL.out]; exact hjk
            have hji : (j : Int) < (k : Int) := by omega
            have RO := hide (BxR.next OA.out qc qc.size)
            obtain ⟨b2, off2, rfl, _⟩ := RO.out.at_ hjo
            have my := BxR.all RO.out (Nat.le_refl _) hjo
            have AH := hide (fun s : InW wc => ahead9_any out[j] x s.W (GO.out _ (List.getElem_mem hjo)) GX.out)
            rcases hB : aheadB out[j] x with _ | _
            · rw [hB] at AH
              have HPOS := hide (posB_eq (x := x) (Nat.le_of_lt hjo) hP.out (.inr ⟨hjo, hB⟩))
              clear hB RO
              go_wp2_with fail
              refine wp_region_tame (by kernel_rfl) (by kernel_rfl) ?_
              repeat (go_big_quiet_step (first | (go_at_call 74; exact tame_of (AH.out _))))
              refine wpQuiet_nil ?_
              rintro _ ⟨s, rfl⟩
              have qs := qc.trans (s.h.mono qc.size)
              clear my mx
              go_wp2_with fail
              go_meet
              exact ⟨j, hj, rfl, HPOS, qs⟩
            · rw [hB] at AH
              have HN := hide (show ∀ p (h : p < out.length), p < j + 1 → aheadB out[p] x = true from fun p hp hpj => by
                by_cases e : p = j
                · subst e; exact hB
                · exact hP.out p hp (by omega))
              clear hB RO
              go_wp2_with fail
              refine wp_region_tame (by kernel_rfl) (by kernel_rfl) ?_
              repeat (go_big_quiet_step (first | (go_at_call 74; exact tame_of (AH.out _))))
              refine wpQuiet_nil ?_
              rintro _ ⟨s, rfl⟩
              have qs := qc.trans (s.h.mono qc.size)
              clear my mx
              go_wp2_with fail
              go_roundw
              case rel => exact ⟨j + 1, by omega, by go_num, HN, qs⟩
              case measure => simp [intOf]; omega
          · obtain rfl : j = k := by omega
            have HPOS := hide (posB_eq (x := x) (Nat.le_of_eq hL.out.symm) hP.out (.inl hL.out.symm))
            have hd : decide ((j : Int) < (j : Int)) = false := by simp
            clear mx
            go_wp2_with fail
            refine wp_region_tame (by kernel_rfl) (by kernel_rfl) ?_
            repeat (go_big_quiet_step (fail))
            refine wpQuiet_nil ?_
            rintro _ ⟨s, rfl⟩
            have qs := qc.trans (s.h.mono qc.size)
            go_wp2_with fail
            go_meet
            exact ⟨j, Nat.le_refl _, rfl, HPOS, qs⟩
      case rest =>
        rename World => wc
        obtain ⟨j, hj, rfl, hPOS, qj⟩ := hcut
        obtain ⟨p, hp⟩ : ∃ p, p = out.take j := ⟨_, rfl⟩
        obtain ⟨r, hrr⟩ : ∃ r, r = out.drop j := ⟨_, rfl⟩
        have hpl : p.length = j := by rw [hp, List.length_take, hL.out]; omega
        have hrl : r.length = k - j := by rw [hrr, List.length_drop, hL.out]
        have hto := run_to (P := Try.prog) 63 70 Try.underlying63 7 (fun W => by kernel_rfl) A' k c' j j rfl (by omega)
        obtain ⟨A2, hA2, hfrom⟩ := run_from (P := Try.prog) 63 70 Try.underlying63 7 (fun W => by kernel_rfl) A' k c' j j rfl hj
        have QC := below_next QA QA.size qj
        have ROW := hide (BxR.next OA.out qj qj.size)
        have RP := hide (fun W (qq : Below wc.heap.size wc W) => show Rd W W.heap.size A' 7 (p.map bxc) by have := (BxR.next ROW.out qq qq.size).take j; rw [hp]; exact this)
        have RR := hide (fun W (qq : Below wc.heap.size wc W) => show Rd W W.heap.size A2 7 (r.map bxc) by
          have := Rd.drop (BxR.next ROW.out qq qq.size) j c' (by rw [List.length_map, hL.out]; exact hkc)
          rw [← List.map_drop, ← hrr] at this
          rw [hA2]
          exact this)
        have G6 := hide (heap_below G5.out qj)
        have HP := hide hp
        have HRR := hide hrr
        have E1 := hide (show (([] : List (List Value)).length + (p.map bxc).length) * 48 ≤ 140737488355328 by simp; omega)
        have E2 := hide (show ([] : List (List Value)).length + (p.map bxc).length ≤ maxLen by simp [maxLen]; omega)
        have E3 := hide (show j = (p.map bxc).length by rw [List.length_map, hpl])
        have F1 := hide (show ((p.map bxc).length + [([.int .i64 x.h, .int .u32 x.f.id, .bool x.f.ext, .bool x.f.rem, .int .i64 x.f.dlc, .string x.f.data, .int .i64 x.s] : List Value)].length) * 48 ≤ 140737488355328 by simp; omega)
        have F2 := hide (show (p.map bxc).length + [([.int .i64 x.h, .int .u32 x.f.id, .bool x.f.ext, .bool x.f.rem, .int .i64 x.f.dlc, .string x.f.data, .int .i64 x.s] : List Value)].length ≤ maxLen by simp [maxLen]; omega)
        have G1 := hide (show ((p.map bxc ++ [bxc x]).length + (r.map bxc).length) * 48 ≤ 140737488355328 by simp; omega)
        have G2 := hide (show (p.map bxc ++ [bxc x]).length + (r.map bxc).length ≤ maxLen by simp [maxLen]; omega)
        have G3 := hide (show j + 1 = (p.map bxc ++ [bxc x]).length by simp; omega)
        have G4 := hide (show k - j = (r.map bxc).length by rw [List.length_map, hrl])
        have HLN := hide (show j + 1 + (k - j) = k + 1 by omega)
        have HEQ := hide (show p.map bxc ++ [bxc x] ++ r.map bxc = (insB out x).map bxc by unfold insB; rw [hPOS.out, HP.out, HRR.out, List.map_append, List.append_assoc]; rfl)
        clear hp hrr hpl hrl hA2 OA G5 QA
        have qe : Below wc.heap.size wc (wc.alloc (.cells #[] 70)) := (Below.refl _ _).alloc (Nat.le_refl _) _
        have O5 := hide (Own.lit wc wc.heap.size 70 7 [] (Nat.le_refl _) (by simp) (by simp))
        have RP5 := hide (RP.out _ qe)
        have Q5 := below_next QC QC.size qe
        have G7 := hide (heap_below G6.out qe)
        have z5 : wc.heap.size ≤ (wc.alloc (.cells #[] 70)).heap.size := qe.size
        go_wp2_with (at_builtin; refine wpList_append_rows _ rfl _ _ 63 rfl slBox wc.heap.size _ _ _ [] (by rfl) (by exact O5.out) _ _ _ (p.map bxc) (by rfl) (by exact RP5.out) (by exact bxc_rows _) (by exact bxc_ones _) (by exact E1.out) (by exact E2.out) (by exact z5) (by rfl) (by exact E3.out) ?_)
        intro A6 c6 W6 o6 g6
        have q6 := below_append qe g6 O5.out (Nat.le_refl _) qe.size
        have zab : wa.heap.size < wc.heap.size := heap_lt G6.out
        have G8 := hide (heapB G7.out (below_own g6 O5.out z5) zab)
        have z6 : wc.heap.size ≤ W6.heap.size := q6.size
        have O6 := hide (o6.alloc (.cells #[.int .i64 x.h, .int .u32 x.f.id, .bool x.f.ext, .bool x.f.rem, .int .i64 x.f.dlc, .string x.f.data, .int .i64 x.s] 70))
        have R6 := hide (fun t => rd_row (cs := [.int .i64 x.h, .int .u32 x.f.id, .bool x.f.ext, .bool x.f.rem, .int .i64 x.f.dlc, .string x.f.data, .int .i64 x.s]) (World.alloc_heap_new W6 (.cells #[.int .i64 x.h, .int .u32 x.f.id, .bool x.f.ext, .bool x.f.rem, .int .i64 x.f.dlc, .string x.f.data, .int .i64 x.s] t)))
        have zab6 : wa.heap.size < W6.heap.size := by omega
        obtain ⟨y0, y1, y2, y3, y4, y5, y6⟩ := bx_cells7 G8.out
        clear o6 g6 O5 RP5 G7 G6
        go_wp2_with (at_builtin; refine wpList_append_rows _ rfl _ _ 63 rfl slBox wc.heap.size _ _ _ (p.map bxc) (by rfl) (by exact O6.out) _ _ _ [[.int .i64 x.h, .int .u32 x.f.id, .bool x.f.ext, .bool x.f.rem, .int .i64 x.f.dlc, .string x.f.data, .int .i64 x.s]] (by rfl) (by simpa using R6.out _) (by simp) (by simp [Value.oneCell']) (by exact F1.out) (by exact F2.out) (by simp; omega) (by first | exact E3.out | (simp; exact E3.out)) (by rfl) ?_)
        intro A7 c7 W7 o7 g7
        have q7 := below_append (q6.alloc q6.size (.cells #[.int .i64 x.h, .int .u32 x.f.id, .bool x.f.ext, .bool x.f.rem, .int .i64 x.f.dlc, .string x.f.data, .int .i64 x.s] 70)) g7 O6.out (Nat.le_refl _) (by have := q6.size; simp; omega)
        have RR7 := hide (RR.out W7 q7)
        have O7 := hide o7
        have z7 : wc.heap.size ≤ W7.heap.size := q7.size
        clear o7 g7 O6 R6 y0 y1 y2 y3 y4 y5 y6 G8
        go_wp2_with (at_builtin; refine wpList_append_rows _ rfl _ _ 63 rfl slBox wc.heap.size _ _ _ (p.map bxc ++ [bxc x]) (by rfl) (by exact O7.out) _ _ _ (r.map bxc) (by rfl) (by exact RR7.out) (by exact bxc_rows _) (by exact bxc_ones _) (by exact G1.out) (by exact G2.out) (by exact z7) (by first | exact G3.out | (simp; exact G3.out)) (by exact G4.out) ?_)
        intro A8 c8 W8 o8 g8
        have q8 := below_append q7 g8 O7.out (Nat.le_refl _) q7.size
        have FIN : Hid (Own W8 wc.heap.size 70 7 A8 c8 ((insB out x).map bxc)) := hide (by rw [← HEQ.out]; simp only [List.append_assoc, List.singleton_append]; exact o8)
        have Q8 := below_next QC QC.size q8
        have hle : k + 1 ≤ c8 := by have := FIN.out.le; rw [List.length_map, insB_len, hL.out] at this; exact this
        clear o8 g8 O7 RR7
        rw [HLN.out]
        go_wp2_with fail
        refine ⟨⟨k + 1, insB out x, A8, c8, by omega, by go_num, rfl, hide (by rw [SN.out, hE.out]), hide (by rw [insB_len, hL.out]), hide (FIN.out.rd (bxc_rows _)), hle, Q8⟩, ?_⟩
        simp [intOf]; omega
    · have hkl : k = l.length := by omega
      have e : l.take k = l := by rw [hkl, List.take_length]
      have H := hE.out
      rw [e] at H
      have F := hide H
      clear H hE e
      go_wp2
      go_ret
      exact ⟨A', c', by rw [← F.out, hL.out]; rfl, by rw [← F.out]; exact hO.out, by rw [← F.out, hL.out]; exact hkc, q⟩
end Go.Proofs.Ytbdgifngldipcaa
