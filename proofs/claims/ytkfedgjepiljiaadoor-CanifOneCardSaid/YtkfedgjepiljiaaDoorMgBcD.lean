/- The reference's Sorted of boxes. -/
import Derived.Test.YtkfedgjepiljiaaDoorMgRes
import Derived.Deep.CutBlock
import Derived.Test.YtkfedgjepiljiaaDoorMgBxL
import Derived.Test.YtkfedgjepiljiaaDoorBxA
import Derived.Test.YtkfedgjepiljiaaDoorOrdL
namespace Go.Proofs.YtkfedgjepiljiaaDoor
open Go.ChangeShapes Go.WideShapes Go.ChangeAt Go.RowKit
open FP (Fr)

def posB (out : List Bx) (x : Bx) : Nat := (out.takeWhile fun y => aheadB y x).length
def insB (out : List Bx) (x : Bx) : List Bx := out.take (posB out x) ++ x :: out.drop (posB out x)
def sortB (l : List Bx) : List Bx := l.foldl insB []
theorem insB_perm (out : List Bx) (x : Bx) : (insB out x).Perm (x :: out) := by
  unfold insB
  have h := List.perm_middle (a := x) (l₁ := out.take (posB out x)) (l₂ := out.drop (posB out x))
  rwa [List.take_append_drop] at h
theorem insB_len (out : List Bx) (x : Bx) : (insB out x).length = out.length + 1 := (insB_perm out x).length_eq
theorem posB_le (out : List Bx) (x : Bx) : posB out x ≤ out.length := (List.takeWhile_sublist _).length_le
theorem foldB_perm : ∀ (l acc : List Bx), (l.foldl insB acc).Perm (l ++ acc)
  | [], acc => List.Perm.refl _
  | x :: l, acc => (foldB_perm l (insB acc x)).trans (((List.Perm.refl l).append (insB_perm acc x)).trans List.perm_middle)
theorem sortB_perm (l : List Bx) : (sortB l).Perm l := by have := foldB_perm l []; rwa [List.append_nil] at this
theorem sortB_len (l : List Bx) : (sortB l).length = l.length := (sortB_perm l).length_eq
theorem sortB_succ {l : List Bx} {k : Nat} (h : k < l.length) : sortB (l.take (k + 1)) = insB (sortB (l.take k)) l[k] := by
  unfold sortB
  rw [List.take_succ_eq_append_getElem h, List.foldl_append]
  rfl
theorem posB_eq {out : List Bx} {x : Bx} {j : Nat} (hj : j ≤ out.length) (hp : ∀ p (h : p < out.length), p < j → aheadB out[p] x = true) (he : j = out.length ∨ ∃ h : j < out.length, aheadB out[j] x = false) : posB out x = j := by
  unfold posB
  induction out generalizing j with
  | nil => simp at hj; simp [hj]
  | cons y out ih =>
    rcases j with _ | j
    · rcases he with he | ⟨h, he⟩
      · simp at he
      · rw [List.takeWhile_cons_of_neg (by simpa using he)]; rfl
    · have h0 := hp 0 (by simp) (by omega)
      rw [List.takeWhile_cons_of_pos (by simpa using h0), List.length_cons, ih (by simpa using hj) (fun p h hpj => by have := hp (p + 1) (by simpa using h) (by omega); rwa [List.getElem_cons_succ] at this) (by
        rcases he with he | ⟨h, he⟩
        · left; simpa using he
        · right; exact ⟨by simpa using h, by simpa using he⟩)]

theorem bx_cells7 {W : World} {B : Nat} {x : Bx} {t : TypeId} {fz : Nat × Nat} (h : W.heap[B]? = some (.cells #[.int .i64 x.h, .int .u32 x.f.id, .bool x.f.ext, .bool x.f.rem, .int .i64 x.f.dlc, .string x.f.data, .int .i64 x.s] t fz)) :
    W.cell? ⟨B, 0, none⟩ = some (.int .i64 x.h) ∧ W.cell? ⟨B, 1, none⟩ = some (.int .u32 x.f.id) ∧ W.cell? ⟨B, 2, none⟩ = some (.bool x.f.ext) ∧ W.cell? ⟨B, 3, none⟩ = some (.bool x.f.rem) ∧ W.cell? ⟨B, 4, none⟩ = some (.int .i64 x.f.dlc) ∧ W.cell? ⟨B, 5, none⟩ = some (.string x.f.data) ∧ W.cell? ⟨B, 6, none⟩ = some (.int .i64 x.s) := by
  refine ⟨?_, ?_, ?_, ?_, ?_, ?_, ?_⟩ <;> simp [World.cell?, h]

def RowB1 (l : List Bx) (w : World) (e : Ending) (w' : World) : Prop :=
  ∃ A c, e = .returned (.slice A l.length c) ∧ BxR w' w'.heap.size A l ∧ l.length ≤ c ∧ Below w.heap.size w w'

set_option maxRecDepth 100000 in
set_option maxHeartbeats 4000000 in
theorem sorted9_any (l : List Bx) (A : Option Addr) (c : Nat) (w : World) (hr : BxR w w.heap.size A l) (hl : l.length ≤ 100) (hg : ∀ x ∈ l, FP.rightB x.f = true) :
    Calls Tryd.prog 25 #[.slice A l.length c] w (RowB1 (sortB l) w) := by
  have HR := hide hr
  have HG := hide hg
  have q0 : Below w.heap.size w (w.alloc (.cells #[] 60)) := (Below.refl _ _).alloc (Nat.le_refl _) _
  clear hr hg
  go_enter Tryd.func25, Tryd.ntmps25
  go_wp2
  go_loopw [11, 3] (fun i vo W => ∃ (k : Nat) (out : List Bx) (A' : Option Addr) (c' : Nat), k ≤ l.length ∧ i = .int .i64 k ∧ vo = .slice A' k c' ∧ Hid (out = sortB (l.take k)) ∧ Hid (out.length = k) ∧ Hid (BxR W W.heap.size A' out) ∧ k ≤ c' ∧ Below w.heap.size w W) (fun i _ _ => l.length - (intOf i).toNat)
  case atStart => exact ⟨0, [], _, 0, Nat.zero_le _, rfl, rfl, hide rfl, hide rfl, hide Rd.nil, Nat.le_refl _, q0⟩
  case round =>
    rename World => wa
    clear q0
    obtain ⟨k, out, A', c', hk, rfl, rfl, hE, hL, hO, hkc, q⟩ := hrel
    have zb : w.heap.size ≤ wa.heap.size := q.size
    by_cases hlt : k < l.length
    · obtain ⟨b, off, rfl, hbs, d0, d1, d2, d3, d4, d5, d6⟩ := (BxR.next HR.out q q.size).at_ hlt
      have SN := hide (sortB_succ hlt)
      have gx := HG.out l[k] (List.getElem_mem hlt)
      have GX := hide gx
      clear gx
      generalize l[k] = x at *
      have hi1 : (k : Int) < (l.length : Int) := by omega
      go_upto_block 2 with fail
      have qa : Below wa.heap.size wa (wa.alloc (.cells #[.int .i64 x.h, .int .u32 x.f.id, .bool x.f.ext, .bool x.f.rem, .int .i64 x.f.dlc, .string x.f.data, .int .i64 x.s] 60)) := (Below.refl _ _).alloc (Nat.le_refl _) _
      have G5 := hide (World.alloc_heap_new wa (.cells #[.int .i64 x.h, .int .u32 x.f.id, .bool x.f.ext, .bool x.f.rem, .int .i64 x.f.dlc, .string x.f.data, .int .i64 x.s] 60))
      have OA := hide (BxR.next hO.out qa qa.size)
      have QA := below_next q q.size qa
      have GO : Hid (∀ y ∈ out, FP.rightB y.f = true) := hide (fun y hy => by
        rw [hE.out] at hy
        exact HG.out y (List.mem_of_mem_take ((sortB_perm _).mem_iff.1 hy)))
      have hk100 : k ≤ 100 := by omega
      clear hO d0 d1 d2 d3 d4 d5 d6 qa q zb
      generalize wa.alloc (.cells #[.int .i64 x.h, .int .u32 x.f.id, .bool x.f.ext, .bool x.f.rem, .int .i64 x.f.dlc, .string x.f.data, .int .i64 x.s] 60) = wb at *
      go_cut [6] from 12 to 45 (fun vj W => ∃ j : Nat, j ≤ k ∧ vj = .int .i64 j ∧ Hid (posB out x = j) ∧ Below wb.heap.size wb W)
      case first =>
        go_wp2_with fail
        go_loopw [6] (fun vj W => ∃ j : Nat, j ≤ k ∧ vj = .int .i64 j ∧ Hid (∀ p (h : p < out.length), p < j → aheadB out[p] x = true) ∧ Below wb.heap.size wb W) (fun vj _ => k - (intOf vj).toNat)
        case atStart => exact ⟨0, Nat.zero_le _, rfl, hide (fun _ _ h => absurd h (by omega)), Below.refl _ _⟩
        case round =>
          rename World => wc
          obtain ⟨j, hj, rfl, hP, qc⟩ := hrel
          have mx := fun s : InW wc => bxBox_s (heap_below G5.out qc) s
          by_cases hjk : j < k
          · have hjo : j < out.length := by rw [hL.out]; exact hjk
            have hji : (j : Int) < (k : Int) := by omega
            have RO := hide (BxR.next OA.out qc qc.size)
            obtain ⟨b2, off2, rfl, _⟩ := RO.out.at_ hjo
            have my := BxR.all RO.out (Nat.le_refl _) hjo
            have AH := hide (fun s : InW wc => ahead9_any out[j] x s.W (GO.out _ (List.getElem_mem hjo)) GX.out)
            rcases hB : aheadB out[j] x with _ | _
            · rw [hB] at AH
              have HPOS := hide (posB_eq (x := x) (Nat.le_of_lt hjo) hP.out (.inr ⟨hjo, hB⟩))
              clear hB RO
              go_wp2_with fail
              refine wp_region_tame (by kernel_rfl) (by kernel_rfl) ?_
              repeat (go_big_quiet_step (first | (go_at_call 38; exact tame_of (AH.out _))))
              refine wpQuiet_nil ?_
              rintro _ ⟨s, rfl⟩
              have qs := qc.trans (s.h.mono qc.size)
              clear my mx
              go_wp2_with fail
              go_meet
              exact ⟨j, hj, rfl, HPOS, qs⟩
            · rw [hB] at AH
              have HN := hide (show ∀ p (h : p < out.length), p < j + 1 → aheadB out[p] x = true from fun p hp hpj => by
                by_cases e : p = j
                · subst e; exact hB
                · exact hP.out p hp (by omega))
              clear hB RO
              go_wp2_with fail
              refine wp_region_tame (by kernel_rfl) (by kernel_rfl) ?_
              repeat (go_big_quiet_step (first | (go_at_call 38; exact tame_of (AH.out _))))
              refine wpQuiet_nil ?_
              rintro _ ⟨s, rfl⟩
              have qs := qc.trans (s.h.mono qc.size)
              clear my mx
              go_wp2_with fail
              go_roundw
              case rel => exact ⟨j + 1, by omega, by go_num, HN, qs⟩
              case measure => simp [intOf]; omega
          · obtain rfl : j = k := by omega
            have HPOS := hide (posB_eq (x := x) (Nat.le_of_eq hL.out.symm) hP.out (.inl hL.out.symm))
            have hd : decide ((j : Int) < (j : Int)) = false := by simp
            clear mx
            go_wp2_with fail
            refine wp_region_tame (by kernel_rfl) (by kernel_rfl) ?_
            repeat (go_big_quiet_step (fail))
            refine wpQuiet_nil ?_
            rintro _ ⟨s, rfl⟩
            have qs := qc.trans (s.h.mono qc.size)
            go_wp2_with fail
            go_meet
            exact ⟨j, Nat.le_refl _, rfl, HPOS, qs⟩
      case rest =>
        rename World => wc
        obtain ⟨j, hj, rfl, hPOS, qj⟩ := hcut
        obtain ⟨p, hp⟩ : ∃ p, p = out.take j := ⟨_, rfl⟩
        obtain ⟨r, hrr⟩ : ∃ r, r = out.drop j := ⟨_, rfl⟩
        have hpl : p.length = j := by rw [hp, List.length_take, hL.out]; omega
        have hrl : r.length = k - j := by rw [hrr, List.length_drop, hL.out]
        have hto := run_to (P := Tryd.prog) 27 60 Tryd.underlying27 7 (fun W => by kernel_rfl) A' k c' j j rfl (by omega)
        obtain ⟨A2, hA2, hfrom⟩ := run_from (P := Tryd.prog) 27 60 Tryd.underlying27 7 (fun W => by kernel_rfl) A' k c' j j rfl hj
        have QC := below_next QA QA.size qj
        have ROW := hide (BxR.next OA.out qj qj.size)
        have RP := hide (fun W (qq : Below wc.heap.size wc W) => show Rd W W.heap.size A' 7 (p.map bxc) by have := (BxR.next ROW.out qq qq.size).take j; rw [hp]; exact this)
        have RR := hide (fun W (qq : Below wc.heap.size wc W) => show Rd W W.heap.size A2 7 (r.map bxc) by
          have := Rd.drop (BxR.next ROW.out qq qq.size) j c' (by rw [List.length_map, hL.out]; exact hkc)
          rw [← List.map_drop, ← hrr] at this
          rw [hA2]
          exact this)
        have G6 := hide (heap_below G5.out qj)
        have HP := hide hp
        have HRR := hide hrr
        have E1 := hide (show (([] : List (List Value)).length + (p.map bxc).length) * 48 ≤ 140737488355328 by simp; omega)
        have E2 := hide (show ([] : List (List Value)).length + (p.map bxc).length ≤ maxLen by simp [maxLen]; omega)
        have E3 := hide (show j = (p.map bxc).length by rw [List.length_map, hpl])
        have F1 := hide (show ((p.map bxc).length + [([.int .i64 x.h, .int .u32 x.f.id, .bool x.f.ext, .bool x.f.rem, .int .i64 x.f.dlc, .string x.f.data, .int .i64 x.s] : List Value)].length) * 48 ≤ 140737488355328 by simp; omega)
        have F2 := hide (show (p.map bxc).length + [([.int .i64 x.h, .int .u32 x.f.id, .bool x.f.ext, .bool x.f.rem, .int .i64 x.f.dlc, .string x.f.data, .int .i64 x.s] : List Value)].length ≤ maxLen by simp [maxLen]; omega)
        have G1 := hide (show ((p.map bxc ++ [bxc x]).length + (r.map bxc).length) * 48 ≤ 140737488355328 by simp; omega)
        have G2 := hide (show (p.map bxc ++ [bxc x]).length + (r.map bxc).length ≤ maxLen by simp [maxLen]; omega)
        have G3 := hide (show j + 1 = (p.map bxc ++ [bxc x]).length by simp; omega)
        have G4 := hide (show k - j = (r.map bxc).length by rw [List.length_map, hrl])
        have HLN := hide (show j + 1 + (k - j) = k + 1 by omega)
        have HEQ := hide (show p.map bxc ++ [bxc x] ++ r.map bxc = (insB out x).map bxc by unfold insB; rw [hPOS.out, HP.out, HRR.out, List.map_append, List.append_assoc]; rfl)
        clear hp hrr hpl hrl hA2 OA G5 QA
        have qe : Below wc.heap.size wc (wc.alloc (.cells #[] 60)) := (Below.refl _ _).alloc (Nat.le_refl _) _
        have O5 := hide (Own.lit wc wc.heap.size 60 7 [] (Nat.le_refl _) (by simp) (by simp))
        have RP5 := hide (RP.out _ qe)
        have Q5 := below_next QC QC.size qe
        have G7 := hide (heap_below G6.out qe)
        have z5 : wc.heap.size ≤ (wc.alloc (.cells #[] 60)).heap.size := qe.size
        go_wp2_with (at_builtin; refine wpList_append_rows _ rfl _ _ 27 rfl slBox wc.heap.size _ _ _ [] (by rfl) (by exact O5.out) _ _ _ (p.map bxc) (by rfl) (by exact RP5.out) (by exact bxc_rows _) (by exact bxc_ones _) (by exact E1.out) (by exact E2.out) (by exact z5) (by rfl) (by exact E3.out) ?_)
        intro A6 c6 W6 o6 g6
        have q6 := below_append qe g6 O5.out (Nat.le_refl _) qe.size
        have zab : wa.heap.size < wc.heap.size := heap_lt G6.out
        have G8 := hide (heapB G7.out (below_own g6 O5.out z5) zab)
        have z6 : wc.heap.size ≤ W6.heap.size := q6.size
        have O6 := hide (o6.alloc (.cells #[.int .i64 x.h, .int .u32 x.f.id, .bool x.f.ext, .bool x.f.rem, .int .i64 x.f.dlc, .string x.f.data, .int .i64 x.s] 60))
        have R6 := hide (fun t => rd_row (cs := [.int .i64 x.h, .int .u32 x.f.id, .bool x.f.ext, .bool x.f.rem, .int .i64 x.f.dlc, .string x.f.data, .int .i64 x.s]) (World.alloc_heap_new W6 (.cells #[.int .i64 x.h, .int .u32 x.f.id, .bool x.f.ext, .bool x.f.rem, .int .i64 x.f.dlc, .string x.f.data, .int .i64 x.s] t)))
        have zab6 : wa.heap.size < W6.heap.size := by omega
        obtain ⟨y0, y1, y2, y3, y4, y5, y6⟩ := bx_cells7 G8.out
        clear o6 g6 O5 RP5 G7 G6
        go_wp2_with (at_builtin; refine wpList_append_rows _ rfl _ _ 27 rfl slBox wc.heap.size _ _ _ (p.map bxc) (by rfl) (by exact O6.out) _ _ _ [[.int .i64 x.h, .int .u32 x.f.id, .bool x.f.ext, .bool x.f.rem, .int .i64 x.f.dlc, .string x.f.data, .int .i64 x.s]] (by rfl) (by simpa using R6.out _) (by simp) (by simp [Value.oneCell']) (by exact F1.out) (by exact F2.out) (by simp; omega) (by first | exact E3.out | (simp; exact E3.out)) (by rfl) ?_)
        intro A7 c7 W7 o7 g7
        have q7 := below_append (q6.alloc q6.size (.cells #[.int .i64 x.h, .int .u32 x.f.id, .bool x.f.ext, .bool x.f.rem, .int .i64 x.f.dlc, .string x.f.data, .int .i64 x.s] 60)) g7 O6.out (Nat.le_refl _) (by have := q6.size; simp; omega)
        have RR7 := hide (RR.out W7 q7)
        have O7 := hide o7
        have z7 : wc.heap.size ≤ W7.heap.size := q7.size
        clear o7 g7 O6 R6 y0 y1 y2 y3 y4 y5 y6 G8
        go_wp2_with (at_builtin; refine wpList_append_rows _ rfl _ _ 27 rfl slBox wc.heap.size _ _ _ (p.map bxc ++ [bxc x]) (by rfl) (by exact O7.out) _ _ _ (r.map bxc) (by rfl) (by exact RR7.out) (by exact bxc_rows _) (by exact bxc_ones _) (by exact G1.out) (by exact G2.out) (by exact z7) (by first | exact G3.out | (simp; exact G3.out)) (by exact G4.out) ?_)
        intro A8 c8 W8 o8 g8
        have q8 := below_append q7 g8 O7.out (Nat.le_refl _) q7.size
        have FIN : Hid (Own W8 wc.heap.size 60 7 A8 c8 ((insB out x).map bxc)) := hide (by rw [← HEQ.out]; simp only [List.append_assoc, List.singleton_append]; exact o8)
        have Q8 := below_next QC QC.size q8
        have hle : k + 1 ≤ c8 := by have := FIN.out.le; rw [List.length_map, insB_len, hL.out] at this; exact this
        clear o8 g8 O7 RR7
        rw [HLN.out]
        go_wp2_with fail
        refine ⟨⟨k + 1, insB out x, A8, c8, by omega, by go_num, rfl, hide (by rw [SN.out, hE.out]), hide (by rw [insB_len, hL.out]), hide (FIN.out.rd (bxc_rows _)), hle, Q8⟩, ?_⟩
        simp [intOf]; omega
    · have hkl : k = l.length := by omega
      have e : l.take k = l := by rw [hkl, List.take_length]
      have H := hE.out
      rw [e] at H
      have F := hide H
      clear H hE e
      go_wp2
      go_ret
      exact ⟨A', c', by rw [← F.out, hL.out]; rfl, by rw [← F.out]; exact hO.out, by rw [← F.out, hL.out]; exact hkc, q⟩
end Go.Proofs.YtkfedgjepiljiaaDoor

/- The reference's Right of boxes. -/
namespace Go.Proofs.YtkfedgjepiljiaaDoor
open Go.ChangeShapes Go.WideShapes Go.ChangeAt Go.RowKit
open FP (Fr)
open HP (kB at' Hp)

/-- What Right asks, as the document says it. -/
structure RrP (l : List Bx) (seq cap : Int) : Prop where
  c1 : 1 ≤ cap
  c8 : cap ≤ 8
  ln : (l.length : Int) ≤ cap
  s0 : 0 ≤ seq
  s1 : seq ≤ 1099511627776
  ok : ∀ j (h : j < l.length), okM seq l[j]
  ne : ∀ i j (hi : i < l.length) (hj : j < l.length), i < j → l[i].s ≠ l[j].s
  hp : ∀ j (hj : j < l.length), 0 < j → aheadB l[j] (at' l ((j - 1) / 2)) = false
theorem rr_iff {l : List Bx} {seq cap : Int} : rightBx l seq cap = true ↔ RrP l seq cap := by
  rw [right_iff]
  constructor
  · rintro ⟨h1, h2, h3, h4, h5, h6, h7, h8⟩
    refine ⟨h1, h2, h3, h4, h5, fun j h => h6 _ (List.getElem_mem h), fun i j hi hj hij => List.pairwise_iff_getElem.1 h7 i j hi hj hij, fun j hj h0 => ?_⟩
    have hp : (j - 1) / 2 < l.length := by omega
    have := h8 j h0 hj (Nat.zero_le _)
    rw [HP.at_lt hj] at this
    rw [HP.at_lt hp] at this ⊢
    rw [HP.ahead_kB (h6 _ (List.getElem_mem hj)).1 (h6 _ (List.getElem_mem hp)).1]
    exact this
  · intro h
    refine ⟨h.c1, h.c8, h.ln, h.s0, h.s1, fun x hx => ?_, ?_, fun j h0 hj _ => ?_⟩
    · obtain ⟨j, hj, rfl⟩ := List.mem_iff_getElem.1 hx
      exact h.ok j hj
    · rw [List.pairwise_iff_getElem]
      exact fun i j hi hj hij => h.ne i j hi hj hij
    · have hp : (j - 1) / 2 < l.length := by omega
      have := h.hp j hj h0
      rw [HP.at_lt hj]
      rw [HP.at_lt hp] at this ⊢
      rw [HP.ahead_kB (h.ok j hj).1 (h.ok _ hp).1] at this
      exact this
theorem rr_false {l : List Bx} {seq cap : Int} (h : ¬ RrP l seq cap) : rightBx l seq cap = false := by
  rw [← Bool.not_eq_true, rr_iff]; exact h

end Go.Proofs.YtkfedgjepiljiaaDoor

/- The plain law of Sorted: what stands in it hangs on the boxes alone, not on how they stand. -/
namespace Go.Proofs.YtkfedgjepiljiaaDoor
open FP (Fr)
open HP (kB at' Hp)

def sortedP (l : List Bx) : Prop := l.Pairwise fun a b => kB b a = false
def goodP (l : List Bx) : Prop := ∀ x ∈ l, FP.rightB x.f = true
def neP (l : List Bx) : Prop := l.Pairwise fun x y => x.s ≠ y.s

theorem posB_at {out : List Bx} {x : Bx} (hg : goodP out) (hx : FP.rightB x.f = true) : (∀ y ∈ out.take (posB out x), kB y x = true) ∧ (sortedP out → ∀ y ∈ out.drop (posB out x), kB y x = false) := by
  unfold posB
  induction out with
  | nil => simp
  | cons a l ih =>
    have ih := ih (fun y hy => hg y (List.mem_cons_of_mem _ hy))
    have ea := HP.ahead_kB (hg a List.mem_cons_self) hx
    by_cases e : aheadB a x = true
    · rw [List.takeWhile_cons_of_pos (p := fun y => aheadB y x) e, List.length_cons, List.take_succ_cons, List.drop_succ_cons]
      refine ⟨fun y hy => ?_, fun hs => ih.2 (List.pairwise_cons.1 hs).2⟩
      rcases List.mem_cons.1 hy with rfl | hy
      · rw [← ea]; exact e
      · exact ih.1 y hy
    · rw [List.takeWhile_cons_of_neg (p := fun y => aheadB y x) e]
      refine ⟨by simp, fun hs y hy => ?_⟩
      simp only [List.length_nil, List.drop_zero] at hy
      have e2 : kB a x = false := by rw [← ea]; simpa using e
      rcases List.mem_cons.1 hy with rfl | hy
      · exact e2
      · exact HP.kB_ntrans ((List.pairwise_cons.1 hs).1 y hy) e2

theorem insB_sorted {out : List Bx} {x : Bx} (hg : goodP out) (hx : FP.rightB x.f = true) (hs : sortedP out) : sortedP (insB out x) := by
  obtain ⟨h1, h2⟩ := posB_at hg hx
  have h2 := h2 hs
  unfold insB sortedP
  rw [List.pairwise_append, List.pairwise_cons]
  refine ⟨hs.sublist (List.take_sublist _ _), ⟨h2, hs.sublist (List.drop_sublist _ _)⟩, fun a ha b hb => ?_⟩
  rcases List.mem_cons.1 hb with rfl | hb
  · exact HP.kB_asymm (h1 a ha)
  · have := List.pairwise_append.1 (show (out.take (posB out x) ++ out.drop (posB out x)).Pairwise _ by rw [List.take_append_drop]; exact hs)
    exact this.2.2 a ha b hb

theorem fold_sorted : ∀ (l acc : List Bx), goodP l → goodP acc → sortedP acc → sortedP (l.foldl insB acc)
  | [], _, _, _, h => h
  | x :: l, acc, hg, ha, hs => by
    have hx := hg x List.mem_cons_self
    refine fold_sorted l (insB acc x) (fun y hy => hg y (List.mem_cons_of_mem _ hy)) (fun y hy => ?_) (insB_sorted ha hx hs)
    rcases List.mem_cons.1 ((insB_perm acc x).mem_iff.1 hy) with rfl | hy
    · exact hx
    · exact ha y hy
theorem sortB_sorted {l : List Bx} (hg : goodP l) : sortedP (sortB l) := fold_sorted l [] hg (fun _ h => absurd h (by simp)) List.Pairwise.nil

theorem neP.perm {l m : List Bx} (p : l.Perm m) (h : neP l) : neP m := ne_perm p.symm h
theorem goodP.perm {l m : List Bx} (p : l.Perm m) (h : goodP l) : goodP m := fun x hx => h x (p.mem_iff.2 hx)

theorem sorted_uniq : ∀ (l m : List Bx), l.Perm m → neP l → sortedP l → sortedP m → l = m
  | [], m, p, _, _, _ => by rw [List.nil_perm.1 p]
  | a :: l, [], p, _, _, _ => absurd p.length_eq (by simp)
  | a :: l, b :: m, p, hn, h1, h2 => by
    have e : a = b := by
      rcases List.mem_cons.1 (p.mem_iff.1 (List.mem_cons_self (a := a) (l := l))) with e | hab
      · exact e
      · rcases List.mem_cons.1 (p.mem_iff.2 (List.mem_cons_self (a := b) (l := m))) with e | hba
        · exact e.symm
        · have k1 := (List.pairwise_cons.1 h1).1 b hba
          have k2 := (List.pairwise_cons.1 h2).1 a hab
          by_cases hs : a.s = b.s
          · exact ne_uniq hn List.mem_cons_self (List.mem_cons_of_mem _ hba) hs
          · rcases HP.kB_total hs with h | h
            · rw [k2] at h; cases h
            · rw [k1] at h; cases h
    subst e
    rw [sorted_uniq l m ((List.perm_cons a).1 p) (List.pairwise_cons.1 hn).2 (List.pairwise_cons.1 h1).2 (List.pairwise_cons.1 h2).2]

/-- Boxes that are the same, however they stand, are sorted alike. -/
theorem sortB_eq {l m : List Bx} (p : l.Perm m) (hg : goodP l) (hn : neP l) : sortB l = sortB m :=
  sorted_uniq _ _ ((sortB_perm l).trans (p.trans (sortB_perm m).symm)) (hn.perm (sortB_perm l).symm) (sortB_sorted hg) (sortB_sorted (hg.perm p))

/-- The heap's first one is the sorted ones' first one. -/
theorem sortB_first {l : List Bx} (hg : goodP l) (hn : neP l) (hh : Hp l 0 l.length) (h0 : 0 < l.length) : ∃ r, sortB l = at' l 0 :: r ∧ (r ++ [at' l 0]).Perm l := by
  have hp := sortB_perm l
  have hs := sortB_sorted hg
  rcases hr : sortB l with _ | ⟨b, r⟩
  · rw [hr] at hp
    have := hp.length_eq
    simp at this
    omega
  · rw [hr] at hp hs
    have hm : at' l 0 ∈ l := by rw [HP.at_lt h0]; exact List.getElem_mem h0
    have e : b = at' l 0 := by
      rcases List.mem_cons.1 (hp.mem_iff.2 hm) with e | hr'
      · exact e.symm
      · have k1 := (List.pairwise_cons.1 hs).1 _ hr'
        have hb : b ∈ l := hp.mem_iff.1 List.mem_cons_self
        obtain ⟨k, hk, rfl⟩ := List.mem_iff_getElem.1 hb
        have k2 := Hp.first hh k hk
        rw [HP.at_lt hk] at k2
        by_cases hs' : l[k].s = (at' l 0).s
        · exact ne_uniq hn (List.getElem_mem hk) hm hs'
        · rcases HP.kB_total hs' with h | h
          · rw [k2] at h; cases h
          · rw [k1] at h; cases h
    subst e
    exact ⟨r, rfl, (List.perm_append_comm (l₁ := r) (l₂ := [at' l 0])).trans hp⟩
end Go.Proofs.YtkfedgjepiljiaaDoor

/- is of package 09. -/
namespace Go.Proofs.YtkfedgjepiljiaaDoor
open Go.ChangeShapes Go.WideShapes Go.ChangeAt Go.RowKit
open FP (Fr)
open HP (kB at' Hp)

theorem right_goodP {l : List Bx} {seq cap : Int} (h : rightBx l seq cap = true) : goodP l ∧ neP l ∧ Hp l 0 l.length ∧ l.length ≤ 8 := by
  obtain ⟨_, h1, h2, _, _, h3, h4, h5⟩ := right_iff.1 h
  exact ⟨fun x hx => (h3 x hx).1, h4, h5, by omega⟩

end Go.Proofs.YtkfedgjepiljiaaDoor

/- few of package 09: the first twelve boxes, their data cut. -/
namespace Go.Proofs.YtkfedgjepiljiaaDoor
open Go.ChangeShapes Go.WideShapes Go.ChangeAt Go.RowKit
open FP (Fr)

def cutBx (x : Bx) : Bx := ⟨x.h, cutF x.f, x.s⟩
def cutBK (l : List Bx) (k : Nat) : List Bx := (l.take k).map cutBx ++ l.drop k
theorem cutBK_zero (l : List Bx) : cutBK l 0 = l := by simp [cutBK]
theorem cutBK_full (l : List Bx) : cutBK l l.length = l.map cutBx := by simp [cutBK]
theorem cutBK_len (l : List Bx) (k : Nat) (h : k ≤ l.length) : (cutBK l k).length = l.length := by simp [cutBK]; omega
theorem cutBK_at (l : List Bx) (k : Nat) (h : k < l.length) : (cutBK l k)[k]? = some l[k] := by
  unfold cutBK
  rw [List.getElem?_append_right (by simp; omega)]
  simp only [List.length_map, List.length_take, List.getElem?_drop]
  rw [show k + (k - min k l.length) = k by omega, List.getElem?_eq_getElem h]
theorem cutBK_succ (l : List Bx) (k : Nat) (h : k < l.length) : cutBK l (k + 1) = (cutBK l k).set k (cutBx l[k]) := by
  unfold cutBK
  rw [List.take_succ_eq_append_getElem h, List.map_append, List.set_append_right _ _ (by simp; omega)]
  simp only [List.length_map, List.length_take, List.map_cons, List.map_nil]
  rw [show k - min k l.length = 0 by omega, List.drop_eq_getElem_cons h, List.set_cons_zero, List.append_assoc]
  rfl
theorem cutBK_rows (l : List Bx) (k : Nat) (h : k < l.length) : ((cutBK l (k + 1)).map bxc).flatten = ((cutBK l k).map bxc).flatten.set (k * 7 + 5) (.string (l[k].f.data.extract 0 (min l[k].f.data.size 12))) := by
  have hk : ((cutBK l k).map bxc)[k]? = some (bxc l[k]) := by rw [List.getElem?_map, cutBK_at l k h]; rfl
  rw [flatten_set _ 7 (bxc_rows _) k 5 _ _ hk (by omega), cutBK_succ l k h, List.map_set]
  rfl

/-- What few leaves. -/
def cutB (l : List Bx) : List Bx := (l.take 12).map cutBx
def FewBV (l : List Bx) (seq cap : Int) (w : World) (e : Ending) (w' : World) : Prop :=
  ∃ A' c', e = .returned (.agg #[.slice A' (cutB l).length c', .int .i64 seq, .int .i64 cap]) ∧ BxR w' w'.heap.size A' (cutB l) ∧ (cutB l).length ≤ c' ∧ Below w.heap.size w w'

structure F9 (w : World) (l : List Bx) (seq cap : Int) (A : Option Addr) (c k : Nat) (W : World) : Prop where
  box : W.heap[w.heap.size]? = some (.cells #[.slice A l.length c, .int .i64 seq, .int .i64 cap] 29 (0, 0))
  res : W.heap[w.heap.size + 1]? = some (.cells #[.slice none 0 0, .int .i64 0, .int .i64 0] 29 (0, 0))
  own : Own W (w.heap.size + 2) 60 7 A c ((cutBK l k).map bxc)
  q : Below w.heap.size w W

theorem three_freeB {W : World} {B : Nat} {a b c : Value} {t : TypeId} (h : W.heap[B]? = some (.cells #[a, b, c] t (0, 0))) : W.there B 0 3 := there_heap (cs := [a, b, c]) h
theorem three_froz {W : World} {B : Nat} {a b c : Value} {t : TypeId} (h : W.heap[B]? = some (.cells #[a, b, c] t (0, 0))) : W.frozen? ⟨B, 0, none⟩ = false := by simp [World.frozen?, h]

end Go.Proofs.YtkfedgjepiljiaaDoor
