/- few of package 05, its row the call's own; of one frame alone. -/
import Derived.Test.YtbdgifngldipcaaPoB
import Derived.Test.YtbdgifngldipcaaPrL
namespace Go.Proofs.Ytbdgifngldipcaa
open Go.ChangeShapes Go.WideShapes Go.ChangeAt Go.RowKit
open FP (Fr)

def FewO (l : List Fr) (w : World) (e : Ending) (w' : World) : Prop :=
  ∃ A' c', e = .returned (.slice A' (cutL l).length c') ∧ Own w' w.heap.size 39 5 A' c' ((cutL l).map frc) ∧ Below w.heap.size w w'

set_option maxRecDepth 100000 in
set_option maxHeartbeats 2000000 in
theorem few05_own (l0 : List Fr) (A : Option Addr) (c : Nat) (w : World) (hr0 : FrR w w.heap.size A l0) (hc0 : l0.length ≤ c) (hcm : c ≤ maxLen) (hs : ∀ f ∈ l0, f.data.size ≤ maxLen) :
    Calls Try.prog 28 #[.slice A l0.length c] w (FewO l0 w) := by
  obtain ⟨l, hl⟩ : ∃ l, l = l0.take 10 := ⟨_, rfl⟩
  have hlen : l.length = min l0.length 10 := by rw [hl, List.length_take]; omega
  have hr : FrR w w.heap.size A l := by rw [hl]; unfold FrR; rw [List.map_take]; exact hr0.take 10
  have hsl : ∀ f ∈ l, f.data.size ≤ maxLen := fun f hf => hs f (by rw [hl] at hf; exact List.mem_of_mem_take hf)
  have HV : FewO l0 w = fun e w' => ∃ A' c', e = .returned (.slice A' l.length c') ∧ Own w' w.heap.size 39 5 A' c' ((l.map cutF).map frc) ∧ Below w.heap.size w w' := by
    unfold FewO cutL
    rw [← hl, List.length_map]
  rw [HV]
  obtain ⟨m, em, hm⟩ := run_min (P := Try.prog) (l0.length : Int) 10
  have em' : m = (l.length : Int) := by rw [em, hlen]; omega
  have hrun := run_to (P := Try.prog) 50 39 Try.underlying50 5 (fun W => by kernel_rfl) A l0.length c m l.length em' (by omega)
  subst em'
  have hl10 : l.length ≤ 10 := by omega
  clear hl hlen hr0 hs HV em
  have SL := hide hsl
  clear hsl
  have O0 := hide (Own.lit w w.heap.size 39 5 [] (Nat.le_refl _) (by simp) (by simp))
  have q0 : Below w.heap.size w (w.alloc (.cells #[] 39)) := (Below.refl _ _).alloc (Nat.le_refl _) _
  have R0 := hide (FrR.next hr q0 q0.size)
  have S1 := hide (show (([] : List (List Value)).length + (l.map frc).length) * 32 ≤ 140737488355328 by simp; omega)
  have S2 := hide (show ([] : List (List Value)).length + (l.map frc).length ≤ maxLen by simp [maxLen]; omega)
  have S3 := hide (show l.length = (l.map frc).length by simp)
  clear hr
  go_enter Try.func28, Try.ntmps28
  go_wp2_with (at_builtin; refine wpList_append_rows _ rfl _ _ 50 rfl slFrame w.heap.size _ _ _ [] rfl O0.out _ _ _ (l.map frc) rfl R0.out (frc_rows l) (frc_ones l) S1.out S2.out ?_ rfl S3.out ?_)
  · simp
  intro A4 n4 w4 o4 g4
  have q4 : Below w.heap.size w w4 := below_append q0 g4 O0.out (Nat.le_refl _) q0.size
  have o4' : Own w4 w.heap.size 39 5 A4 n4 ((cutK l 0).map frc) := by rw [cutK_zero]; exact o4
  have O4 := hide o4'
  clear o4 o4' g4 O0 R0 S1 S2 S3 q0 hrun hm
  go_wp2
  go_loopw [14] (fun i W => ∃ k : Nat, k ≤ l.length ∧ i = .int .i64 k ∧ Own W w.heap.size 39 5 A4 n4 ((cutK l k).map frc) ∧ Below w.heap.size w W) (fun i _ => l.length - (intOf i).toNat)
  case atStart => exact ⟨0, Nat.zero_le _, rfl, O4.out, q4⟩
  case round =>
    obtain ⟨k, hk, rfl, own, q⟩ := hrel
    by_cases hlt : k < l.length
    · obtain ⟨g, cg, hA, hg1, hg2⟩ := World.ownsRow.form own (by rw [List.length_map, cutK_len l k hk]; omega)
      simp only [Value.slice.injEq] at hA
      obtain ⟨rfl, _, rfl⟩ := hA
      have hkr : ((cutK l k).map frc)[k]? = some (frc l[k]) := by rw [List.getElem?_map, cutK_at l k hlt]; rfl
      have c0 := own_at own (frc_rows _) hkr (j := 0) rfl
      have c1 := own_at own (frc_rows _) hkr (j := 1) rfl
      have c2 := own_at own (frc_rows _) hkr (j := 2) rfl
      have c3 := own_at own (frc_rows _) hkr (j := 3) rfl
      have c4 := own_at own (frc_rows _) hkr (j := 4) rfl
      have z4 := World.ownsRow.frozenAt own (k * 5 + 4)
      rw [Nat.add_zero] at c0
      have hsz := SL.out l[k] (List.getElem_mem hlt)
      have NX := hide (World.ownsRow.stored own (k * 5 + 4) (.string (l[k].data.extract 0 (min l[k].data.size 12))))
      have RW := hide (cutK_rows l k hlt)
      have LK := hide (show ((cutK l (k + 1)).map frc).length = ((cutK l k).map frc).length by rw [List.length_map, List.length_map, cutK_len l k hk, cutK_len l (k + 1) (by omega)])
      clear own hkr
      generalize l[k] = f at *
      obtain ⟨id, ext, rem, dlc, data⟩ := f
      dsimp only at *
      unfold maxLen at hsz
      obtain ⟨m2, em2, hm2⟩ := run_min (P := Try.prog) (data.size : Int) 12
      obtain ⟨k2, hk2⟩ : ∃ k2 : Nat, k2 = min data.size 12 := ⟨_, rfl⟩
      have hmk : m2 = k2 := by omega
      subst hmk
      have hkl : k2 ≤ data.size := by omega
      rw [← hk2] at NX RW
      clear hk2 em2
      go_wp2
      go_roundw
      case rel =>
        obtain ⟨s1, s2⟩ := NX.out
        rw [← RW.out] at s1
        have s3 : Own (wr.setCell ⟨g, k * 5 + 4, none⟩ (.string (data.extract 0 k2))) w.heap.size 39 5 (some ⟨g, 0, none⟩) n4 ((cutK l (k + 1)).map frc) := by
          unfold Own
          rw [LK.out]
          exact s1
        have q5 := q.grown s2 q.size (fun k e => by cases e; exact hg1)
        exact ⟨k + 1, by omega, by go_num, s3.alloc _, q5.alloc q5.size _⟩
      case measure => simp [intOf]; omega
    · obtain rfl : k = l.length := by omega
      have R4 : Own wr w.heap.size 39 5 A4 n4 ((l.map cutF).map frc) := by
        rw [← cutK_full]
        exact own
      have RH := hide R4
      clear R4
      clear own
      go_wp2
      go_ret
      exact ⟨A4, n4, rfl, RH.out, q⟩

/-- few of one frame: it lies, cut, in a block of the call's own. -/
theorem few1_any (f : Fr) (x : Nat) (w : World) (hs : f.data.size ≤ maxLen) (hx : w.heap[x]? = some (.cells #[.int .u32 f.id, .bool f.ext, .bool f.rem, .int .i64 f.dlc, .string f.data] 39 (0, 0))) :
    Calls Try.prog 28 #[.slice (some ⟨x, 0, none⟩) 1 1] w fun e w' => ∃ g c', e = .returned (.slice (some ⟨g, 0, none⟩) 1 c') ∧ w.heap.size ≤ g ∧ g < w'.heap.size ∧ w'.rangeAt g 0 (frc (cutF f)) ∧ Below w.heap.size w w' := by
  refine (few05_own [f] (some ⟨x, 0, none⟩) 1 w (rd_row (cs := frc f) hx) (Nat.le_refl _) (by decide) (by simpa using hs)).mono ?_
  rintro e w' ⟨A', c', he, ho, q⟩
  obtain ⟨g, rfl, h1, h2⟩ := ho.ofLen (by simp [cutL])
  exact ⟨g, c', he, h1, h2, by have := ho.range (frc_rows _) (k := 0) (by simp [cutL]); simpa [cutL] using this, q⟩
end Go.Proofs.Ytbdgifngldipcaa
