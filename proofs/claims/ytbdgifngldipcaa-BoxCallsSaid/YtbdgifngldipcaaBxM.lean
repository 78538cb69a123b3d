/- alive of the box statements. -/
import Derived.Test.YtbdgifngldipcaaHpR
import Derived.Test.YtbdgifngldipcaaRfP
namespace Go.Proofs.Ytbdgifngldipcaa
open Go.ChangeShapes Go.WideShapes Go.ChangeAt Go.RowKit
open FP (Fr)
open HP (kB at' Hp)

def aF : Fr := ⟨5, false, false, 0, ⟨#[]⟩⟩
def aB : Bx := ⟨7, aF, 0⟩
theorem bxNew_ok (n : Int) (h : 1 ≤ n ∧ n ≤ 8) (w : World) : Calls Try.prog 38 #[.int .i64 n] w fun e w' => e = .returned (.tuple #[.agg #[.slice none 0 0, .int .i64 0, .int .i64 n], .int .i64 0]) ∧ Below w.heap.size w w' := by
  have := bxNew_any n w
  rwa [if_pos h] at this

set_option maxRecDepth 100000 in
set_option maxHeartbeats 1000000 in
theorem alive09_any (w : World) : Calls Try.prog 41 #[] w fun e w' => e = .returned (.bool true) ∧ Below w.heap.size w w' := by
  have PU := hide (fun W => put_ok [] none 0 0 2 7 aF W Rd.nil (by simp) (by simp) (by decide) (by decide +kernel) (by omega) (by omega) (by decide +kernel) (by omega) (by simp))
  have BE := hide (fun A c (W : World) (h : BxR W W.heap.size A [aB]) (hc : [aB].length ≤ c) => best_any [aB] A c 1 2 W h (by simp) hc (by simp [aB, aF]))
  have hb : bestA [aB] 1 2 = (aB, 0) := by
    have h1 : rightBx [aB] 1 2 = true := by decide +kernel
    unfold bestA
    rw [if_neg (by rw [h1]; simp), if_neg (by simp)]
    rfl
  rw [hb] at BE
  clear hb
  go_enter Try.func41, Try.ntmps41
  go_wp2_with fail
  (with_reducible refine (bxNew_ok 2 (by decide) _).mono ?_)
  rintro e1 w1 ⟨rfl, q1⟩
  go_wp2_with fail
  refine (PU.out _).mono ?_
  rintro e2 w2 ⟨A, c, l', rfl, ow, p, _, q2⟩
  obtain rfl : l' = [aB] := List.perm_singleton.1 p
  clear p
  have rd : BxR w2 w2.heap.size A [aB] := ow.rd (bxc_rows _)
  have hlc : [aB].length ≤ c := by have := ow.le; simpa using this
  have fr := own_blk ow
  obtain ⟨hc2, hz2⟩ := bcell q2
  have z2 : w1.heap.size < w2.heap.size := by simp at hz2; omega
  have hf2 : ∀ b o, b < w1.heap.size + 1 → w2.frozen? ⟨b, o, none⟩ = _ := fun b o h => q2.frozen (p := ⟨b, o, none⟩) (by simpa using h)
  go_wp2_with fail
  have hx : ∀ g off, A = some ⟨g, off, none⟩ → g ≠ w1.heap.size := fun g off e => by have := fr g off e; simp at this; omega
  have rd3 := rd_setCell (rd_setCell (rd_setCell rd hx (.slice A 1 c) (j := 0)) hx (.int .i64 1) (j := 1)) hx (.int .i64 2) (j := 2)
  have q3 : Below w.heap.size w (((w2.setCell ⟨w1.heap.size, 0, none⟩ (.slice A 1 c)).setCell ⟨w1.heap.size, 1, none⟩ (.int .i64 1)).setCell ⟨w1.heap.size, 2, none⟩ (.int .i64 2)) := by
    have q2w : Below w.heap.size w w2 := (q1.alloc q1.size _).trans (q2.mono (by have := q1.size; simp; omega))
    have hw1 := q1.size
    repeat (first | ((with_reducible refine Below.setCell ?_ ?_ _); rotate_left 1; (first | (simp; omega) | simp | omega)) | ((with_reducible refine Below.alloc ?_ ?_ _); rotate_left 1; (first | (simp; omega) | simp | omega)))
    all_goals exact q2w
  refine (BE.out A c _ (by simpa [BxR, World.setCell] using rd3) hlc).mono ?_
  rintro e3 w3 ⟨rfl, q4⟩
  have q5 := below_next q3 q3.size q4
  clear rd rd3 hx fr hc2 hf2 ow
  go_wp2
  go_ret
  exact ⟨rfl, q5.alloc q5.size _⟩
end Go.Proofs.Ytbdgifngldipcaa
