/- The walks of package load: Need, Fits; and the reference's Right, few, alive of the statements' package. -/
import Derived.Test.YtbdgifngldipcaaLoadB
namespace Go.Proofs.Ytbdgifngldipcaa
open Go.ChangeShapes Go.WideShapes Go.ChangeAt Go.RowKit
open LP (Ld okB rightB mx ah needF lateF)

/-- Need within, where at and within may be. -/
theorem Need_ok (l : List Ld) (A : Option Addr) (c : Nat) (k : Nat) (t : Int) (w : World) (hr : LdR w w.heap.size A l) (hR : rightB l = true) (hc : l.length ≤ c) (hk : k < l.length) (ht : 1 ≤ t) (ht2 : t ≤ 1000000) :
    Calls Try.prog 19 #[.slice A l.length c, .int .i64 k, .int .i64 t] w fun e w' => e = .returned (.tuple #[.int .i64 (needF l k t), .int .i64 0]) ∧ Below w.heap.size w w' := by
  have HR := LP.right_iff.1 hR
  have h16 := HR.1
  have HR := hide HR
  have R := hide (right_any l A c w hr (by omega))
  go_enter Try.func19, Try.ntmps19
  go_wp2_with fail
  refine R.out.mono ?_
  rintro e1 w1 ⟨rfl, hb1⟩
  go_wp2_with fail
  refine (need_any l A c k t w1 (hr.next hb1 hb1.size) HR h16 hc hk ht ht2).mono ?_
  rintro e2 w2 ⟨rfl, hb2⟩
  go_wp2
  go_ret2
  exact ⟨rfl, below_next hb1 hb1.size hb2⟩

def fitB (l : List Ld) (k : Nat) : Bool := decide (lateF l k ≠ 0 ∧ lateF l k ≤ (l.getD k (0, 0)).2)
def fitsB (l : List Ld) : Bool := (List.range l.length).all (fitB l)

theorem fits_no {l : List Ld} {k : Nat} (hk : k < l.length) (h : fitB l k = false) : fitsB l = false := by
  rw [fitsB, List.all_eq_false]
  exact ⟨k, by simpa using hk, by simp [h]⟩

theorem fits_yes {l : List Ld} (h : ∀ k, k < l.length → fitB l k = true) : fitsB l = true := by
  rw [fitsB, List.all_eq_true]
  exact fun k hk => h k (by simpa using hk)

set_option maxRecDepth 100000 in
set_option maxHeartbeats 400000 in
theorem Fits_ok (l : List Ld) (A : Option Addr) (c : Nat) (w : World) (hr : LdR w w.heap.size A l) (hR : rightB l = true) (hc : l.length ≤ c) :
    Calls Try.prog 18 #[.slice A l.length c] w fun e w' => e = .returned (.tuple #[.bool (fitsB l), .int .i64 0]) ∧ Below w.heap.size w w' := by
  have HR := LP.right_iff.1 hR
  have h16 := HR.1
  have HR := hide HR
  have R := hide (right_any l A c w hr (by omega))
  go_enter Try.func18, Try.ntmps18
  go_wp2_with fail
  refine R.out.mono ?_
  rintro e1 w1 ⟨rfl, hb1⟩
  go_wp2_with fail
  go_loopw [12] (fun i wr => ∃ k : Nat, k ≤ l.length ∧ i = .int .i64 k ∧ Hid (∀ j, j < k → fitB l j = true) ∧ Below w.heap.size w wr) (fun i _ => l.length - (intOf i).toNat)
  case atStart => exact ⟨0, Nat.zero_le _, rfl, hide (fun j hj => absurd hj (by omega)), hb1⟩
  case round =>
    obtain ⟨k, hk, rfl, hinv, hbl⟩ := hrel
    have hsz := hbl.size
    by_cases hlt : k < l.length
    · obtain ⟨b, off, rfl, hbs, h1, h2⟩ := hr.at_ hlt
      have h1' := cellBelow hbl hbs h1
      have h2' := cellBelow hbl hbs h2
      clear h1 h2
      have hbd := LP.lateF_bd l k
      have hx := HR.out.2 l[k] (List.getElem_mem hlt)
      simp only [okB, decide_eq_true_eq] at hx
      have hgd := hide (show l.getD k (0, 0) = l[k] by simp [hlt])
      have HL := hide (fun W (hW : Below w.heap.size w W) => late_any l (some ⟨b, off, none⟩) c k W (hr.next hW hW.size) HR h16 hc hlt)
      have hb0 : Below w.heap.size w (wr.alloc (.cells #[.int .i64 l[k].1, .int .i64 l[k].2] 24)) := hbl.alloc hsz _
      by_cases hz : lateF l k = 0
      · have hF := hide (fits_no hlt (show fitB l k = false by simp [fitB, hz]))
        have hzb : (lateF l k == 0) = true := by simp [hz]
        clear hz
        go_wp2_with fail
        refine (HL.out _ hb0).mono ?_
        rintro e2 w2 ⟨rfl, hb2⟩
        go_wp2
        go_ret2
        exact ⟨by rw [hF.out]; rfl, below_next hb0 hb0.size hb2⟩
      · have hzb : (lateF l k == 0) = false := by simp [hz]
        by_cases hg : l[k].2 < lateF l k
        · have hF := hide (fits_no hlt (show fitB l k = false by unfold fitB; rw [hgd.out]; simp; omega))
          clear hz
          go_wp2_with fail
          refine (HL.out _ hb0).mono ?_
          rintro e2 w2 ⟨rfl, hb2⟩
          have c1 : w2.cell? ⟨wr.heap.size, 1, none⟩ = some (.int .i64 l[k].2) := cellBelow hb2 (by simp) (by simp [go_sem])
          go_wp2
          go_ret2
          exact ⟨by rw [hF.out]; rfl, below_next hb0 hb0.size hb2⟩
        · have hF := hide (show fitB l k = true by unfold fitB; rw [hgd.out]; simp; omega)
          clear hz
          go_wp2_with fail
          refine (HL.out _ hb0).mono ?_
          rintro e2 w2 ⟨rfl, hb2⟩
          have c1 : w2.cell? ⟨wr.heap.size, 1, none⟩ = some (.int .i64 l[k].2) := cellBelow hb2 (by simp) (by simp [go_sem])
          go_wp2
          go_roundw
          case rel => exact ⟨k + 1, by omega, by go_num, hide (fun j hj => by
            by_cases e : j = k
            · subst e; exact hF.out
            · exact hinv.out j (by omega)), below_next hb0 hb0.size hb2⟩
          case measure => simp [intOf]; omega
    · have hF := hide (fits_yes (l := l) (fun j hj => hinv.out j (by omega)))
      go_wp2_with fail
      go_ret2
      exact ⟨by rw [hF.out]; rfl, hbl⟩

theorem Fits_no (l : List Ld) (A : Option Addr) (c : Nat) (w : World) (hr : LdR w w.heap.size A l) (hl : l.length ≤ 1000) (hR : rightB l = false) :
    Calls Try.prog 18 #[.slice A l.length c] w fun e w' => e = .returned (.tuple #[.bool false, .int .i64 1]) ∧ Below w.heap.size w w' := by
  have R := hide (right_any l A c w hr hl)
  go_enter Try.func18, Try.ntmps18
  go_wp2_with fail
  refine R.out.mono ?_
  rintro e1 w1 ⟨rfl, hb1⟩
  go_wp2
  go_ret2
  exact ⟨rfl, hb1⟩

/-! ### The statements' package -/
theorem few_any (A : Option Addr) (n c : Nat) (w : World) (hn : n ≤ c) (h : n ≤ maxLen) :
    Calls Try.prog 14 #[.slice A n c] w fun e w' => e = .returned (.slice A (min n 20) c) ∧ w = w' := by
  unfold maxLen at h
  by_cases h20 : n ≤ 20
  · have hr := run_to (P := Try.prog) 22 24 Try.underlying22 2 (fun W => by kernel_rfl) A n c n n rfl hn
    have E := hide (show min n 20 = n by omega)
    go_enter Try.func14, Try.ntmps14
    go_wp2
    go_ret
    exact ⟨by rw [E.out]; rfl, rfl⟩
  · have hr := run_to (P := Try.prog) 22 24 Try.underlying22 2 (fun W => by kernel_rfl) A n c 20 20 rfl (by omega)
    have E := hide (show min n 20 = 20 by omega)
    go_enter Try.func14, Try.ntmps14
    go_wp2
    go_ret
    exact ⟨by rw [E.out]; rfl, rfl⟩

theorem alive_late : lateV [(2, 5), (3, 9)] 1 = 5 ∧ lateE [(2, 5), (3, 9)] 1 = 0 := by
  have h : lateF [(2, 5), (3, 9)] 1 = 5 := LP.lateF_eq (.inr ⟨by decide, by decide, by decide, fun m a b => by
    have : m = 1 ∨ m = 2 ∨ m = 3 ∨ m = 4 := by omega
    rcases this with rfl | rfl | rfl | rfl <;> decide⟩)
  have hr : rightB [((2 : Int), (5 : Int)), (3, 9)] = true := by decide
  constructor
  · unfold lateV; rw [if_pos ⟨hr, by decide, by decide⟩]; exact h
  · unfold lateE; rw [if_pos ⟨hr, by decide, by decide⟩]; show (if lateF _ 1 = 0 then (41 : Int) else 0) = 0; rw [h]; rfl

theorem alive22_any (w : World) : Calls Try.prog 17 #[] w fun e w' => e = .returned (.bool true) ∧ Below w.heap.size w w' := by
  go_enter Try.func17, Try.ntmps17
  go_wp2_with fail
  have H : LdR (w.alloc (.cells #[.int .i64 2, .int .i64 5, .int .i64 3, .int .i64 9] 24)) (w.alloc (.cells #[.int .i64 2, .int .i64 5, .int .i64 3, .int .i64 9] 24)).heap.size (some ⟨w.heap.size, 0, none⟩) [(2, 5), (3, 9)] := LdR.new w [(2, 5), (3, 9)]
  refine (Late_any [(2, 5), (3, 9)] _ 2 1 _ H (by simp) (by simp)).mono ?_
  rintro e1 w1 ⟨rfl, hb1⟩
  rw [alive_late.1, alive_late.2]
  have hb : Below w.heap.size w w1 := below_next ((Below.refl _ w).alloc (Nat.le_refl _) _) (by simp) hb1
  go_wp2
  go_ret
  exact ⟨rfl, hb⟩
end Go.Proofs.Ytbdgifngldipcaa
