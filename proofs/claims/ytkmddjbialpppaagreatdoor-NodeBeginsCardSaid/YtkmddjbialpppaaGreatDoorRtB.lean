import Derived.Test.YtkmddjbialpppaaGreatDoorMgNdY
namespace Go.Proofs.YtkmddjbialpppaaGreatDoor
open Go.ChangeShapes Go.WideShapes Go.ChangeAt Go.RowKit
open ND
set_option maxRecDepth 100000 in
set_option maxHeartbeats 16000000 in
theorem iY (n : Tv) (w : World) (hi : 0 ≤ n.id) (hm : 0 ≤ n.mask) : Calls Tryz.prog 8 #[.agg (bD n).toArray] w fun e w' => e = .returned (.bool (tvB n)) ∧ Below w.heap.size w w' := by
  obtain ⟨w0, hw0⟩ : ∃ w0, w0 = w.alloc (.cells (bD n).toArray 27) := ⟨_, rfl⟩
  have B := aA (World.alloc_heap_new w (.cells (bD n).toArray 27))
  have Q : Hid (Below w.heap.size w w0) := by rw [hw0]; exact aA ((Below.refl _ _).alloc (Nat.le_refl _) _)
  rw [← hw0] at B
  obtain ⟨r, hr⟩ : ∃ r, r = tvB n := ⟨_, rfl⟩
  rw [← hr]
  have HR := aA (show r = true ↔ tvP n by rw [hr]; unfold tvB; rw [decide_eq_true_iff])
  have WK := refWoken_any n
  obtain ⟨wk, hwk⟩ : ∃ wk, wk = n.woken := ⟨_, rfl⟩
  clear hr
  unfold tvP at HR
  rw [← hwk] at WK HR
  rw [mdB_iff] at HR
  clear hwk
  obtain ⟨sel, id, mask, ext, dlc, data, lim, mode, errs, bus, frm, loc, ovr⟩ := n
  obtain ⟨c0, c1, c2, c3, c4, c5, c6, c7, c8, c9, c10, c11, c12⟩ := dI B.out
  dsimp only at c0 c1 c2 c3 c4 c5 c6 c7 c8 c9 c10 c11 c12 HR hi hm
  unfold bD at WK
  dsimp only at WK
  clear B
  replace WK := aA WK
  cases ext
  all_goals
    first | rw [if_pos rfl] at HR | rw [if_neg Bool.false_ne_true] at HR
    go_enter Tryz.func8, Tryz.ntmps8
    go_upto_region 1 with fail
    change Code.wp _ _ _ _ (w.alloc (.cells (bD _).toArray 27))
    rw [← hw0]
    clear hw0
    go_upto_region 6 with fail
    all_goals (try (go_ret; exact ⟨aV (bI HR.out (by omega)), Q.out⟩))
    go_upto_region 8 with fail
    all_goals (try (go_ret; exact ⟨aV (bI HR.out (by omega)), Q.out⟩))
    rename_i h1 h2 h3 h4 h5 h6 h7 h8 h9 h10 h11 x1 x2 x3 x4
    have hm1 : 1 ≤ mode := h8
    have he0 : 0 ≤ errs := h10
    replace HR := aA (show r = true ↔ ((sel = true ∨ errs = 0 ∧ frm = false ∧ ovr = false) ∧ (mode ≠ 1 ∨ errs = 0 ∧ wk = false)) from HR.out.trans ⟨fun h => h.2.2, fun h => ⟨by omega, by omega, h⟩⟩)
    clear h1 h2 h3 h4 h5 h6 h7 h8 h9 h10 h11 hi hm
    cases sel
    · by_cases g20 : 0 < errs
      · clear WK
        go_wp2_with fail
        all_goals go_ret
        all_goals exact ⟨aV (bI HR.out (by first | omega | (simp; done) | (simp; omega))), Q.out⟩
      cases frm
      · cases ovr
        ·
          by_cases hm3 : 1 < mode
          · clear WK
            go_wp2_with fail
            go_ret
            exact ⟨aV (cA HR.out (by first | omega | (simp; done) | (simp; omega) | exact ⟨.inr ⟨by omega, rfl, rfl⟩, .inl (by omega)⟩)), Q.out⟩
          by_cases he : errs = 0
          · subst he
            have hm2 : mode = 1 := by omega
            subst hm2
            go_wp2_with fail
            (with_reducible refine (WK.out _).mono ?_)
            rintro e1 w1 ⟨rfl, q1⟩
            have Q1 := aA (aC Q.out Q.out.size q1)
            clear WK q1
            cases wk
            · go_wp2_with fail
              go_ret
              exact ⟨aV (cA HR.out (by first | (simp; done) | omega | (simp; omega))), Q1.out⟩
            · go_wp2_with fail
              go_ret
              exact ⟨aV (bI HR.out (by first | omega | (simp; done) | (simp; omega))), Q1.out⟩
          · omega
        · clear WK
          go_wp2_with fail
          all_goals go_ret
          all_goals exact ⟨aV (bI HR.out (by first | omega | (simp; done) | (simp; omega))), Q.out⟩
      · clear WK
        go_wp2_with fail
        all_goals go_ret
        all_goals exact ⟨aV (bI HR.out (by first | omega | (simp; done) | (simp; omega))), Q.out⟩
    ·
      by_cases hm3 : 1 < mode
      · clear WK
        go_wp2_with fail
        go_ret
        exact ⟨aV (cA HR.out (by first | omega | (simp; done) | (simp; omega) | exact ⟨.inl rfl, .inl (by omega)⟩)), Q.out⟩
      by_cases he : errs = 0
      · subst he
        have hm2 : mode = 1 := by omega
        subst hm2
        go_wp2_with fail
        (with_reducible refine (WK.out _).mono ?_)
        rintro e1 w1 ⟨rfl, q1⟩
        have Q1 := aA (aC Q.out Q.out.size q1)
        clear WK q1
        cases wk
        · go_wp2_with fail
          go_ret
          exact ⟨aV (cA HR.out (by first | (simp; done) | omega | (simp; omega))), Q1.out⟩
        · go_wp2_with fail
          go_ret
          exact ⟨aV (bI HR.out (by first | omega | (simp; done) | (simp; omega))), Q1.out⟩
      · clear WK
        go_wp2_with fail
        go_ret
        exact ⟨aV (bI HR.out (by first | omega | (simp; done) | (simp; omega))), Q.out⟩
end Go.Proofs.YtkmddjbialpppaaGreatDoor
