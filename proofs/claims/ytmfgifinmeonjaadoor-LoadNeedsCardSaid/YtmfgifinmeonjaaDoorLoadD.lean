/- The walks of package load: Need; and the reference's Right, few, alive of the statements' package. -/
import Derived.Test.YtmfgifinmeonjaaDoorLoadB
namespace Go.Proofs.YtmfgifinmeonjaaDoor
open Go.ChangeShapes Go.WideShapes Go.ChangeAt Go.RowKit
open LP (Ld okB rightB mx ah needF lateF)

/-- Need within, where at and within may be. -/
theorem Need_ok (l : List Ld) (A : Option Addr) (c : Nat) (k : Nat) (t : Int) (w : World) (hr : LdR w w.heap.size A l) (hR : rightB l = true) (hc : l.length ≤ c) (hk : k < l.length) (ht : 1 ≤ t) (ht2 : t ≤ 1000000) :
    Calls Tryd.prog 22 #[.slice A l.length c, .int .i64 k, .int .i64 t] w fun e w' => e = .returned (.tuple #[.int .i64 (needF l k t), .int .i64 0]) ∧ Below w.heap.size w w' := by
  have HR := LP.right_iff.1 hR
  have h16 := HR.1
  have HR := hide HR
  have R := hide (right_any l A c w hr (by omega))
  go_enter Tryd.func22, Tryd.ntmps22
  go_wp2_with fail
  refine R.out.mono ?_
  rintro e1 w1 ⟨rfl, hb1⟩
  go_wp2_with fail
  refine (need_any l A c k t w1 (hr.next hb1 hb1.size) HR h16 hc hk ht ht2).mono ?_
  rintro e2 w2 ⟨rfl, hb2⟩
  go_wp2
  go_ret2
  exact ⟨rfl, below_next hb1 hb1.size hb2⟩

/-! ### The statements' package -/
theorem few_any (A : Option Addr) (n c : Nat) (w : World) (hn : n ≤ c) (h : n ≤ maxLen) :
    Calls Tryd.prog 21 #[.slice A n c] w fun e w' => e = .returned (.slice A (min n 20) c) ∧ w = w' := by
  unfold maxLen at h
  by_cases h20 : n ≤ 20
  · have hr := run_to (P := Tryd.prog) 35 59 Tryd.underlying35 2 (fun W => by kernel_rfl) A n c n n rfl hn
    have E := hide (show min n 20 = n by omega)
    go_enter Tryd.func21, Tryd.ntmps21
    go_wp2
    go_ret
    exact ⟨by rw [E.out]; rfl, rfl⟩
  · have hr := run_to (P := Tryd.prog) 35 59 Tryd.underlying35 2 (fun W => by kernel_rfl) A n c 20 20 rfl (by omega)
    have E := hide (show min n 20 = 20 by omega)
    go_enter Tryd.func21, Tryd.ntmps21
    go_wp2
    go_ret
    exact ⟨by rw [E.out]; rfl, rfl⟩

theorem alive_late : lateV [(2, 5), (3, 9)] 1 = 5 ∧ lateE [(2, 5), (3, 9)] 1 = 0 := by
  have h : lateF [(2, 5), (3, 9)] 1 = 5 := LP.lateF_eq (.inr ⟨by decide, by decide, by decide, fun m a b => by
    have : m = 1 ∨ m = 2 ∨ m = 3 ∨ m = 4 := by omega
    rcases this with rfl | rfl | rfl | rfl <;> decide⟩)
  have hr : rightB [((2 : Int), (5 : Int)), (3, 9)] = true := by decide
  constructor
  · unfold lateV; rw [if_pos ⟨hr, by decide, by decide⟩]; exact h
  · unfold lateE; rw [if_pos ⟨hr, by decide, by decide⟩]; show (if lateF _ 1 = 0 then (41 : Int) else 0) = 0; rw [h]; rfl

theorem alive22_any (w : World) : Calls Tryd.prog 19 #[] w fun e w' => e = .returned (.bool true) ∧ Below w.heap.size w w' := by
  go_enter Tryd.func19, Tryd.ntmps19
  go_wp2_with fail
  have H : LdR (w.alloc (.cells #[.int .i64 2, .int .i64 5, .int .i64 3, .int .i64 9] 59)) (w.alloc (.cells #[.int .i64 2, .int .i64 5, .int .i64 3, .int .i64 9] 59)).heap.size (some ⟨w.heap.size, 0, none⟩) [(2, 5), (3, 9)] := LdR.new w [(2, 5), (3, 9)]
  refine (Late_any [(2, 5), (3, 9)] _ 2 1 _ H (by simp) (by simp)).mono ?_
  rintro e1 w1 ⟨rfl, hb1⟩
  rw [alive_late.1, alive_late.2]
  have hb : Below w.heap.size w w1 := below_next ((Below.refl _ w).alloc (Nat.le_refl _) _) (by simp) hb1
  go_wp2
  go_ret
  exact ⟨rfl, hb⟩

theorem bad_iff (a b : Int) : okB (a, b) = true ↔ (1 ≤ a ∧ a ≤ 200 ∧ 1 ≤ b ∧ b ≤ 1000000) := by simp [okB]

set_option maxRecDepth 100000 in
set_option maxHeartbeats 400000 in
theorem refRight_any (l : List Ld) (A : Option Addr) (c : Nat) (w : World) (hr : LdR w w.heap.size A l) (hl : l.length ≤ 1000) :
    Calls Tryd.prog 25 #[.slice A l.length c] w fun e w' => e = .returned (.bool (rightB l)) ∧ Below w.heap.size w w' := by
  go_enter Tryd.func25, Tryd.ntmps25
  go_wp2
  go_loopw [7] (fun i wr => ∃ k : Nat, k ≤ l.length ∧ i = .int .i64 k ∧ Hid (∀ x ∈ l.take k, okB x = true) ∧ Below w.heap.size w wr) (fun i _ => l.length - (intOf i).toNat)
  case atStart => exact ⟨0, Nat.zero_le _, rfl, hide (by simp), Below.refl _ _⟩
  case round =>
    obtain ⟨k, hk, rfl, hinv, hbl⟩ := hrel
    have hsz := hbl.size
    by_cases hlt : k < l.length
    · obtain ⟨b, off, rfl, hbs, h1, h2⟩ := hr.at_ hlt
      obtain ⟨xa, xb, hx0⟩ : ∃ a b, l[k] = (a, b) := ⟨_, _, rfl⟩
      rw [hx0] at h1 h2
      have h1' := cellBelow hbl hbs h1
      have h2' := cellBelow hbl hbs h2
      clear h1 h2
      have hbx := bad_iff xa xb
      by_cases hx : okB (xa, xb) = true
      · have hT := hide (show ∀ x ∈ l.take (k + 1), okB x = true by
          intro x hx'
          rw [List.take_succ_eq_append_getElem hlt, List.mem_append] at hx'
          rcases hx' with hx' | hx'
          · exact hinv.out x hx'
          · rw [List.mem_singleton.1 hx', hx0]; exact hx)
        obtain ⟨i1, i2, i3, i4⟩ := hbx.1 hx
        clear hx0 hbx hx
        go_wp2
        go_roundw
        case rel => exact ⟨k + 1, by omega, by go_num, hT, hbl.alloc hsz _⟩
        case measure => simp [intOf]; omega
      · have hF := hide (show rightB l = false by
          unfold rightB
          rw [Bool.and_eq_false_iff]
          exact .inr (List.all_eq_false.2 ⟨l[k], List.getElem_mem hlt, by rw [hx0]; exact hx⟩))
        have hnx : ¬ (1 ≤ xa ∧ xa ≤ 200 ∧ 1 ≤ xb ∧ xb ≤ 1000000) := fun h => hx (hbx.2 h)
        clear hx0 hbx hx
        have hn4 : xa < 1 ∨ 200 < xa ∨ xb < 1 ∨ 1000000 < xb := by omega
        clear hnx
        by_cases c1 : xa < 1
        · clear hn4
          go_wp2
          go_ret
          exact ⟨by rw [hF.out]; rfl, hbl.alloc hsz _⟩
        · by_cases c2 : 200 < xa
          · clear hn4
            go_wp2
            go_ret
            exact ⟨by rw [hF.out]; rfl, hbl.alloc hsz _⟩
          · by_cases c3 : xb < 1
            · clear hn4
              go_wp2
              go_ret
              exact ⟨by rw [hF.out]; rfl, hbl.alloc hsz _⟩
            · have c4 : 1000000 < xb := by omega
              clear hn4
              go_wp2
              go_ret
              exact ⟨by rw [hF.out]; rfl, hbl.alloc hsz _⟩
    · have hT := hide (show rightB l = decide ((l.length : Int) ≤ 16) by
        have : l.take k = l := List.take_of_length_le (by omega)
        have h2 := hinv.out
        rw [this] at h2
        unfold rightB
        rw [List.all_eq_true.2 h2, Bool.and_true, decide_eq_decide]
        omega)
      go_wp2
      go_ret
      exact ⟨by rw [hT.out]; rfl, hbl⟩

end Go.Proofs.YtmfgifinmeonjaaDoor
