/- LoadOne: one load alone is as late as it has bits; of two each waits for the other. -/
import Derived.Test.YtbdgifngldipcaaLoadC
import Derived.Test.YtbdgifngldipcaaFrame
namespace Go.Proofs.Ytbdgifngldipcaa
open Go.ChangeShapes Go.WideShapes Go.ChangeAt Go.RowKit
open LP (Ld okB rightB mx ah needF lateF)

theorem one_right {a t : Int} (ha1 : 1 ≤ a) (ha2 : a ≤ 200) (ht1 : 1000 ≤ t) (ht2 : t ≤ 1000000) : okB (a, t) = true := by
  simp only [okB, decide_eq_true_eq]; omega

theorem one_late {a t : Int} (ha1 : 1 ≤ a) (ha2 : a ≤ 200) (ht1 : 1000 ≤ t) (ht2 : t ≤ 1000000) : lateV [(a, t)] 0 = a ∧ lateE [(a, t)] 0 = 0 := by
  have hr : rightB [(a, t)] = true := by simp [rightB, one_right ha1 ha2 ht1 ht2]
  have hn : ∀ m, needF [(a, t)] 0 m = a := fun m => by simp [needF, mx, ah]
  have h : lateF [(a, t)] 0 = a := LP.lateF_eq (.inr ⟨ha1, by omega, by rw [hn]; omega, fun m _ b => by rw [hn]; exact b⟩)
  constructor
  · unfold lateV; rw [if_pos ⟨hr, by decide, by simp⟩]; exact h
  · unfold lateE; rw [if_pos ⟨hr, by decide, by simp⟩]; show (if lateF [(a, t)] 0 = 0 then (41 : Int) else 0) = 0; rw [h, if_neg (by omega)]

theorem two_late0 {a b t : Int} (ha1 : 1 ≤ a) (ha2 : a ≤ 200) (hb1 : 1 ≤ b) (hb2 : b ≤ 200) : lateF [(a, t), (b, t)] 0 = a + b := by
  have hn : ∀ m, needF [(a, t), (b, t)] 0 m = a + b := fun m => by simp [needF, mx, ah]; omega
  exact LP.lateF_eq (.inr ⟨by omega, by omega, by rw [hn]; omega, fun m _ b => by rw [hn]; exact b⟩)

theorem two_late1 {a b t : Int} (ha1 : 1 ≤ a) (ha2 : a ≤ 200) (hb1 : 1 ≤ b) (hb2 : b ≤ 200) (ht1 : 1000 ≤ t) : lateF [(a, t), (b, t)] 1 = a + b := by
  have hn : ∀ m, 1 ≤ m → m ≤ 400 → needF [(a, t), (b, t)] 1 m = a + b := fun m h1 h2 => by
    have e : (m + t - 1) / t = 1 := by
      rw [show m + t - 1 = (m - 1) + 1 * t by omega, Int.add_mul_ediv_right _ _ (by omega), Int.ediv_eq_zero_of_lt (by omega) (by omega)]; rfl
    simp [needF, mx, ah, e]; omega
  exact LP.lateF_eq (.inr ⟨by omega, by omega, by rw [hn _ (by omega) (by omega)]; omega, fun m c d => by rw [hn _ c (by omega)]; exact d⟩)

theorem two_all {a b t : Int} (ha1 : 1 ≤ a) (ha2 : a ≤ 200) (hb1 : 1 ≤ b) (hb2 : b ≤ 200) (ht1 : 1000 ≤ t) (ht2 : t ≤ 1000000) :
    rightB [(a, t), (b, t)] = true ∧ lateV [(a, t), (b, t)] 0 = a + b ∧ lateE [(a, t), (b, t)] 0 = 0 ∧ lateV [(a, t), (b, t)] 1 = a + b ∧ lateE [(a, t), (b, t)] 1 = 0 ∧ fitsB [(a, t), (b, t)] = true := by
  have hr : rightB [(a, t), (b, t)] = true := by simp [rightB, one_right ha1 ha2 ht1 ht2, one_right hb1 hb2 ht1 ht2]
  have h0 := two_late0 (t := t) ha1 ha2 hb1 hb2
  have h1 := two_late1 ha1 ha2 hb1 hb2 ht1
  refine ⟨hr, ?_, ?_, ?_, ?_, fits_yes (fun k hk => ?_)⟩
  · unfold lateV; rw [if_pos ⟨hr, by decide, by simp⟩]; exact h0
  · unfold lateE; rw [if_pos ⟨hr, by decide, by simp⟩]; show (if lateF [(a, t), (b, t)] 0 = 0 then (41 : Int) else 0) = 0; rw [h0, if_neg (by omega)]
  · unfold lateV; rw [if_pos ⟨hr, by decide, by simp⟩]; exact h1
  · unfold lateE; rw [if_pos ⟨hr, by decide, by simp⟩]; show (if lateF [(a, t), (b, t)] 1 = 0 then (41 : Int) else 0) = 0; rw [h1, if_neg (by omega)]
  · have hk' : k = 0 ∨ k = 1 := by simp at hk; omega
    rcases hk' with rfl | rfl
    · unfold fitB; rw [h0]; simp; omega
    · unfold fitB; rw [h1]; simp; omega

set_option maxRecDepth 100000 in
set_option maxHeartbeats 400000 in
theorem loadOne_walk (a0 : Int) (a1 : Int) (a2 : Int) (w : World) :
    Calls Try.prog 4 #[.int .i64 a0, .int .i64 a1, .int .i64 a2] w fun e w' => e = .returned (.bool true) ∧ Below w.heap.size w w' := by
  obtain ⟨m0, e0, r0⟩ := run_max (P := Try.prog) a0 1
  obtain ⟨a, e0', r0'⟩ := run_min (P := Try.prog) m0 200
  obtain ⟨m1, e1, r1⟩ := run_max (P := Try.prog) a1 1
  obtain ⟨b, e1', r1'⟩ := run_min (P := Try.prog) m1 200
  obtain ⟨m2, e2, r2⟩ := run_max (P := Try.prog) a2 1000
  obtain ⟨t, e2', r2'⟩ := run_min (P := Try.prog) m2 1000000
  have ha : 1 ≤ a ∧ a ≤ 200 := by omega
  have hb : 1 ≤ b ∧ b ≤ 200 := by omega
  have ht : 1000 ≤ t ∧ t ≤ 1000000 := by omega
  clear e0 e0' e1 e1' e2 e2'
  obtain ⟨ha1, ha2⟩ := ha
  obtain ⟨hb1, hb2⟩ := hb
  obtain ⟨ht1, ht2⟩ := ht
  go_enter Try.func4, Try.ntmps4
  go_wp2_with fail
  have R1 := LdR.new w [(a, t)]
  refine (Late_any [(a, t)] _ 1 0 _ R1 (by simp) (by simp)).mono ?_
  rintro e1 w1 ⟨rfl, q1⟩
  rw [(one_late ha1 ha2 ht1 ht2).1, (one_late ha1 ha2 ht1 ht2).2]
  have q1' : Below w.heap.size w w1 := below_next ((Below.refl _ w).alloc (Nat.le_refl _) _) (by simp) q1
  clear q1 R1
  have K := hide (two_all ha1 ha2 hb1 hb2 ht1 ht2)
  go_wp2_with fail
  have R2 := LdR.new w1 [(a, t), (b, t)]
  refine (Late_any [(a, t), (b, t)] _ 2 0 _ R2 (by simp) (by simp)).mono ?_
  rintro e2 w2 ⟨rfl, q2⟩
  rw [K.out.2.1, K.out.2.2.1]
  have q2' : Below w.heap.size w w2 := below_next (q1'.alloc q1'.size _) (q1'.alloc q1'.size _).size q2
  have R3 : LdR w2 w2.heap.size (some ⟨w1.heap.size, 0, none⟩) [(a, t), (b, t)] := LdR.next R2 q2 q2.size
  clear q2 R2
  go_wp2_with fail
  refine (Late_any [(a, t), (b, t)] _ 2 1 w2 R3 (by simp) (by simp)).mono ?_
  rintro e3 w3 ⟨rfl, q3⟩
  rw [K.out.2.2.2.1, K.out.2.2.2.2.1]
  have q3' : Below w.heap.size w w3 := below_next q2' q2'.size q3
  have R4 : LdR w3 w3.heap.size (some ⟨w1.heap.size, 0, none⟩) [(a, t), (b, t)] := LdR.next R3 q3 q3.size
  clear q3 R3
  go_wp2_with fail
  refine (Fits_ok [(a, t), (b, t)] _ 2 w3 R4 K.out.1 (by simp)).mono ?_
  rintro e4 w4 ⟨rfl, q4⟩
  rw [K.out.2.2.2.2.2]
  have q4' : Below w.heap.size w w4 := below_next q3' q3'.size q4
  clear q4 R4
  go_wp2_with fail
  refine (alive22_any w4).mono ?_
  rintro e5 w5 ⟨rfl, q5⟩
  have q5' : Below w.heap.size w w5 := below_next q4' q4'.size q5
  clear q5
  go_wp2
  go_ret
  exact ⟨rfl, q5'⟩

set_option maxRecDepth 100000 in
theorem loadOne_lifted (os : Os) (started : os.Started) (H : Type) (enc : TypeId × Value → H) :
    ReturnsInHanded {} Try.checked os 4 .any (Rows.loadOneSpec.pre6 enc Try.prog Try.f4 Rows.loadOneRow.domain false) (Rows.loadOneSpec.post enc Try.prog Try.f4 false true false false) := by
  refine returnsInHanded_of_change (C := Try.checked) ownK started (by kernel_rfl) Try.func4
    (ChangeSpec.witness6 (enc := enc) (C := Try.checked) false ⟨#[], #[.int .i64 0, .int .i64 0, .int .i64 0], []⟩ 8 (by kernel_rfl) (by kernel_rfl) (by kernel_rfl) (by kernel_rfl)) ?_
  intro W base args ds gs before hval0 hW hcnd _
  have hval : ∀ (j : Nat) t v, Try.f4.params[j]? = some t → args[j]? = some v → Value.okWide Try.prog W .any base t v := hval0
  have hW' := hW
  obtain ⟨p, q, hA0, hV, rfl, hfz, hnd⟩ := hW
  have hA : DataW.TrodAll enc Try.prog W 0 (fun _ => true) true Try.f4.params.toList args.toList ds p := hA0
  rw [Try.params4] at hA hval
  obtain ⟨v0, vs0, d0, ds0, p0, q0, hargs, rfl, rfl, h0, r0⟩ := trodAll_cons hA
  obtain ⟨v1, vs1, d1, ds1, p1, q1, rfl, rfl, rfl, h1, r1⟩ := trodAll_cons r0
  obtain ⟨v2, vs2, d2, ds2, p2, q2, rfl, rfl, rfl, h2, r2⟩ := trodAll_cons r1
  obtain ⟨rfl, rfl, rfl⟩ := trodAll_nil r2
  obtain rfl : args = #[v0, v1, v2] := by cases args; simp_all
  obtain ⟨rfl, rfl⟩ := trodVars_none hV
  obtain ⟨a0, rfl, _, _, _⟩ := open_int Try.underlying3 (hval 0 3 v0 rfl rfl) h0
  obtain ⟨a1, rfl, _, _, _⟩ := open_int Try.underlying3 (hval 1 3 v1 rfl rfl) h1
  obtain ⟨a2, rfl, _, _, _⟩ := open_int Try.underlying3 (hval 2 3 v2 rfl rfl) h2
  refine (loadOne_walk a0 a1 a2 W).mono fun e W' ⟨he, hg⟩ => ?_
  subst he
  exact ⟨_, rfl, law_post laidOut rfl hW' (by kernel_rfl) rfl Try.underlying4 rfl rfl hg⟩

theorem loadOne_holds : Rows.LoadOneSaid :=
  OpenClaim.holds_of_wide 4 Try.f4 rfl rfl rfl rfl rfl rfl rfl ⟨rfl, rfl, rfl, rfl, rfl⟩ rfl rfl rfl rfl rfl (by kernel_rfl) Try.func4 (by kernel_rfl)
    (of_decide_eq_true (by kernel_rfl)) (by unfold Func.isWrapper; first | (rw [if_pos (by decide +kernel)]; kernel_rfl) | (rw [if_neg (by decide +kernel)]; exact ⟨rfl, rfl⟩))
    (fun os started H enc _ => loadOne_lifted os started H enc)
#print axioms loadOne_holds
end Go.Proofs.Ytbdgifngldipcaa
