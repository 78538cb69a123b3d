/- The walks of the reference's times, Need and Late of loads; load.Need at every argument. -/
import Derived.Test.YtmfgifinmeonjaaDoorLoadD
import Derived.Test.YtmfgifinmeonjaaDoorOwS
namespace Go.Proofs.YtmfgifinmeonjaaDoor
open Go.ChangeShapes Go.WideShapes Go.ChangeAt Go.RowKit
open LP (Ld okB rightB mx ah needF lateF LateIs)

theorem cell_of_blk {W : World} {B j : Nat} {cs : Array Value} {t : TypeId} {fz : Nat × Nat} {v : Value} (h : W.heap[B]? = some (.cells cs t fz)) (hv : cs[j]? = some v) : W.cell? ⟨B, j, none⟩ = some v := by
  simp only [World.cell?, h, Nat.add_zero]
  exact hv
theorem times_eq (t e : Int) (he : 1 ≤ e) : (t + e - 1) / e = if t / e * e < t then t / e + 1 else t / e := by
  have h1 := Int.emod_add_mul_ediv t e
  have h2 := Int.emod_nonneg t (show e ≠ 0 by omega)
  have h3 := Int.emod_lt_of_pos t (show 0 < e by omega)
  rw [Int.mul_comm] at h1
  split
  · rename_i h
    have : t + e - 1 = (t % e - 1) + (t / e + 1) * e := by rw [Int.add_mul]; omega
    rw [this, Int.add_mul_ediv_right _ _ (by omega), Int.ediv_eq_zero_of_lt (by omega) (by omega)]
    omega
  · rename_i h
    have : t + e - 1 = (e - 1) + t / e * e := by omega
    rw [this, Int.add_mul_ediv_right _ _ (by omega), Int.ediv_eq_zero_of_lt (by omega) (by omega)]
    omega

set_option maxRecDepth 100000 in
theorem refTimes_any (t e : Int) (w : World) (ht : 1 ≤ t) (ht2 : t ≤ 1000000) (he : 1 ≤ e) (he2 : e ≤ 1000000) :
    Calls Tryd.prog 46 #[.int .i64 t, .int .i64 e] w fun x w' => x = .returned (.int .i64 ((t + e - 1) / e)) ∧ w = w' := by
  have E := hide (times_eq t e he)
  have q0 : 0 ≤ t / e := Int.ediv_nonneg (by omega) (by omega)
  have q1 : t / e ≤ 1000000 := by
    have := Int.ediv_le_self e (show 0 ≤ t by omega)
    omega
  have q2 : 0 ≤ t / e * e := Int.mul_nonneg q0 (by omega)
  have q3 : t / e * e ≤ t := Int.ediv_mul_le t (by omega)
  have hne : (e == 0) = false := by rw [beq_eq_false_iff_ne]; omega
  have hdv : t.tdiv e = t / e := Int.tdiv_eq_ediv_of_nonneg (by omega)
  by_cases hlt : t / e * e < t
  · rw [E.out, if_pos hlt]
    clear E
    generalize t / e = q at *
    go_enter Tryd.func46, Tryd.ntmps46
    go_wp2
    go_ret
    exact ⟨rfl, rfl⟩
  · rw [E.out, if_neg hlt]
    clear E
    go_enter Tryd.func46, Tryd.ntmps46
    go_wp2
    go_ret
    exact ⟨rfl, rfl⟩

/-- What the reference has added up, and the longest behind, ahead of the i-th. -/
def nTo (l : List Ld) (k : Nat) (t : Int) (i : Nat) : Int := (l.getD k (0, 0)).1 + ah t (l.take (min i k))
def bTo (l : List Ld) (k i : Nat) : Int := mx ((l.take i).drop (k + 1))
theorem need_to (l : List Ld) (k : Nat) (t : Int) (hk : k < l.length) : nTo l k t l.length + bTo l k l.length = needF l k t := by
  unfold nTo bTo needF
  rw [Nat.min_eq_right (by omega), List.take_of_length_le (Nat.le_refl _)]
  omega
theorem nTo_lt {l : List Ld} {k i : Nat} {t : Int} (hi : i < k) (hk : k < l.length) : nTo l k t (i + 1) = nTo l k t i + stepF t (l[i]'(by omega)) := by
  unfold nTo
  rw [Nat.min_eq_left (by omega), Nat.min_eq_left (by omega), List.take_succ_eq_append_getElem (by omega), LP.ah_append]
  simp only [ah, stepF]
  omega
theorem nTo_ge {l : List Ld} {k i : Nat} {t : Int} (hi : k ≤ i) : nTo l k t (i + 1) = nTo l k t i := by
  unfold nTo
  rw [Nat.min_eq_right (by omega), Nat.min_eq_right (by omega)]
theorem bTo_le {l : List Ld} {k i : Nat} (hi : i ≤ k) : bTo l k (i + 1) = bTo l k i := by
  unfold bTo
  rw [List.drop_of_length_le (by rw [List.length_take]; omega), List.drop_of_length_le (by rw [List.length_take]; omega)]
theorem bTo_gt {l : List Ld} {k i : Nat} (hi : k < i) (hl : i < l.length) (h : ∀ x ∈ l, okB x = true) : bTo l k (i + 1) = max (bTo l k i) l[i].1 := by
  unfold bTo
  rw [List.take_succ_eq_append_getElem hl, List.drop_append_of_le_length (by rw [List.length_take]; omega)]
  exact mx_snoc' _ (fun x hx => h x (List.mem_of_mem_take (List.mem_of_mem_drop hx))) _ (h _ (List.getElem_mem hl))
theorem nTo_bd {l : List Ld} (h : LP.Right l) {k : Nat} (hk : k < l.length) {t : Int} (ht : 1 ≤ t) (ht2 : t ≤ 1000000) (i : Nat) : 1 ≤ nTo l k t i ∧ nTo l k t i ≤ 4000000000 := by
  have h1 := h.2 _ (LP.getD_mem hk)
  simp only [okB, decide_eq_true_eq] at h1
  have h3 := LP.ah_bd (l.take (min i k)) (fun x hx => h.2 x (List.mem_of_mem_take hx)) t ht
  have h4 : ((l.take (min i k)).length : Int) * (t * 200) ≤ 16 * (t * 200) := by
    apply Int.mul_le_mul_of_nonneg_right _ (by omega)
    have := h.1; rw [List.length_take]; omega
  unfold nTo
  omega
theorem bTo_bd {l : List Ld} (h : LP.Right l) (k i : Nat) : 0 ≤ bTo l k i ∧ bTo l k i ≤ 200 :=
  LP.mx_nonneg _ (fun x hx => h.2 x (List.mem_of_mem_take (List.mem_of_mem_drop hx)))

set_option maxRecDepth 100000 in
set_option maxHeartbeats 2000000 in
theorem refNeed_any (l : List Ld) (A : Option Addr) (c : Nat) (k : Nat) (t : Int) (w : World) (hr : LdR w w.heap.size A l) (hR : Hid (LP.Right l)) (hl : l.length ≤ 16) (hc : l.length ≤ c) (hk : k < l.length) (ht : 1 ≤ t) (ht2 : t ≤ 1000000) :
    Calls Tryd.prog 26 #[.slice A l.length c, .int .i64 k, .int .i64 t] w fun e w' => e = .returned (.int .i64 (needF l k t)) ∧ Below w.heap.size w w' := by
  obtain ⟨b1, o1, rfl, hb1, hc1, _⟩ := hr.at_ hk
  have NT := hide (need_to l k t hk)
  have hgd : l.getD k (0, 0) = l[k] := by simp [hk]
  have N0 := hide (show nTo l k t 0 = l[k].1 by unfold nTo; rw [Nat.zero_min, List.take_zero, hgd]; simp [ah])
  have B0 := hide (show bTo l k 0 = 0 by unfold bTo; simp [mx])
  have hx1 := hR.out.2 l[k] (List.getElem_mem hk)
  simp only [okB, decide_eq_true_eq] at hx1
  have hk' : (k : Int) < l.length := by omega
  clear hgd
  go_enter Tryd.func26, Tryd.ntmps26
  go_wp2_with fail
  go_loopw [7, 8, 18] (fun vn vb vi W => ∃ i : Nat, i ≤ l.length ∧ vi = .int .i64 i ∧ vn = .int .i64 (nTo l k t i) ∧ vb = .int .i64 (bTo l k i) ∧ Below w.heap.size w W) (fun _ _ vi _ => l.length - (intOf vi).toNat)
  case atStart => exact ⟨0, Nat.zero_le _, rfl, by rw [N0.out], by rw [B0.out], Below.refl _ _⟩
  case round =>
    obtain ⟨i, hi, rfl, rfl, rfl, q⟩ := hrel
    obtain ⟨n1, n2⟩ := nTo_bd hR.out hk ht ht2 i
    obtain ⟨m1, m2⟩ := bTo_bd hR.out k i
    by_cases hlt : i < l.length
    · obtain ⟨b, off, e, hbs, d1, d2⟩ := hr.at_ hlt
      cases e
      have d1' := cellBelow q hbs d1
      have d2' := cellBelow q hbs d2
      clear d1 d2
      have hx := hR.out.2 l[i] (List.getElem_mem hlt)
      simp only [okB, decide_eq_true_eq] at hx
      obtain ⟨x1, x2, x3, x4⟩ := hx
      have qa : Below w.heap.size w (wr.alloc (.cells #[.int .i64 l[i].1, .int .i64 l[i].2] 59)) := q.alloc q.size _
      have BN := hide (World.alloc_heap_new wr (.cells #[.int .i64 l[i].1, .int .i64 l[i].2] 59))
      by_cases hik : i < k
      · have NX := hide (nTo_lt (t := t) hik hk)
        have BX := hide (bTo_le (l := l) (show i ≤ k by omega))
        have TM := hide (fun W => refTimes_any t l[i].2 W ht ht2 x3 x4)
        have sp : 0 ≤ (t + l[i].2 - 1) / l[i].2 := Int.ediv_nonneg (by omega) (by omega)
        have hs1 := LP.step_pos t l[i].2 l[i].1 x3 x1 ht
        have hs2 := LP.step_le t l[i].2 l[i].1 x3 x1 x2 ht
        have hs3 : (t + l[i].2 - 1) / l[i].2 * l[i].1 ≤ 200000000 := by omega
        have hik' : (i : Int) < k := by omega
        have SF := hide (show stepF t l[i] = (t + l[i].2 - 1) / l[i].2 * l[i].1 from rfl)
        clear hs2
        generalize (t + l[i].2 - 1) / l[i].2 = tm at *
        generalize l[i].1 = xb at *
        generalize l[i].2 = xe at *
        go_wp2_with fail
        have hlt3 : wr.heap.size < (wr.alloc (.cells #[.int .i64 xb, .int .i64 xe] 59)).heap.size := by simp
        have b0 : (wr.alloc (.cells #[.int .i64 xb, .int .i64 xe] 59)).cell? ⟨wr.heap.size, 0, none⟩ = some (.int .i64 xb) := cell_of_blk (j := 0) BN.out rfl
        have b1' : (wr.alloc (.cells #[.int .i64 xb, .int .i64 xe] 59)).cell? ⟨wr.heap.size, 1, none⟩ = some (.int .i64 xe) := cell_of_blk (j := 1) BN.out rfl
        generalize wr.alloc (.cells #[.int .i64 xb, .int .i64 xe] 59) = wa at *
        have m0 := fun s : InW wa => s.cell hlt3 b0
        have m1 := fun s : InW wa => s.cell hlt3 b1'
        refine wp_region_tame (by kernel_rfl) (by kernel_rfl) ?_
        repeat (go_big_quiet_step ((go_at_call 46; exact tame_same (TM.out _))))
        refine wpQuiet_nil ?_
        rintro _ ⟨sw, rfl⟩
        have Q := hide (below_next qa qa.size sw.h)
        have hik2 : ¬ (k : Int) < i := by omega
        clear m0 m1
        go_wp2_with fail
        go_roundw
        case rel => exact ⟨i + 1, by omega, by go_num, by rw [NX.out, SF.out], by rw [BX.out], Q.out⟩
        case measure => simp [intOf]; omega
      · have NX := hide (nTo_ge (l := l) (t := t) (show k ≤ i by omega))
        have hik' : ¬ (i : Int) < k := by omega
        by_cases hki : k < i
        · have BX := hide (bTo_gt hki hlt hR.out.2)
          have hki' : (k : Int) < i := by omega
          by_cases hg : bTo l k i < l[i].1
          · have BY := hide (show bTo l k (i + 1) = l[i].1 by rw [BX.out]; omega)
            generalize l[i].1 = xb at *
            generalize l[i].2 = xe at *
            go_wp2_with fail
            go_roundw
            case rel => exact ⟨i + 1, by omega, by go_num, by rw [NX.out], by rw [BY.out], qa⟩
            case measure => simp [intOf]; omega
          · have BY := hide (show bTo l k (i + 1) = bTo l k i by rw [BX.out]; omega)
            have hg' : decide (bTo l k i < l[i].1) = false := decide_eq_false hg
            generalize l[i].1 = xb at *
            generalize l[i].2 = xe at *
            go_wp2_with fail
            go_roundw
            case rel => exact ⟨i + 1, by omega, by go_num, by rw [NX.out], by rw [BY.out], qa⟩
            case measure => simp [intOf]; omega
        · have BX := hide (bTo_le (l := l) (show i ≤ k by omega))
          have hki' : ¬ (k : Int) < i := by omega
          have hki'' : decide ((k : Int) < i) = false := decide_eq_false hki'
          generalize l[i].1 = xb at *
          generalize l[i].2 = xe at *
          go_wp2_with fail
          go_roundw
          case rel => exact ⟨i + 1, by omega, by go_num, by rw [NX.out], by rw [BX.out], qa⟩
          case measure => simp [intOf]; omega
    · obtain rfl : i = l.length := by omega
      go_wp2_with fail
      go_ret
      exact ⟨by rw [← NT.out]; rfl, q⟩

def rlV (l : List Ld) (k : Nat) : Int := if 1 ≤ lateF l k ∧ lateF l k ≤ 3000 then lateF l k else 0

set_option maxRecDepth 100000 in
set_option maxHeartbeats 1000000 in
theorem refLate_any (l : List Ld) (A : Option Addr) (c : Nat) (k : Nat) (w : World) (hr : LdR w w.heap.size A l) (hR : Hid (LP.Right l)) (hl : l.length ≤ 16) (hc : l.length ≤ c) (hk : k < l.length) :
    Calls Tryd.prog 27 #[.slice A l.length c, .int .i64 k, .int .i64 3000] w fun e w' => e = .returned (.int .i64 (rlV l k)) ∧ Below w.heap.size w w' := by
  have V := hide (show rlV l k = if 1 ≤ lateF l k ∧ lateF l k ≤ 3000 then lateF l k else 0 from rfl)
  generalize rlV l k = rv at *
  go_enter Tryd.func27, Tryd.ntmps27
  go_wp2_with fail
  go_loopw [7] (fun v W => ∃ n : Nat, v = .int .i64 n ∧ 1 ≤ n ∧ n ≤ 3001 ∧ Hid (∀ m : Int, 1 ≤ m → m < n → m < needF l k m) ∧ Below w.heap.size w W) (fun v _ => 3001 - (intOf v).toNat)
  case atStart => exact ⟨1, rfl, by omega, by omega, hide (fun m a b => by omega), Below.refl _ _⟩
  case round =>
    obtain ⟨n, rfl, hn1, hn2, hinv, q⟩ := hrel
    by_cases hlt : n ≤ 3000
    · have N := hide (refNeed_any l A c k n wr (hr.next q q.size) hR hl hc hk (by omega) (by omega))
      have hlt' : (n : Int) ≤ 3000 := by omega
      by_cases hd : needF l k n ≤ n
      · have hE := LP.lateF_eq (.inr ⟨by omega, by omega, hd, hinv.out⟩ : LateIs l k n)
        have HV := hide (show rv = n by rw [V.out, hE, if_pos (by omega)])
        generalize needF l k n = nf at *
        clear hinv hE
        go_wp2_with fail
        refine N.out.mono ?_
        rintro e1 w1 ⟨rfl, q1⟩
        go_wp2_with fail
        go_ret
        exact ⟨by rw [HV.out]; rfl, below_next q q.size q1⟩
      · have HI := hide (show ∀ m : Int, 1 ≤ m → m < ((n + 1 : Nat) : Int) → m < needF l k m from fun m a b => by
          by_cases e : m = n
          · subst e; omega
          · exact hinv.out m a (by omega))
        generalize needF l k n = nf at *
        clear hinv
        go_wp2_with fail
        refine N.out.mono ?_
        rintro e1 w1 ⟨rfl, q1⟩
        go_wp2_with fail
        go_roundw
        case rel => exact ⟨n + 1, by go_num, by omega, by omega, HI, below_next q q.size q1⟩
        case measure => simp [intOf]; omega
    · have HV := hide (show rv = 0 by
        rw [V.out, if_neg]
        rintro ⟨a, b⟩
        rcases LP.lateF_is l k with ⟨e, _⟩ | ⟨_, _, h3, _⟩
        · omega
        · have := hinv.out _ a (by omega); omega)
      have hlt' : ¬ (n : Int) ≤ 3000 := by omega
      go_wp2_with fail
      go_ret
      exact ⟨by rw [HV.out]; rfl, q⟩

/-- What Need answers at every argument. -/
def needOk (l : List Ld) (i t : Int) : Bool := rightB l && (decide (0 ≤ i ∧ i < l.length) && decide (1 ≤ t ∧ t ≤ 1000000))
def nV (l : List Ld) (i t : Int) : Int := if needOk l i t then needF l i.toNat t else 0
def nE (l : List Ld) (i t : Int) : Int := if needOk l i t then 0 else 1

set_option maxRecDepth 100000 in
set_option maxHeartbeats 1000000 in
theorem Need_all (l : List Ld) (A : Option Addr) (c : Nat) (i t : Int) (w : World) (hr : LdR w w.heap.size A l) (hl : l.length ≤ 1000) (hc : l.length ≤ c) :
    Calls Tryd.prog 22 #[.slice A l.length c, .int .i64 i, .int .i64 t] w fun e w' => e = .returned (.tuple #[.int .i64 (nV l i t), .int .i64 (nE l i t)]) ∧ Below w.heap.size w w' := by
  cases hok : needOk l i t with
  | true =>
    have h := hok
    unfold needOk at h
    simp only [Bool.and_eq_true, decide_eq_true_eq] at h
    obtain ⟨h1, ⟨h2, h3⟩, h4, h5⟩ := h
    obtain ⟨k, rfl⟩ := Int.eq_ofNat_of_zero_le h2
    have e1 : nV l k t = needF l k t := by unfold nV; rw [hok]; simp
    have e2 : nE l k t = 0 := by unfold nE; rw [hok]; rfl
    rw [e1, e2]
    exact Need_ok l A c k t w hr h1 hc (by omega) h4 h5
  | false =>
    have e1 : nV l i t = 0 := by unfold nV; rw [hok]; rfl
    have e2 : nE l i t = 1 := by unfold nE; rw [hok]; rfl
    rw [e1, e2]
    have R := hide (right_any l A c w hr hl)
    have h := hok
    unfold needOk at h
    clear e1 e2 hok
    cases hb : rightB l with
    | false =>
      rw [hb] at R
      clear hb h
      go_enter Tryd.func22, Tryd.ntmps22
      go_wp2_with fail
      refine R.out.mono ?_
      rintro e1 w1 ⟨rfl, hb1⟩
      go_wp2_with fail
      go_ret2
      exact ⟨rfl, hb1⟩
    | true =>
      rw [hb] at R h
      clear hb
      rw [Bool.true_and] at h
      by_cases h0 : 0 ≤ i
      · by_cases h1 : i < l.length
        · rw [decide_eq_true (show 0 ≤ i ∧ i < (l.length : Int) from ⟨h0, h1⟩), Bool.true_and, decide_eq_false_iff_not] at h
          by_cases h2 : 1 ≤ t
          · have h3 : ¬ t ≤ 1000000 := fun x => h ⟨h2, x⟩
            clear h
            go_enter Tryd.func22, Tryd.ntmps22
            go_wp2_with fail
            refine R.out.mono ?_
            rintro e1 w1 ⟨rfl, hb1⟩
            go_wp2_with fail
            go_ret2
            exact ⟨rfl, hb1⟩
          · clear h
            go_enter Tryd.func22, Tryd.ntmps22
            go_wp2_with fail
            refine R.out.mono ?_
            rintro e1 w1 ⟨rfl, hb1⟩
            go_wp2_with fail
            go_ret2
            exact ⟨rfl, hb1⟩
        · clear h
          go_enter Tryd.func22, Tryd.ntmps22
          go_wp2_with fail
          refine R.out.mono ?_
          rintro e1 w1 ⟨rfl, hb1⟩
          go_wp2_with fail
          go_ret2
          exact ⟨rfl, hb1⟩
      · clear h
        go_enter Tryd.func22, Tryd.ntmps22
        go_wp2_with fail
        refine R.out.mono ?_
        rintro e1 w1 ⟨rfl, hb1⟩
        go_wp2_with fail
        go_ret2
        exact ⟨rfl, hb1⟩
end Go.Proofs.YtmfgifinmeonjaaDoor
