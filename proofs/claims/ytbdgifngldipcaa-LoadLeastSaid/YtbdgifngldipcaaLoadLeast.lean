/- The walk of LoadLeast: within just as many bits as one is late just that many are needed, within fewer more than these. -/
import Derived.Test.YtbdgifngldipcaaLoadMore
namespace Go.Proofs.Ytbdgifngldipcaa
open Go.ChangeShapes Go.WideShapes Go.ChangeAt Go.RowKit
open LP (Ld okB rightB mx ah needF lateF)

theorem lateE_in {l : List Ld} (h : rightB l = true) {k : Nat} (hk : k < l.length) : lateE l k = (if lateF l k = 0 then 41 else 0) ∧ lateV l k = lateF l k := by
  have hi : rightB l = true ∧ 0 ≤ (k : Int) ∧ (k : Int) < (l.length : Int) := ⟨h, by omega, by omega⟩
  unfold lateE lateV
  rw [if_pos hi, if_pos hi, Int.toNat_natCast]
  exact ⟨rfl, rfl⟩

def fitsTo (l : List Ld) (k : Nat) : Bool := (List.range k).all (fitB l)
theorem fitsTo_succ (l : List Ld) (k : Nat) : fitsTo l (k + 1) = (fitsTo l k && fitB l k) := by
  unfold fitsTo
  rw [List.range_succ, List.all_append]
  simp

/-- The number that is fewer. -/
theorem less_bd {f n : Int} (h1 : 2 ≤ n) (h2 : n ≤ 1000000) : -1000000 ≤ f.tmod (n - 1) ∧ f.tmod (n - 1) ≤ 1000000 ∧ 0 ≤ f.tmod (n - 1) + n - 1 := by
  have a := Int.tmod_lt_of_pos f (show 0 < n - 1 by omega)
  by_cases h : 0 ≤ f
  · have b := Int.tmod_nonneg (n - 1) h
    omega
  · have b := Int.tmod_nonneg (n - 1) (show 0 ≤ -f by omega)
    have c := Int.tmod_lt_of_pos (-f) (show 0 < n - 1 by omega)
    rw [Int.neg_tmod] at b c
    omega

set_option maxRecDepth 100000 in
set_option maxHeartbeats 4000000 in
theorem loadLeast_no (l0 : List Ld) (A : Option Addr) (c : Nat) (i f : Int) (w : World) (hr0 : LdR w w.heap.size A l0) (hc0 : l0.length ≤ c) (hcm : c ≤ maxLen) (hb : rightB (l0.take 20) = false) :
    Calls Try.prog 5 #[.slice A l0.length c, .int .i64 i, .int .i64 f] w fun e w' => e = .returned (.bool true) ∧ Below w.heap.size w w' := by
  obtain ⟨l, hl⟩ : ∃ l, l = l0.take 20 := ⟨_, rfl⟩
  have hlen : l.length = min l0.length 20 := by rw [hl, List.length_take]; omega
  have hr : LdR w w.heap.size A l := by rw [hl]; exact hr0.take 20
  have hl20 : l.length ≤ 20 := by omega
  have hlc : l.length ≤ c := by omega
  have FEW := hide (fun W => few_any A l0.length c W hc0 (by omega))
  rw [← hlen] at FEW
  rw [← hl] at hb
  clear hl hlen hr0 hc0
  have FIT := hide (fun W (hb' : Below w.heap.size w W) => Fits_no l A c W (hr.next hb' hb'.size) (by omega) hb)
  have HL := hide (fun W (hb : Below w.heap.size w W) => Late_any l A c i W (hr.next hb hb.size) (by omega) hlc)
  have REF := hide (fun W (hb : Below w.heap.size w W) => refRight_any l A c W (hr.next hb hb.size) (by omega))
  have hV : lateV l i = 0 := by unfold lateV; rw [if_neg (by simp [hb])]
  have hE : lateE l i = 1 := by unfold lateE; rw [if_neg (by simp [hb])]
  rw [hV, hE] at HL
  rw [hb] at REF
  clear hV hE hb
  have q0 := Below.refl w.heap.size w
  go_enter Try.func5, Try.ntmps5
  go_wp2_with fail
  refine (FEW.out _).mono ?_
  rintro e1 w1 ⟨rfl, rfl⟩
  go_wp2_with fail
  refine (FIT.out _ q0).mono ?_
  rintro e2 w2 ⟨rfl, q2⟩
  go_wp2_with fail
  refine (HL.out _ q2).mono ?_
  rintro e3 w3 ⟨rfl, q3⟩
  have q3' := below_next q2 q2.size q3
  go_wp2_with fail
  refine (REF.out _ q3').mono ?_
  rintro e4 w4 ⟨rfl, q4⟩
  have q4' := below_next q3' q3'.size q4
  go_wp2_with fail
  refine (alive22_any w4).mono ?_
  rintro e5 w5 ⟨rfl, q5⟩
  go_wp2
  go_ret
  exact ⟨rfl, below_next q4' q4'.size q5⟩

set_option maxRecDepth 100000 in
set_option maxHeartbeats 4000000 in
theorem loadLeast_yes (l0 : List Ld) (A : Option Addr) (c : Nat) (i f : Int) (w : World) (hr0 : LdR w w.heap.size A l0) (hc0 : l0.length ≤ c) (hcm : c ≤ maxLen) (hb : rightB (l0.take 20) = true) :
    Calls Try.prog 5 #[.slice A l0.length c, .int .i64 i, .int .i64 f] w fun e w' => e = .returned (.bool true) ∧ Below w.heap.size w w' := by
  obtain ⟨l, hl⟩ : ∃ l, l = l0.take 20 := ⟨_, rfl⟩
  have hlen : l.length = min l0.length 20 := by rw [hl, List.length_take]; omega
  have hr : LdR w w.heap.size A l := by rw [hl]; exact hr0.take 20
  have hl20 : l.length ≤ 20 := by omega
  have hlc : l.length ≤ c := by omega
  have FEW := hide (fun W => few_any A l0.length c W hc0 (by omega))
  rw [← hlen] at FEW
  rw [← hl] at hb
  clear hl hlen hr0 hc0
  have FIT := hide (fun W (hb' : Below w.heap.size w W) => Fits_ok l A c W (hr.next hb' hb'.size) hb hlc)
  have HL := hide (fun W i (hb : Below w.heap.size w W) => Late_any l A c i W (hr.next hb hb.size) (by omega) hlc)
  have REF := hide (fun W (hb : Below w.heap.size w W) => refRight_any l A c W (hr.next hb hb.size) (by omega))
  have NED := hide (fun W k t (hb' : Below w.heap.size w W) => Need_ok l A c k t W (hr.next hb' hb'.size) hb hlc)
  rw [hb] at REF
  have hRI := LP.right_iff.1 hb
  have HRB := hide hb
  have RI := hide hRI
  clear hb hRI
  have q0 := Below.refl w.heap.size w
  go_enter Try.func5, Try.ntmps5
  go_wp2_with fail
  refine (FEW.out _).mono ?_
  rintro e1 w1 ⟨rfl, rfl⟩
  go_wp2_with fail
  refine (FIT.out _ q0).mono ?_
  rintro e2 w2 ⟨rfl, q2⟩
  go_wp2_with fail
  refine (HL.out _ i q2).mono ?_
  rintro e3 w3 ⟨rfl, q3⟩
  have q3' := below_next q2 q2.size q3
  go_wp2_with fail
  refine (REF.out _ q3').mono ?_
  rintro e4 w4 ⟨rfl, q4⟩
  have q4' := below_next q3' q3'.size q4
  clear q2 q3 q3' q4 q0
  go_wp2_with fail
  go_loopw [11, 50] (fun v j W => ∃ k : Nat, k ≤ l.length ∧ j = .int .i64 k ∧ v = .bool (fitsTo l k) ∧ Below w.heap.size w W) (fun _ j _ => l.length - (intOf j).toNat)
  case atStart => exact ⟨0, Nat.zero_le _, rfl, rfl, q4'⟩
  case round =>
    obtain ⟨k, hk, rfl, rfl, q⟩ := hrel
    clear q4'
    by_cases hlt : k < l.length
    · obtain ⟨b, off, rfl, hbs, d1, d2⟩ := hr.at_ hlt
      have d1' := cellBelow q hbs d1
      have d2' := cellBelow q hbs d2
      clear d1 d2
      have qa : Below w.heap.size w (wr.alloc (.cells #[.int .i64 l[k].1, .int .i64 l[k].2] 24)) := q.alloc q.size _
      have L := hide (HL.out (wr.alloc (.cells #[.int .i64 l[k].1, .int .i64 l[k].2] 24)) k qa)
      obtain ⟨eE, eV⟩ := lateE_in HRB.out hlt
      have hS := fitsTo_succ l k
      have hgd : l.getD k (0, 0) = l[k] := by simp [hlt]
      have hfit : fitB l k = decide (lateF l k ≠ 0 ∧ lateF l k ≤ l[k].2) := by unfold fitB; rw [hgd]
      rw [hfit] at hS
      have L' := L.out
      rw [eE, eV] at L'
      clear L eE eV hgd hfit
      have hbd := LP.lateF_bd l k
      have hx := RI.out.2 l[k] (List.getElem_mem hlt)
      simp only [okB, decide_eq_true_eq] at hx
      obtain ⟨_, _, hx3, hx4⟩ := hx
      obtain ⟨hbd1, hbd2⟩ := hbd
      by_cases hz : lateF l k = 0
      · rw [hz] at L' hS
        have hS' : fitsTo l (k + 1) = false := by rw [hS]; simp
        have L2 := hide L'
        have S2 := hide hS'
        clear L' hS hS' hz hbd1 hbd2
        rcases hB : fitsTo l k with _ | _
        · clear hB
          go_wp2_with fail
          refine L2.out.mono ?_
          rintro e5 w5 ⟨rfl, q5⟩
          have qb := below_next qa qa.size q5
          go_wp2
          go_roundw
          case rel => exact ⟨k + 1, by omega, by go_num, by rw [S2.out], qb⟩
          case measure => simp [intOf]; omega
        · clear hB
          go_wp2_with fail
          refine L2.out.mono ?_
          rintro e5 w5 ⟨rfl, q5⟩
          have qb := below_next qa qa.size q5
          go_wp2
          go_roundw
          case rel => exact ⟨k + 1, by omega, by go_num, by rw [S2.out], qb⟩
          case measure => simp [intOf]; omega
      · rw [if_neg hz] at L'
        have hS' : fitsTo l (k + 1) = (fitsTo l k && decide (lateF l k ≤ l[k].2)) := by rw [hS]; simp [hz]
        have L2 := hide L'
        have S2 := hide hS'
        clear L' hS hS' hz
        rcases hB : fitsTo l k with _ | _
        · rw [hB] at S2
          clear hB
          go_wp2_with fail
          refine L2.out.mono ?_
          rintro e5 w5 ⟨rfl, q5⟩
          have qb := below_next qa qa.size q5
          go_wp2
          go_roundw
          case rel => exact ⟨k + 1, by omega, by go_num, by rw [S2.out]; rfl, qb⟩
          case measure => simp [intOf]; omega
        · rw [hB] at S2
          clear hB
          go_wp2_with fail
          refine L2.out.mono ?_
          rintro e5 w5 ⟨rfl, q5⟩
          have qb := below_next qa qa.size q5
          have c1 : w5.cell? ⟨wr.heap.size, 1, none⟩ = some (.int .i64 l[k].2) := cellBelow q5 (by simp) (by simp [go_sem])
          go_wp2
          go_roundw
          case rel => exact ⟨k + 1, by omega, by go_num, by rw [S2.out]; simp, qb⟩
          case measure => simp [intOf]; omega
    · have hke : k = l.length := by omega
      have hFB : fitsTo l k = fitsB l := by rw [hke]; rfl
      rw [hFB]
      clear hFB hke
      generalize fitsB l = B
      have hB : (B != B) = false := by simp
      go_wp2_with fail
      refine (alive22_any wr).mono ?_
      rintro e5 w5 ⟨rfl, q5⟩
      have q5' := below_next q q.size q5
      clear q q5
      clear hr
      by_cases hi : 0 ≤ i ∧ i < l.length
      · obtain ⟨h0, h1⟩ := hi
        obtain ⟨k, rfl⟩ := Int.eq_ofNat_of_zero_le h0
        have hk : k < l.length := by omega
        obtain ⟨eE, eV⟩ := lateE_in HRB.out hk
        rw [eE, eV]
        clear eE eV h0
        obtain ⟨hbd1, hbd2⟩ := LP.lateF_bd l k
        by_cases hz : lateF l k = 0
        · rw [if_pos hz, hz]
          clear hz hbd1 hbd2
          go_wp2
          go_ret
          exact ⟨rfl, q5'⟩
        · rw [if_neg hz]
          have hN := hide (LP.need_late RI.out hk hz)
          have N1 := hide (NED.out w5 k (lateF l k) q5' hk (by omega) hbd2)
          have hV1 : 1 ≤ lateF l k := by omega
          have hLess := hide (fun t (h1 : 1 ≤ t) (h2 : t < lateF l k) => LP.need_less (l := l) (k := k) h1 h2)
          clear hz hbd1
          generalize lateF l k = V at *
          have N1' := N1.out
          rw [hN.out] at N1'
          have N2 := hide N1'
          clear N1 N1' hN
          go_wp2_with fail
          refine N2.out.mono ?_
          rintro e6 w6 ⟨rfl, q6⟩
          have q6' := below_next q5' q5'.size q6
          by_cases hv : V = 1
          · subst hv
            go_wp2
            go_ret
            exact ⟨rfl, q6'⟩
          · have hvb : (V == 1) = false := by simp [hv]
            have h2 : 2 ≤ V := by omega
            obtain ⟨t1, t2, t3⟩ := less_bd (f := f) h2 hbd2
            clear hv
            have m1 : 0 ≤ (f.tmod (V - 1) + V - 1) % (V - 1) := Int.emod_nonneg _ (by omega)
            have m2 : (f.tmod (V - 1) + V - 1) % (V - 1) < V - 1 := Int.emod_lt_of_pos _ (by omega)
            go_wp2_with fail
            have hT := hide (show 1 ≤ 1 + (f.tmod (V - 1) + V - 1) % (V - 1) ∧ 1 + (f.tmod (V - 1) + V - 1) % (V - 1) < V by omega)
            generalize 1 + (f.tmod (V - 1) + V - 1) % (V - 1) = t at *
            obtain ⟨ht1, ht2⟩ := hT.out
            have hgt := hLess.out t ht1 ht2
            clear m1 m2 t1 t2 t3 hT
            refine (NED.out w6 k t q6' hk ht1 (by omega)).mono ?_
            rintro e7 w7 ⟨rfl, q7⟩
            have q7' := below_next q6' q6'.size q7
            go_wp2
            go_ret
            exact ⟨rfl, q7'⟩
      · have eE : lateE l i = 1 := by unfold lateE; rw [if_neg (fun h => hi h.2)]
        have eV : lateV l i = 0 := by unfold lateV; rw [if_neg (fun h => hi h.2)]
        rw [eE, eV]
        clear eE eV
        by_cases h0 : 0 ≤ i
        · have h1 : ¬ i < l.length := fun h => hi ⟨h0, h⟩
          clear hi
          go_wp2
          go_ret
          exact ⟨rfl, q5'⟩
        · clear hi
          go_wp2
          go_ret
          exact ⟨rfl, q5'⟩

theorem loadLeast_walk (l : List Ld) (A : Option Addr) (c : Nat) (i f : Int) (w : World) (hr : LdR w w.heap.size A l) (hc : l.length ≤ c) (hcm : c ≤ maxLen) :
    Calls Try.prog 5 #[.slice A l.length c, .int .i64 i, .int .i64 f] w fun e w' => e = .returned (.bool true) ∧ Below w.heap.size w w' := by
  rcases hb : rightB (l.take 20) with _ | _
  · exact loadLeast_no l A c i f w hr hc hcm hb
  · exact loadLeast_yes l A c i f w hr hc hcm hb
end Go.Proofs.Ytbdgifngldipcaa
