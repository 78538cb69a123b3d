/- Walks of ref14.Bit. -/
import Derived.Test.YtnhegnneohpkaaaGreatMgPdC
namespace Go.Proofs.YtnhegnneohpkaaaGreat
open Go.ChangeShapes Go.WideShapes Go.ChangeAt Go.RowKit
open SG PD

theorem div_pow_succ (x i : Nat) : (x : Int) / 2 ^ i / 2 = (x : Int) / 2 ^ (i + 1) := by
  rw [Int.ediv_ediv_of_nonneg (Int.pow_nonneg (by omega)), Int.pow_succ]

end Go.Proofs.YtnhegnneohpkaaaGreat

/- The walk of ref14.Places. -/
namespace Go.Proofs.YtnhegnneohpkaaaGreat
open Go.ChangeShapes Go.WideShapes Go.ChangeAt Go.RowKit
open SG PD

set_option maxRecDepth 100000 in
set_option maxHeartbeats 4000000 in
theorem refPlaces_bad (s : Sg) (w : World) (h : mayB s = false) :
    Calls Tryz.prog 44 #[.agg #[.int .i64 s.start, .int .i64 s.width, .bool s.big, .bool s.sgn]] w fun e w' => e = .returned (.slice none 0 0) ∧ Below w.heap.size w w' := by
  have hm : ¬ (0 ≤ s.start ∧ s.start < 64 ∧ 1 ≤ s.width ∧ s.width ≤ 64 ∧ ¬ (s.width = 64 ∧ s.sgn = false)) := by rw [← may_iff, h]; simp
  obtain ⟨st, wd, bg, sg⟩ := s
  dsimp only at *
  clear h
  by_cases h1 : st < 0
  · clear hm
    go_enter Tryz.func44, Tryz.ntmps44
    go_wp2_with fail
    go_ret
    exact ⟨rfl, (Below.refl _ _).alloc (Nat.le_refl _) _⟩
  by_cases h2 : 63 < st
  · clear hm
    go_enter Tryz.func44, Tryz.ntmps44
    go_wp2_with fail
    go_ret
    exact ⟨rfl, (Below.refl _ _).alloc (Nat.le_refl _) _⟩
  by_cases h3 : wd < 1
  · clear hm
    go_enter Tryz.func44, Tryz.ntmps44
    go_wp2_with fail
    go_ret
    exact ⟨rfl, (Below.refl _ _).alloc (Nat.le_refl _) _⟩
  by_cases h4 : 64 < wd
  · clear hm
    go_enter Tryz.func44, Tryz.ntmps44
    go_wp2_with fail
    go_ret
    exact ⟨rfl, (Below.refl _ _).alloc (Nat.le_refl _) _⟩
  have h5 : wd = 64 ∧ sg = false := by
    by_cases e : wd = 64 ∧ sg = false
    · exact e
    · exact absurd ⟨by omega, by omega, by omega, by omega, e⟩ hm
  obtain ⟨rfl, rfl⟩ := h5
  clear hm
  go_enter Tryz.func44, Tryz.ntmps44
  go_wp2_with fail
  go_ret
  exact ⟨rfl, (Below.refl _ _).alloc (Nat.le_refl _) _⟩

/-- What the reference's Places answers. -/
def RpV (w : World) (s : Sg) (e : Ending) (w' : World) : Prop := (∃ A c, e = .returned (.slice A (plL s).length c) ∧ NR w' w'.heap.size A (plL s)) ∧ Below w.heap.size w w'
theorem rpv_bad {w w' : World} {s : Sg} {i : Nat} (hi : i < s.width.toNat) (h : 64 ≤ atN s i) (q : Below w.heap.size w w') : RpV w s (.returned (.slice none 0 0)) w' := by
  have hp : plL s = [] := by
    unfold plL
    rw [if_neg]
    intro h2
    have hm : atN s i ∈ rawL s := by
      have : atN s i ∈ seqL s s.width.toNat := List.mem_map.2 ⟨i, List.mem_range.2 hi, rfl⟩
      unfold rawL
      split
      · rw [List.mem_reverse]; exact this
      · exact this
    have := h2.2 _ hm
    omega
  exact ⟨⟨none, 0, by rw [hp]; rfl, by rw [hp]; exact Rd.nil⟩, q⟩
theorem rpv_good {w w' : World} {s : Sg} {A : Option Addr} {c n base : Nat} (hm : mayB s = true) (hall : ∀ i < s.width.toNat, atN s i < 64) (hn : n = s.width.toNat) (o : Own w' base 3 1 A c (rowN (rawL s))) (q : Below w.heap.size w w') : RpV w s (.returned (.slice A n c)) w' := by
  have h64 : ∀ p ∈ rawL s, p < 64 := by
    intro p hp
    have : p ∈ seqL s s.width.toNat := by
      unfold rawL at hp
      split at hp
      · exact List.mem_reverse.1 hp
      · exact hp
    obtain ⟨i, hi, rfl⟩ := List.mem_map.1 this
    exact hall i (List.mem_range.1 hi)
  have hp : plL s = rawL s := by unfold plL; rw [if_pos ⟨hm, h64⟩]
  refine ⟨⟨A, c, by rw [hp, rawL_length, hn], ?_⟩, q⟩
  rw [hp]
  exact o.rd (rowN_rows _)

set_option maxRecDepth 100000 in
set_option maxHeartbeats 8000000 in
theorem refPlaces_up (st n : Nat) (sg : Bool) (w : World) (h : mayB ⟨st, n, false, sg⟩ = true) :
    Calls Tryz.prog 44 #[.agg #[.int .i64 st, .int .i64 n, .bool false, .bool sg]] w fun e w' => RpV w ⟨st, n, false, sg⟩ e w' := by
  have hm := may_iff.1 h
  dsimp only at hm
  obtain ⟨_, hs2, hn1, hn2, h64⟩ := hm
  have H := hide h
  have RAW := hide (show rawL ⟨st, n, false, sg⟩ = seqL ⟨st, n, false, sg⟩ n by unfold rawL; simp)
  have AT := hide (show ∀ k, atN ⟨st, n, false, sg⟩ k = st + k from fun k => by unfold atN; simp)
  have q0 : Below w.heap.size w (w.alloc (.cells #[.int .i64 st, .int .i64 n, .bool false, .bool sg] 23)) := (Below.refl _ _).alloc (Nat.le_refl _) _
  have B0 := hide (World.alloc_heap_new w (.cells #[.int .i64 st, .int .i64 n, .bool false, .bool sg] 23))
  have z0 : (w.alloc (.cells #[.int .i64 st, .int .i64 n, .bool false, .bool sg] 23)).heap.size = w.heap.size + 1 := by simp
  clear h
  go_enter Tryz.func44, Tryz.ntmps44
  go_upto_region 1 with fail
  go_cut [34] (fun v W => v = .bool false ∧ W = w.alloc (.cells #[.int .i64 st, .int .i64 n, .bool false, .bool sg] 23))
  case first =>
    have e64 : (((n : Int) == 64) = false) ∨ (((n : Int) == 64) = true ∧ (!sg) = false) := by
      by_cases e : (n : Int) = 64
      · refine .inr ⟨by rw [beq_iff_eq]; exact e, ?_⟩
        cases sg with
        | true => rfl
        | false => exact absurd ⟨e, rfl⟩ h64
      · exact .inl (by rw [beq_eq_false_iff_ne]; exact e)
    clear h64
    rcases e64 with e64 | ⟨e64, hsg⟩
    all_goals
      go_wp2_with fail
      go_meet
      exact ⟨by refine congrArg Value.bool ?_; (simp <;> omega), rfl⟩
  case rest =>
  obtain ⟨rfl, rfl⟩ := hcut
  clear h64
  obtain ⟨w1, hw1⟩ : ∃ w1, w1 = w.alloc (.cells #[.int .i64 st, .int .i64 n, .bool false, .bool sg] 23) := ⟨_, rfl⟩
  rw [← hw1] at q0 B0 z0 ⊢
  have Q0 := hide q0
  obtain ⟨c0, c1, c2, c3⟩ := sg_cells (s := ⟨st, n, false, sg⟩) B0.out
  dsimp only at c0 c1 c2 c3
  clear hw1 q0
  go_upto_region 4 with fail
  have O1 : Hid (Own (w1.alloc (.cells #[] 3)) (w.heap.size + 1) 3 1 (some ⟨w1.heap.size, 0, none⟩) 0 (rowN (seqL ⟨st, n, false, sg⟩ 0))) := hide (Own.lit w1 (w.heap.size + 1) 3 1 [] (by omega) (by simp) (by simp))
  have qn : Below w1.heap.size w1 (w1.alloc (.cells #[] 3)) := (Below.refl _ _).alloc (Nat.le_refl _) _
  have B2 := hide (heap_below B0.out qn)
  have Q2 := hide (below_next Q0.out Q0.out.size qn)
  clear Q0 B0 qn c0 c1 c2 c3
  rw [z0] at O1
  obtain ⟨c0, c1, c2, c3⟩ := sg_cells (s := ⟨st, n, false, sg⟩) B2.out
  dsimp only at c0 c1 c2 c3
  generalize w1.alloc (.cells #[] 3) = w2 at *
  go_wp2_with fail
  clear c0 c1 c2 c3
  go_loopw [3, 4, 5] (fun vo va vi W => ∃ (i : Nat) (A : Option Addr) (c : Nat), i ≤ n ∧ vi = .int .i64 i ∧ va = .int .i64 ((st : Int) + i) ∧ vo = .slice A i c ∧ Hid (Own W (w.heap.size + 1) 3 1 A c (rowN (seqL ⟨st, n, false, sg⟩ i))) ∧ Hid (W.heap[w.heap.size]? = some (.cells #[.int .i64 st, .int .i64 n, .bool false, .bool sg] 23 (0, 0))) ∧ Hid (Below w.heap.size w W) ∧ Hid (∀ k < i, atN ⟨st, n, false, sg⟩ k < 64)) (fun _ _ vi _ => n - (intOf vi).toNat)
  case atStart => exact ⟨0, _, _, Nat.zero_le _, rfl, by simp, rfl, O1, B2, Q2, hide (fun k hk => absurd hk (Nat.not_lt_zero _))⟩
  case round =>
    obtain ⟨i, A, c, hi, rfl, rfl, rfl, hO, hB, hQ, hAll⟩ := hrel
    clear O1 B2 Q2
    have hat := AT.out i
    obtain ⟨c0, c1, c2, c3⟩ := sg_cells (s := ⟨st, n, false, sg⟩) hB.out
    dsimp only at c0 c1 c2 c3
    by_cases hlt : i < n
    · by_cases h63 : 64 ≤ st + i
      · have hbad := hide (fun W' (q : Below w.heap.size w W') => rpv_bad (s := ⟨st, n, false, sg⟩) (i := i) (by simpa using hlt) (by rw [hat]; exact h63) q)
        clear hO hAll
        go_wp2_with fail
        go_ret
        exact hbad.out _ hQ.out
      · have HALL := hide (show ∀ k < i + 1, atN ⟨st, n, false, sg⟩ k < 64 from fun k hk => by
          by_cases e : k = i
          · subst e; rw [hat]; omega
          · exact hAll.out k (by omega))
        obtain ⟨p, hp⟩ : ∃ p : Nat, p = st + i := ⟨_, rfl⟩
        have hpi : (st : Int) + (i : Int) = (p : Int) := by omega
        rw [← hp] at hat
        have EA := hide hat
        have zW : w.heap.size + 1 ≤ wr.heap.size := heap_lt hB.out
        have q1 : Below wr.heap.size wr (wr.alloc (.cells #[.int .i64 (p : Int)] 3)) := (Below.refl _ _).alloc (Nat.le_refl _) _
        have O2 := hide (hO.out.alloc (.cells #[.int .i64 (p : Int)] 3))
        have B2 := hide (heap_below hB.out q1)
        have Q2 := hide (below_next hQ.out hQ.out.size q1)
        have HRD := hide (rd_row (cs := [.int .i64 (p : Int)]) (World.alloc_heap_new wr (.cells #[.int .i64 (p : Int)] 3)))
        have hln : (rowN (seqL ⟨st, n, false, sg⟩ i)).length = i := by rw [rowN_len, seqL_length]
        have E1 := hide (show ((rowN (seqL ⟨st, n, false, sg⟩ i)).length + ([[.int .i64 (p : Int)]] : List (List Value)).length) * 8 ≤ 140737488355328 by rw [hln]; simp; omega)
        have E2 := hide (show (rowN (seqL ⟨st, n, false, sg⟩ i)).length + ([[.int .i64 (p : Int)]] : List (List Value)).length ≤ maxLen by rw [hln]; simp [maxLen]; omega)
        have E3 := hide (show i = (rowN (seqL ⟨st, n, false, sg⟩ i)).length by rw [hln])
        have E4 := hide (show w.heap.size + 1 ≤ (wr.alloc (.cells #[.int .i64 (p : Int)] 3)).heap.size by simp; omega)
        have EH := hide (show p < 64 by omega)
        have hp63 : (p : Int) < 64 := by omega
        rw [hpi]
        clear hO hAll hB hQ hln hp hpi q1 h63 hat
        go_wp2_with (at_builtin; refine wpList_append_rows _ rfl _ _ 25 rfl slInt (w.heap.size + 1) _ _ _ (rowN (seqL ⟨st, n, false, sg⟩ i)) (by rfl) (by exact O2.out) _ _ _ [[.int .i64 (p : Int)]] (by rfl) (by exact HRD.out) (by simp) (by simp [Value.oneCell']) (by exact E1.out) (by exact E2.out) (by exact E4.out) (by exact E3.out) (by rfl) ?_)
        intro A2 c2' W2 o2 g2
        have B3 := hide (heap_grown2 B2.out g2 O2.out)
        have Q3 := hide (Q2.out.trans ((below_own g2 O2.out E4.out).mono (by omega)))
        have O3 : Hid (Own W2 (w.heap.size + 1) 3 1 A2 c2' (rowN (seqL ⟨st, n, false, sg⟩ (i + 1)))) := by
          rw [seqL_succ, rowN_snoc, EA.out]
          exact hide o2
        have HV := hide (show (p : Int) + 1 = (st : Int) + ((i + 1 : Nat) : Int) by have := EA.out; rw [AT.out i] at this; omega)
        clear o2 g2 O2 B2 Q2 HRD E1 E2 E3 E4 EA c0 c1 c2 c3
        go_wp2_with fail
        go_roundw
        case rel => exact ⟨i + 1, A2, c2', by omega, by go_num, by rw [HV.out], rfl, O3, B3, Q3, HALL⟩
        case measure => simp [intOf]; omega
    · obtain rfl : i = n := by omega
      have FIN := hide (fun (o : Own wr (w.heap.size + 1) 3 1 A c (rowN (rawL ⟨st, i, false, sg⟩))) => rpv_good (s := ⟨st, i, false, sg⟩) (n := i) H.out (fun k hk => hAll.out k (by simpa using hk)) (by simp) o hQ.out)
      have HO := hide hO.out
      rw [← RAW.out] at HO
      clear hO hAll hB hQ
      go_wp2_with fail
      go_ret
      exact FIN.out HO.out

set_option maxRecDepth 100000 in
set_option maxHeartbeats 8000000 in
theorem refPlaces_dn (st n : Nat) (sg : Bool) (w : World) (h : mayB ⟨st, n, true, sg⟩ = true) :
    Calls Tryz.prog 44 #[.agg #[.int .i64 st, .int .i64 n, .bool true, .bool sg]] w fun e w' => RpV w ⟨st, n, true, sg⟩ e w' := by
  have hm := may_iff.1 h
  dsimp only at hm
  obtain ⟨_, hs2, hn1, hn2, h64⟩ := hm
  have H := hide h
  have RAW := hide (show rawL ⟨st, n, true, sg⟩ = (seqL ⟨st, n, true, sg⟩ n).reverse by unfold rawL; simp)
  have AT := hide (show ∀ k, atN ⟨st, n, true, sg⟩ k = dn st k from fun k => by unfold atN; simp)
  have q0 : Below w.heap.size w (w.alloc (.cells #[.int .i64 st, .int .i64 n, .bool true, .bool sg] 23)) := (Below.refl _ _).alloc (Nat.le_refl _) _
  have B0 := hide (World.alloc_heap_new w (.cells #[.int .i64 st, .int .i64 n, .bool true, .bool sg] 23))
  have z0 : (w.alloc (.cells #[.int .i64 st, .int .i64 n, .bool true, .bool sg] 23)).heap.size = w.heap.size + 1 := by simp
  clear h
  go_enter Tryz.func44, Tryz.ntmps44
  go_upto_region 1 with fail
  go_cut [34] (fun v W => v = .bool false ∧ W = w.alloc (.cells #[.int .i64 st, .int .i64 n, .bool true, .bool sg] 23))
  case first =>
    have e64 : (((n : Int) == 64) = false) ∨ (((n : Int) == 64) = true ∧ (!sg) = false) := by
      by_cases e : (n : Int) = 64
      · refine .inr ⟨by rw [beq_iff_eq]; exact e, ?_⟩
        cases sg with
        | true => rfl
        | false => exact absurd ⟨e, rfl⟩ h64
      · exact .inl (by rw [beq_eq_false_iff_ne]; exact e)
    clear h64
    rcases e64 with e64 | ⟨e64, hsg⟩
    all_goals
      go_wp2_with fail
      go_meet
      exact ⟨by refine congrArg Value.bool ?_; (simp <;> omega), rfl⟩
  case rest =>
  obtain ⟨rfl, rfl⟩ := hcut
  clear h64
  obtain ⟨w1, hw1⟩ : ∃ w1, w1 = w.alloc (.cells #[.int .i64 st, .int .i64 n, .bool true, .bool sg] 23) := ⟨_, rfl⟩
  rw [← hw1] at q0 B0 z0 ⊢
  have Q0 := hide q0
  obtain ⟨c0, c1, c2, c3⟩ := sg_cells (s := ⟨st, n, true, sg⟩) B0.out
  dsimp only at c0 c1 c2 c3
  clear hw1 q0
  go_upto_region 4 with fail
  have O1 : Hid (Own (w1.alloc (.cells #[] 3)) (w.heap.size + 1) 3 1 (some ⟨w1.heap.size, 0, none⟩) 0 (rowN (seqL ⟨st, n, true, sg⟩ 0).reverse)) := hide (Own.lit w1 (w.heap.size + 1) 3 1 [] (by omega) (by simp) (by simp))
  have qn : Below w1.heap.size w1 (w1.alloc (.cells #[] 3)) := (Below.refl _ _).alloc (Nat.le_refl _) _
  have B2 := hide (heap_below B0.out qn)
  have Q2 := hide (below_next Q0.out Q0.out.size qn)
  clear Q0 B0 qn c0 c1 c2 c3
  rw [z0] at O1
  obtain ⟨c0, c1, c2, c3⟩ := sg_cells (s := ⟨st, n, true, sg⟩) B2.out
  dsimp only at c0 c1 c2 c3
  generalize w1.alloc (.cells #[] 3) = w2 at *
  go_wp2_with fail
  clear c0 c1 c2 c3
  go_loopw [3, 4, 5] (fun vo va vi W => ∃ (i : Nat) (A : Option Addr) (c : Nat), i ≤ n ∧ vi = .int .i64 i ∧ va = .int .i64 (dn st i : Int) ∧ vo = .slice A i c ∧ Hid (Own W (w.heap.size + 1) 3 1 A c (rowN (seqL ⟨st, n, true, sg⟩ i).reverse)) ∧ Hid (W.heap[w.heap.size]? = some (.cells #[.int .i64 st, .int .i64 n, .bool true, .bool sg] 23 (0, 0))) ∧ Hid (Below w.heap.size w W) ∧ Hid (∀ k < i, atN ⟨st, n, true, sg⟩ k < 64)) (fun _ _ vi _ => n - (intOf vi).toNat)
  case atStart => exact ⟨0, _, _, Nat.zero_le _, rfl, rfl, rfl, O1, B2, Q2, hide (fun k hk => absurd hk (Nat.not_lt_zero _))⟩
  case round =>
    obtain ⟨i, A, c, hi, rfl, rfl, rfl, hO, hB, hQ, hAll⟩ := hrel
    clear O1 B2 Q2
    have hat := AT.out i
    obtain ⟨c0, c1, c2, c3⟩ := sg_cells (s := ⟨st, n, true, sg⟩) hB.out
    dsimp only at c0 c1 c2 c3
    by_cases hlt : i < n
    · by_cases h63 : 64 ≤ dn st i
      · have h63i : ¬ (dn st i : Int) ≤ 63 := by omega
        have hdl := dn_le st i
        have hdl2 : (dn st i : Int) ≤ 2000 := by omega
        have hbad := hide (fun W' (q : Below w.heap.size w W') => rpv_bad (s := ⟨st, n, true, sg⟩) (i := i) (by simpa using hlt) (by rw [hat]; exact h63) q)
        clear hO hAll
        go_wp2_with fail
        go_ret
        exact hbad.out _ hQ.out
      · have HALL := hide (show ∀ k < i + 1, atN ⟨st, n, true, sg⟩ k < 64 from fun k hk => by
          by_cases e : k = i
          · subst e; rw [hat]; omega
          · exact hAll.out k (by omega))
        have NXT := hide (show dn st (i + 1) = stepD (dn st i) from rfl)
        obtain ⟨p, hp⟩ : ∃ p : Nat, p = dn st i := ⟨_, rfl⟩
        rw [← hp] at hat h63 NXT ⊢
        have EA := hide hat
        have zW : w.heap.size + 1 ≤ wr.heap.size := heap_lt hB.out
        have q1 : Below wr.heap.size wr (wr.alloc (.cells #[.int .i64 (p : Int)] 3)) := (Below.refl _ _).alloc (Nat.le_refl _) _
        have O2 := hide (Own.lit wr (w.heap.size + 1) 3 1 [[.int .i64 (p : Int)]] zW (by simp [maxLen]) (by simp))
        have B2 := hide (heap_below hB.out q1)
        have Q2 := hide (below_next hQ.out hQ.out.size q1)
        have HRD := hide (Rd.next (hO.out.rd (rowN_rows _)) q1 q1.size)
        have hln : (rowN (seqL ⟨st, n, true, sg⟩ i).reverse).length = i := by rw [rowN_len, List.length_reverse, seqL_length]
        have E1 := hide (show (([[.int .i64 (p : Int)]] : List (List Value)).length + (rowN (seqL ⟨st, n, true, sg⟩ i).reverse).length) * 8 ≤ 140737488355328 by rw [hln]; simp; omega)
        have E2 := hide (show ([[.int .i64 (p : Int)]] : List (List Value)).length + (rowN (seqL ⟨st, n, true, sg⟩ i).reverse).length ≤ maxLen by rw [hln]; simp [maxLen]; omega)
        have E3 := hide (show i = (rowN (seqL ⟨st, n, true, sg⟩ i).reverse).length by rw [hln])
        have E4 := hide (show w.heap.size + 1 ≤ (wr.alloc (.cells #[.int .i64 (p : Int)] 3)).heap.size by simp; omega)
        have E5 := hide (rowN_rows (seqL ⟨st, n, true, sg⟩ i).reverse)
        have E6 := hide (show ∀ r ∈ rowN (seqL ⟨st, n, true, sg⟩ i).reverse, ∀ u ∈ r, u.oneCell' = true from fun r hr u hu => by
          obtain ⟨x, _, rfl⟩ := List.mem_map.1 hr
          rw [List.mem_singleton.1 hu]
          rfl)
        have hp63 : (p : Int) < 64 := by omega
        have hp63' : (p : Int) ≤ 63 := by omega
        have h1i : (1 : Nat) + i = i + 1 := Nat.add_comm _ _
        have H1I := hide h1i
        clear hO hAll hB hQ hln hp q1 hat h1i
        go_wp2_with (at_builtin; refine wpList_append_rows _ rfl _ _ 25 rfl slInt (w.heap.size + 1) _ _ _ [[.int .i64 (p : Int)]] (by rfl) (by exact O2.out) _ _ _ (rowN (seqL ⟨st, n, true, sg⟩ i).reverse) (by rfl) (by exact HRD.out) (by exact E5.out) (by exact E6.out) (by exact E1.out) (by exact E2.out) (by exact E4.out) (by rfl) (by exact E3.out) ?_)
        intro A2 c2' W2 o2 g2
        have B3 := hide (heap_grown2 B2.out g2 O2.out)
        have Q3 := hide (Q2.out.trans ((below_own g2 O2.out E4.out).mono (by omega)))
        have O3 : Hid (Own W2 (w.heap.size + 1) 3 1 A2 c2' (rowN (seqL ⟨st, n, true, sg⟩ (i + 1)).reverse)) := by
          rw [seqL_succ, EA.out, List.reverse_append]
          exact hide o2
        rw [H1I.out]
        clear o2 g2 O2 B2 Q2 HRD E1 E2 E3 E4 E5 E6 EA H1I c0 c1 c2 c3
        by_cases h8 : p % 8 = 0
        · have hm : ((p : Int) % 8 == 0) = true := by rw [beq_iff_eq]; omega
          have HV := hide (show (p : Int) + 15 = ((dn st (i + 1) : Nat) : Int) by rw [NXT.out]; unfold stepD; rw [if_pos h8]; omega)
          clear NXT h8
          go_wp2_with fail
          go_roundw
          case rel => exact ⟨i + 1, A2, c2', by omega, by go_num, by rw [HV.out], rfl, O3, B3, Q3, HALL⟩
          case measure => simp [intOf]; omega
        · have hm : ((p : Int) % 8 == 0) = false := by rw [beq_eq_false_iff_ne]; omega
          have HV := hide (show (p : Int) - 1 = ((dn st (i + 1) : Nat) : Int) by rw [NXT.out]; unfold stepD; rw [if_neg h8]; omega)
          have hp1 : 1 ≤ p := by omega
          clear NXT h8
          go_wp2_with fail
          go_roundw
          case rel => exact ⟨i + 1, A2, c2', by omega, by go_num, by rw [HV.out], rfl, O3, B3, Q3, HALL⟩
          case measure => simp [intOf]; omega
    · obtain rfl : i = n := by omega
      have FIN := hide (fun (o : Own wr (w.heap.size + 1) 3 1 A c (rowN (rawL ⟨st, i, true, sg⟩))) => rpv_good (s := ⟨st, i, true, sg⟩) (n := i) H.out (fun k hk => hAll.out k (by simpa using hk)) (by simp) o hQ.out)
      have HO := hide hO.out
      rw [← RAW.out] at HO
      clear hO hAll hB hQ
      go_wp2_with fail
      go_ret
      exact FIN.out HO.out

/-- ref14.Places, of any signal. -/
theorem refPlaces_any (s : Sg) (w : World) : Calls Tryz.prog 44 #[.agg #[.int .i64 s.start, .int .i64 s.width, .bool s.big, .bool s.sgn]] w fun e w' => RpV w s e w' := by
  cases h : mayB s with
  | false =>
    refine (refPlaces_bad s w h).mono ?_
    rintro e w' ⟨rfl, q⟩
    have hp : plL s = [] := by unfold plL; rw [h]; simp
    exact ⟨⟨none, 0, by rw [hp]; rfl, by rw [hp]; exact Rd.nil⟩, q⟩
  | true =>
    have hm := may_iff.1 h
    obtain ⟨st, wd, bg, sg⟩ := s
    dsimp only at *
    obtain ⟨a, rfl⟩ := Int.eq_ofNat_of_zero_le hm.1
    obtain ⟨b, rfl⟩ := Int.eq_ofNat_of_zero_le (show 0 ≤ wd by omega)
    cases bg with
    | false => exact refPlaces_up a b sg w h
    | true => exact refPlaces_dn a b sg w h
end Go.Proofs.YtnhegnneohpkaaaGreat
