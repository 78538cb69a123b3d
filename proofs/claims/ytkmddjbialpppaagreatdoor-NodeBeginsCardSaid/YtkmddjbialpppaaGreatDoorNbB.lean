import Derived.Test.YtkmddjbialpppaaGreatDoorMgNdY
import Derived.Test.YtkmddjbialpppaaGreatDoorRtB
import Derived.Test.YtkmddjbialpppaaGreatDoorMgCoRw
namespace Go.Proofs.YtkmddjbialpppaaGreatDoor
open Go.ChangeShapes Go.WideShapes Go.ChangeAt Go.RowKit
open CM PD SG ND
theorem zNd_ok (W : World) : zNd.Okw W := ⟨⟨Rd.nil, fun _ h => (by cases h), Nat.zero_le _, ⟨Int.le_refl _, by show (0 : Int) < 4294967296; decide⟩⟩, Nat.zero_le _, Nat.zero_le _⟩
set_option maxRecDepth 100000 in
set_option maxHeartbeats 16000000 in
theorem nb_bad1 (c d : Cf) (id : Int) (t u : Tv) (mem : Int) (w : World) (hcl : c.l.length ≤ c.c) (hd : d = { c with l := c.l.take 6 }) (hts : t.data.size ≤ maxLen) (hu : u = { t with data := t.data.extract 0 (min t.data.size 12) }) (hui : 0 ≤ u.id ∧ 0 ≤ u.mask) (ho : d.Ok w) (h : (cF d && cK id 0 (d.nodes - 1)) = false) :
    Calls Tryz.prog 3 #[.agg c.cs.toArray, .int .i64 id, .agg (bD t).toArray, .int .u16 mem] w fun e w' => e = .returned (.bool true) ∧ Below w.heap.size w w' := by
  obtain ⟨w0, hw0⟩ : ∃ w0, w0 = (w.alloc (.cells c.cs.toArray 25)).alloc (.cells (bD t).toArray 27) := ⟨_, rfl⟩
  have C := aA (aB (World.alloc_heap_new w (.cells c.cs.toArray 25)) ((Below.refl _ (w.alloc (.cells c.cs.toArray 25))).alloc (Nat.le_refl _) (.cells (bD t).toArray 27)))
  have T := aA (World.alloc_heap_new (w.alloc (.cells c.cs.toArray 25)) (.cells (bD t).toArray 27))
  have Q : Hid (Below w.heap.size w w0) := by rw [hw0]; exact aA (((Below.refl w.heap.size w).alloc (Nat.le_refl _) (.cells c.cs.toArray 25)).alloc (by simp; try omega) (.cells (bD t).toArray 27))
  rw [← hw0] at C T
  simp only [World.size_alloc] at T
  have FE := aA (fun W => few28_any c (c.l.take 6) W rfl hcl)
  rw [← hd] at FE
  obtain ⟨m, em, hm⟩ := jL (P := Tryz.prog) (t.data.size : Int) 12
  obtain ⟨k, hk⟩ : ∃ k : Nat, k = min t.data.size 12 := ⟨_, rfl⟩
  have hmk : m = k := by omega
  subst hmk
  have hkl : k ≤ t.data.size := by omega
  rw [← hk] at hu
  unfold maxLen at hts
  have HU := aA hu
  have DOK := aA (fun W (q : Below w.heap.size w W) => ho.next q)
  have AL := aA alive28
  have CR := aA (fun W (q : Below w.heap.size w W) => cD d W (ho.next q))
  have TR := aA (fun W => iY u W hui.1 hui.2)
  clear hk em hd hcl hu hui
  have NR := aA (fun W => ndRight_no zNd W (zNd_ok W) (by kernel_rfl))
  have NE := aA (fun W (q : Below w.heap.size w W) => ndNew_no d id u mem W (ho.next q) h)
  obtain ⟨b, hb⟩ : ∃ b, b = cF d := ⟨_, rfl⟩
  rw [← hb] at CR h
  clear hb ho
  have H := aA h
  clear h
  go_enter Tryz.func3, Tryz.ntmps3
  go_upto_region 1 with fail
  change Code.wp _ _ _ _ ((w.alloc (.cells c.cs.toArray 25)).alloc (.cells (bD t).toArray 27))
  rw [← hw0]
  clear hw0
  go_wp2_with (refine wpList_load_row rfl 25 (.tmp 4) (by rfl) w.heap.size (by rfl) 25 c.cs.toArray (0, 0) _ (by exact C.out) Tryz.underlying25 (by rfl) (by kernel_rfl) ?_)
  (with_reducible refine (FE.out w0).mono ?_)
  rintro ew1' w1' ⟨rfl, qw1'⟩
  replace C := aA (aB C.out qw1')
  replace T := aA (aB T.out qw1')
  replace Q := aA (aC Q.out Q.out.size qw1')
  clear qw1'
  clear FE
  have c5 := (dI T.out).2.2.2.2.2.1
  have f5 : w1'.frozen? ⟨w.heap.size + 1, 5, none⟩ = false := by have := T.out; simp [World.frozen?, this]
  clear c5 f5
  have Tw2' := aA (show World.there _ w.heap.size 0 8 from aK (cs := c.cs) C.out)
  go_wp2_with (refine aF (by rfl) 25 (.tmp 4) (.tmp 19) (by rfl) w.heap.size 0 d.cs (by rfl) (by rfl) (by exact Tw2'.out) (by kernel_rfl) (by simp [Value.oneCell', Cf.cs]) ?_)
  intro w2' ew2'
  replace T := aA (show w2'.heap[w.heap.size + 1]? = some (.cells (bD t).toArray 27 (0, 0)) by rw [ew2'.out]; exact aG (by omega) _ _ _ T.out)
  replace Q := aA (show Below w.heap.size w w2' by rw [ew2'.out]; exact Q.out.trans (aE _ _ _ (by have := Q.out.size; omega)))
  replace C := aA (show w2'.heap[w.heap.size]? = some (.cells d.cs.toArray 25 (0, 0)) by rw [ew2'.out]; exact aJ d.cs (xs := c.cs) C.out rfl)
  clear ew2' Tw2'
  have c5 := (dI T.out).2.2.2.2.2.1
  have f5 : w2'.frozen? ⟨w.heap.size + 1, 5, none⟩ = false := by have := T.out; simp [World.frozen?, this]
  go_upto_region 3 with fail
  clear c5 f5 hm hkl hts
  obtain ⟨w3', ew3'⟩ : ∃ wq, wq = (w2').setCell ⟨w.heap.size + 1, 5, none⟩ (.string (t.data.extract 0 k)) := ⟨_, rfl⟩
  rw [← ew3']
  replace C := aA (show w3'.heap[w.heap.size]? = some (.cells d.cs.toArray 25 (0, 0)) by rw [ew3']; exact aG (by omega) [.string (t.data.extract 0 k)] 5 _ (C.out))
  replace Q := aA (show Below w.heap.size w w3' by rw [ew3']; exact Below.trans (Q.out) (aE [.string (t.data.extract 0 k)] 5 _ (by have := Q.out.size; omega)))
  replace T := aA (show w3'.heap[w.heap.size + 1]? = some (.cells (bD ({ t with data := t.data.extract 0 k } : Tv)).toArray 27 (0, 0)) by rw [ew3']; exact aU [.string (t.data.extract 0 k)] (bD t) 5 _ T.out)
  clear ew3'
  rw [← HU.out] at T
  clear HU
  go_wp2_with (first | (refine wpList_load_row rfl 25 (.tmp 4) (by rfl) w.heap.size (by rfl) 25 d.cs.toArray (0, 0) _ (by exact C.out) Tryz.underlying25 (by rfl) (by kernel_rfl) ?_) | (refine wpList_load_row rfl 27 (.tmp 6) (by rfl) (w.heap.size + 1) (by rfl) 27 (bD u).toArray (0, 0) _ (by exact T.out) Tryz.underlying27 (by rfl) (by kernel_rfl) ?_))
  (with_reducible refine (NE.out w3' Q.out).mono ?_)
  rintro ew4' w4' ⟨rfl, qw4'⟩
  replace C := aA (aB C.out qw4')
  replace T := aA (aB T.out qw4')
  replace Q := aA (aC Q.out Q.out.size qw4')
  clear qw4'
  clear NE
  have N := World.alloc_heap_new w4' (.cells zNd.cs.toArray 53)
  have zCnb : w.heap.size < w4'.heap.size := aH C.out
  have zTnb : w.heap.size + 1 < w4'.heap.size := aH T.out
  have zQnb : w.heap.size ≤ w4'.heap.size := Q.out.size
  obtain ⟨w6', hw6'⟩ : ∃ wx, wx = w4'.alloc (.cells zNd.cs.toArray 53) := ⟨_, rfl⟩
  have q5' := aA (show Below w4'.heap.size w4' w6' by rw [hw6']; exact (Below.refl _ _).alloc (Nat.le_refl _) _)
  rw [← hw6'] at N
  replace N := aA N
  have Tw7' := aA (show (w4'.alloc (.cells zNd.cs.toArray 53)).there w4'.heap.size 0 91 by rw [← hw6']; exact aK (cs := zNd.cs) N.out)
  go_wp2_with (refine aF (by rfl) 53 (.tmp 9) (.tmp 34) (by rfl) w4'.heap.size 0 zNd.cs (by rfl) (by rfl) (by exact Tw7'.out) (by kernel_rfl) (by exact dB _) ?_)
  intro w7' ew7'
  replace ew7' : Hid (w7' = w6'.setCells w4'.heap.size 0 zNd.cs) := by rw [hw6']; exact ew7'
  replace N := aA (show w7'.heap[w4'.heap.size]? = some (.cells zNd.cs.toArray 53 (0, 0)) by rw [ew7'.out]; exact aJ zNd.cs (xs := zNd.cs) N.out rfl)
  replace q5' := aA (show Below w4'.heap.size w4' w7' by rw [ew7'.out]; exact q5'.out.trans (aE _ _ _ (by omega)))
  clear ew7' Tw7' hw6'
  replace C := aA (aB C.out q5'.out)
  replace T := aA (aB T.out q5'.out)
  replace Q := aA (aC Q.out Q.out.size q5'.out)
  clear q5'
  generalize w4'.heap.size = nb at *
  go_wp2_with (refine wpList_load_row rfl 25 (.tmp 4) (by rfl) w.heap.size (by rfl) 25 d.cs.toArray (0, 0) _ (by exact C.out) Tryz.underlying25 (by rfl) (by kernel_rfl) ?_)
  (with_reducible refine (CR.out w7' Q.out).mono ?_)
  rintro ew8' w8' ⟨rfl, qw8'⟩
  replace C := aA (aB C.out qw8')
  replace T := aA (aB T.out qw8')
  replace N := aA (aB N.out qw8')
  replace Q := aA (aC Q.out Q.out.size qw8')
  clear qw8'
  clear CR
  cases b
  ·
    go_wp2_with fail
    (with_reducible refine (AL.out w8').mono ?_)
    rintro ew9' w9' ⟨rfl, qw9'⟩
    replace C := aA (aB C.out qw9')
    replace T := aA (aB T.out qw9')
    replace N := aA (aB N.out qw9')
    replace Q := aA (aC Q.out Q.out.size qw9')
    clear qw9'
    clear AL
    go_wp2_with (refine bU (by kernel_rfl) 53 (.tmp 9) (by rfl) nb (by rfl) 53 zNd.cs.toArray (0, 0) _ (by exact N.out) Tryz.underlying53 (by rfl) (by kernel_rfl) ?_)
    (with_reducible refine (NR.out w9').mono ?_)
    rintro ew10' w10' ⟨rfl, qw10'⟩
    replace C := aA (aB C.out qw10')
    replace T := aA (aB T.out qw10')
    replace N := aA (aB N.out qw10')
    replace Q := aA (aC Q.out Q.out.size qw10')
    clear qw10'
    clear NR
    go_wp2_with fail
    go_ret
    exact ⟨rfl, Q.out⟩
  ·
    have H2 : id < 0 ∨ d.nodes ≤ id := by
      have h := H.out
      rw [Bool.true_and] at h
      unfold cK at h
      have := of_decide_eq_false h
      omega
    obtain ⟨d0, _⟩ := bL C.out
    by_cases h0 : id < 0
    ·
      clear H2
      go_wp2_with fail
      (with_reducible refine (AL.out w8').mono ?_)
      rintro ew11' w11' ⟨rfl, qw11'⟩
      replace C := aA (aB C.out qw11')
      replace T := aA (aB T.out qw11')
      replace N := aA (aB N.out qw11')
      replace Q := aA (aC Q.out Q.out.size qw11')
      clear qw11'
      clear AL
      go_wp2_with (refine bU (by kernel_rfl) 53 (.tmp 9) (by rfl) nb (by rfl) 53 zNd.cs.toArray (0, 0) _ (by exact N.out) Tryz.underlying53 (by rfl) (by kernel_rfl) ?_)
      (with_reducible refine (NR.out w11').mono ?_)
      rintro ew12' w12' ⟨rfl, qw12'⟩
      replace C := aA (aB C.out qw12')
      replace T := aA (aB T.out qw12')
      replace N := aA (aB N.out qw12')
      replace Q := aA (aC Q.out Q.out.size qw12')
      clear qw12'
      clear NR
      go_wp2_with fail
      go_ret
      exact ⟨rfl, Q.out⟩
    ·
      have h1 : d.nodes ≤ id := by omega
      clear H2
      go_wp2_with fail
      (with_reducible refine (AL.out w8').mono ?_)
      rintro ew13' w13' ⟨rfl, qw13'⟩
      replace C := aA (aB C.out qw13')
      replace T := aA (aB T.out qw13')
      replace N := aA (aB N.out qw13')
      replace Q := aA (aC Q.out Q.out.size qw13')
      clear qw13'
      clear AL
      go_wp2_with (refine bU (by kernel_rfl) 53 (.tmp 9) (by rfl) nb (by rfl) 53 zNd.cs.toArray (0, 0) _ (by exact N.out) Tryz.underlying53 (by rfl) (by kernel_rfl) ?_)
      (with_reducible refine (NR.out w13').mono ?_)
      rintro ew14' w14' ⟨rfl, qw14'⟩
      replace C := aA (aB C.out qw14')
      replace T := aA (aB T.out qw14')
      replace N := aA (aB N.out qw14')
      replace Q := aA (aC Q.out Q.out.size qw14')
      clear qw14'
      clear NR
      go_wp2_with fail
      go_ret
      exact ⟨rfl, Q.out⟩
set_option maxRecDepth 100000 in
set_option maxHeartbeats 16000000 in
theorem nb_bad2 (c d : Cf) (id : Int) (t u : Tv) (mem : Int) (w : World) (hcl : c.l.length ≤ c.c) (hd : d = { c with l := c.l.take 6 }) (hts : t.data.size ≤ maxLen) (hu : u = { t with data := t.data.extract 0 (min t.data.size 12) }) (hui : 0 ≤ u.id ∧ 0 ≤ u.mask) (ho : d.Ok w) (hmem : 0 ≤ mem ∧ mem < 65536) (hb : cF d = true) (hi0 : 0 ≤ id) (hi1 : id < d.nodes) (ht : tvB u = false) :
    Calls Tryz.prog 3 #[.agg c.cs.toArray, .int .i64 id, .agg (bD t).toArray, .int .u16 mem] w fun e w' => e = .returned (.bool true) ∧ Below w.heap.size w w' := by
  obtain ⟨w0, hw0⟩ : ∃ w0, w0 = (w.alloc (.cells c.cs.toArray 25)).alloc (.cells (bD t).toArray 27) := ⟨_, rfl⟩
  have C := aA (aB (World.alloc_heap_new w (.cells c.cs.toArray 25)) ((Below.refl _ (w.alloc (.cells c.cs.toArray 25))).alloc (Nat.le_refl _) (.cells (bD t).toArray 27)))
  have T := aA (World.alloc_heap_new (w.alloc (.cells c.cs.toArray 25)) (.cells (bD t).toArray 27))
  have Q : Hid (Below w.heap.size w w0) := by rw [hw0]; exact aA (((Below.refl w.heap.size w).alloc (Nat.le_refl _) (.cells c.cs.toArray 25)).alloc (by simp; try omega) (.cells (bD t).toArray 27))
  rw [← hw0] at C T
  simp only [World.size_alloc] at T
  have FE := aA (fun W => few28_any c (c.l.take 6) W rfl hcl)
  rw [← hd] at FE
  obtain ⟨m, em, hm⟩ := jL (P := Tryz.prog) (t.data.size : Int) 12
  obtain ⟨k, hk⟩ : ∃ k : Nat, k = min t.data.size 12 := ⟨_, rfl⟩
  have hmk : m = k := by omega
  subst hmk
  have hkl : k ≤ t.data.size := by omega
  rw [← hk] at hu
  unfold maxLen at hts
  have HU := aA hu
  have DOK := aA (fun W (q : Below w.heap.size w W) => ho.next q)
  have AL := aA alive28
  have CR := aA (fun W (q : Below w.heap.size w W) => cD d W (ho.next q))
  have TR := aA (fun W => iY u W hui.1 hui.2)
  clear hk em hd hcl hu hui
  have NR := aA (fun W => ndRight_no zNd W (zNd_ok W) (by kernel_rfl))
  have NE := aA (fun W (q : Below w.heap.size w W) => show Calls Tryz.prog 6 #[.agg d.cs.toArray, .int .i64 id, .agg (bD u).toArray, .int .u16 mem] W fun e w' => e = .returned (.tuple #[.agg zNd.cs.toArray, .int .i64 1]) ∧ Below W.heap.size W w' from
    (ndNew_in d id u mem W (ho.next q) hb hi0 hi1 hmem).mono fun e w' h => by
      obtain ⟨⟨E, h | h⟩, k⟩ := h
      · obtain ⟨_, rfl, e1⟩ := h
        exact ⟨e1, k⟩
      · rw [ht] at h
        cases h.1)
  rw [hb] at CR
  rw [ht] at TR
  clear hb ht ho
  go_enter Tryz.func3, Tryz.ntmps3
  go_upto_region 1 with fail
  change Code.wp _ _ _ _ ((w.alloc (.cells c.cs.toArray 25)).alloc (.cells (bD t).toArray 27))
  rw [← hw0]
  clear hw0
  go_wp2_with (refine wpList_load_row rfl 25 (.tmp 4) (by rfl) w.heap.size (by rfl) 25 c.cs.toArray (0, 0) _ (by exact C.out) Tryz.underlying25 (by rfl) (by kernel_rfl) ?_)
  (with_reducible refine (FE.out w0).mono ?_)
  rintro ew1' w1' ⟨rfl, qw1'⟩
  replace C := aA (aB C.out qw1')
  replace T := aA (aB T.out qw1')
  replace Q := aA (aC Q.out Q.out.size qw1')
  clear qw1'
  clear FE
  have c5 := (dI T.out).2.2.2.2.2.1
  have f5 : w1'.frozen? ⟨w.heap.size + 1, 5, none⟩ = false := by have := T.out; simp [World.frozen?, this]
  clear c5 f5
  have Tw2' := aA (show World.there _ w.heap.size 0 8 from aK (cs := c.cs) C.out)
  go_wp2_with (refine aF (by rfl) 25 (.tmp 4) (.tmp 19) (by rfl) w.heap.size 0 d.cs (by rfl) (by rfl) (by exact Tw2'.out) (by kernel_rfl) (by simp [Value.oneCell', Cf.cs]) ?_)
  intro w2' ew2'
  replace T := aA (show w2'.heap[w.heap.size + 1]? = some (.cells (bD t).toArray 27 (0, 0)) by rw [ew2'.out]; exact aG (by omega) _ _ _ T.out)
  replace Q := aA (show Below w.heap.size w w2' by rw [ew2'.out]; exact Q.out.trans (aE _ _ _ (by have := Q.out.size; omega)))
  replace C := aA (show w2'.heap[w.heap.size]? = some (.cells d.cs.toArray 25 (0, 0)) by rw [ew2'.out]; exact aJ d.cs (xs := c.cs) C.out rfl)
  clear ew2' Tw2'
  have c5 := (dI T.out).2.2.2.2.2.1
  have f5 : w2'.frozen? ⟨w.heap.size + 1, 5, none⟩ = false := by have := T.out; simp [World.frozen?, this]
  go_upto_region 3 with fail
  clear c5 f5 hm hkl hts
  obtain ⟨w3', ew3'⟩ : ∃ wq, wq = (w2').setCell ⟨w.heap.size + 1, 5, none⟩ (.string (t.data.extract 0 k)) := ⟨_, rfl⟩
  rw [← ew3']
  replace C := aA (show w3'.heap[w.heap.size]? = some (.cells d.cs.toArray 25 (0, 0)) by rw [ew3']; exact aG (by omega) [.string (t.data.extract 0 k)] 5 _ (C.out))
  replace Q := aA (show Below w.heap.size w w3' by rw [ew3']; exact Below.trans (Q.out) (aE [.string (t.data.extract 0 k)] 5 _ (by have := Q.out.size; omega)))
  replace T := aA (show w3'.heap[w.heap.size + 1]? = some (.cells (bD ({ t with data := t.data.extract 0 k } : Tv)).toArray 27 (0, 0)) by rw [ew3']; exact aU [.string (t.data.extract 0 k)] (bD t) 5 _ T.out)
  clear ew3'
  rw [← HU.out] at T
  clear HU
  go_wp2_with (first | (refine wpList_load_row rfl 25 (.tmp 4) (by rfl) w.heap.size (by rfl) 25 d.cs.toArray (0, 0) _ (by exact C.out) Tryz.underlying25 (by rfl) (by kernel_rfl) ?_) | (refine wpList_load_row rfl 27 (.tmp 6) (by rfl) (w.heap.size + 1) (by rfl) 27 (bD u).toArray (0, 0) _ (by exact T.out) Tryz.underlying27 (by rfl) (by kernel_rfl) ?_))
  (with_reducible refine (NE.out w3' Q.out).mono ?_)
  rintro ew4' w4' ⟨rfl, qw4'⟩
  replace C := aA (aB C.out qw4')
  replace T := aA (aB T.out qw4')
  replace Q := aA (aC Q.out Q.out.size qw4')
  clear qw4'
  clear NE
  have N := World.alloc_heap_new w4' (.cells zNd.cs.toArray 53)
  have zCnb : w.heap.size < w4'.heap.size := aH C.out
  have zTnb : w.heap.size + 1 < w4'.heap.size := aH T.out
  have zQnb : w.heap.size ≤ w4'.heap.size := Q.out.size
  obtain ⟨w6', hw6'⟩ : ∃ wx, wx = w4'.alloc (.cells zNd.cs.toArray 53) := ⟨_, rfl⟩
  have q5' := aA (show Below w4'.heap.size w4' w6' by rw [hw6']; exact (Below.refl _ _).alloc (Nat.le_refl _) _)
  rw [← hw6'] at N
  replace N := aA N
  have Tw7' := aA (show (w4'.alloc (.cells zNd.cs.toArray 53)).there w4'.heap.size 0 91 by rw [← hw6']; exact aK (cs := zNd.cs) N.out)
  go_wp2_with (refine aF (by rfl) 53 (.tmp 9) (.tmp 34) (by rfl) w4'.heap.size 0 zNd.cs (by rfl) (by rfl) (by exact Tw7'.out) (by kernel_rfl) (by exact dB _) ?_)
  intro w7' ew7'
  replace ew7' : Hid (w7' = w6'.setCells w4'.heap.size 0 zNd.cs) := by rw [hw6']; exact ew7'
  replace N := aA (show w7'.heap[w4'.heap.size]? = some (.cells zNd.cs.toArray 53 (0, 0)) by rw [ew7'.out]; exact aJ zNd.cs (xs := zNd.cs) N.out rfl)
  replace q5' := aA (show Below w4'.heap.size w4' w7' by rw [ew7'.out]; exact q5'.out.trans (aE _ _ _ (by omega)))
  clear ew7' Tw7' hw6'
  replace C := aA (aB C.out q5'.out)
  replace T := aA (aB T.out q5'.out)
  replace Q := aA (aC Q.out Q.out.size q5'.out)
  clear q5'
  generalize w4'.heap.size = nb at *
  have k0 : decide (id < 0) = false := by simp only [decide_eq_false_iff_not]; omega
  have k1 : decide (d.nodes ≤ id) = false := by simp only [decide_eq_false_iff_not]; omega
  clear hi0 hi1
  go_wp2_with (refine wpList_load_row rfl 25 (.tmp 4) (by rfl) w.heap.size (by rfl) 25 d.cs.toArray (0, 0) _ (by exact C.out) Tryz.underlying25 (by rfl) (by kernel_rfl) ?_)
  (with_reducible refine (CR.out w7' Q.out).mono ?_)
  rintro ew8' w8' ⟨rfl, qw8'⟩
  replace C := aA (aB C.out qw8')
  replace T := aA (aB T.out qw8')
  replace N := aA (aB N.out qw8')
  replace Q := aA (aC Q.out Q.out.size qw8')
  clear qw8'
  clear CR
  obtain ⟨d0, _⟩ := bL C.out
  go_wp2_with (refine bU (by kernel_rfl) 27 (.tmp 6) (by rfl) (w.heap.size + 1) (by rfl) 27 (bD u).toArray (0, 0) _ (by exact T.out) Tryz.underlying27 (by rfl) (by kernel_rfl) ?_)
  (with_reducible refine (TR.out w8').mono ?_)
  rintro ew9' w9' ⟨rfl, qw9'⟩
  replace C := aA (aB C.out qw9')
  replace T := aA (aB T.out qw9')
  replace N := aA (aB N.out qw9')
  replace Q := aA (aC Q.out Q.out.size qw9')
  clear qw9'
  clear TR
  clear d0 k0 k1
  go_wp2_with fail
  (with_reducible refine (AL.out w9').mono ?_)
  rintro ew10' w10' ⟨rfl, qw10'⟩
  replace C := aA (aB C.out qw10')
  replace T := aA (aB T.out qw10')
  replace N := aA (aB N.out qw10')
  replace Q := aA (aC Q.out Q.out.size qw10')
  clear qw10'
  clear AL
  go_wp2_with (refine bU (by kernel_rfl) 53 (.tmp 9) (by rfl) nb (by rfl) 53 zNd.cs.toArray (0, 0) _ (by exact N.out) Tryz.underlying53 (by rfl) (by kernel_rfl) ?_)
  (with_reducible refine (NR.out w10').mono ?_)
  rintro ew11' w11' ⟨rfl, qw11'⟩
  replace C := aA (aB C.out qw11')
  replace T := aA (aB T.out qw11')
  replace N := aA (aB N.out qw11')
  replace Q := aA (aC Q.out Q.out.size qw11')
  clear qw11'
  clear NR
  go_wp2_with fail
  go_ret
  exact ⟨rfl, Q.out⟩
end Go.Proofs.YtkmddjbialpppaaGreatDoor
