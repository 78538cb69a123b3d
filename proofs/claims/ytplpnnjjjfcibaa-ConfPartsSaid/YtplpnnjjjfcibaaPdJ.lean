/- The walk of PduOne. -/
import Derived.Test.YtplpnnjjjfcibaaMgPdH
import Derived.Test.YtplpnnjjjfcibaaMgPdU
namespace Go.Proofs.Ytplpnnjjjfcibaa
open Go.ChangeShapes Go.WideShapes Go.ChangeAt Go.RowKit
open SG PD

theorem rd_mset {W W' : World} {bm n : Nat} {f : Int → Bool} (hm : MSet W bm n f) (hg : W.grownBy W' (some bm)) {B sz : Nat} {A : Option Addr} {cs : List (List Value)} (hB : B ≤ W.heap.size) (h : Rd W B A sz cs) : Rd W' B A sz cs := fun hn => by
  obtain ⟨b, off, e, hlt, hc⟩ := h hn
  refine ⟨b, off, e, hlt, fun k row j v h1 h2 => ?_⟩
  have c := hc k row j v h1 h2
  have hne : b ≠ bm := by
    rintro rfl
    obtain ⟨D, ⟨es, clock, hb, _⟩, _⟩ := hm
    simp [World.cell?, hb] at c
  rw [World.cell?_of_block (hg.block b (by omega) (by simpa using hne))]
  exact c
theorem heap_mset {W W' : World} {bm n : Nat} {f : Int → Bool} (hm : MSet W bm n f) (hg : W.grownBy W' (some bm)) {b : Nat} {cs : Array Value} {t : TypeId} {fz : Nat × Nat} (h : W.heap[b]? = some (.cells cs t fz)) : W'.heap[b]? = some (.cells cs t fz) := by
  have hne : b ≠ bm := by
    rintro rfl
    obtain ⟨D, ⟨es, clock, hb, _⟩, _⟩ := hm
    rw [h] at hb
    cases hb
  rw [hg.block b (Array.getElem?_eq_some_iff.1 h).1 (by simpa using hne)]
  exact h
/-- Is a number one of the first j places? -/
def inP (l : List Nat) (j : Nat) (y : Int) : Bool := (l.take j).any fun p => (p : Int) == y
theorem inP_succ (l : List Nat) (j : Nat) (h : j < l.length) : (fun y => if y = (l[j] : Int) then true else inP l j y) = inP l (j + 1) := by
  funext y
  unfold inP
  rw [List.take_succ_eq_append_getElem h, List.any_append]
  by_cases e : y = (l[j] : Int)
  · rw [if_pos e]; simp [e]
  · rw [if_neg e]
    have : ((l[j] : Int) == y) = false := by rw [beq_eq_false_iff_ne]; exact fun e2 => e e2.symm
    simp [this]
theorem slInt64 : SlT Try.prog 26 2 1 8 := SlT.mk Try.underlying26 (z := .int .i64 0) (by kernel_rfl) rfl (by decide)
theorem inRow_len (l : List Int) : (inRow l).length = l.length := by simp [inRow]
theorem inRow_rows (l : List Int) : ∀ r ∈ inRow l, r.length = 1 := by
  intro r hr
  obtain ⟨p, _, rfl⟩ := List.mem_map.1 hr
  rfl
theorem made_bools (w : World) (n : Nat) : BoR (w.alloc (.cells (madeCells #[.bool false] n) 4)) (w.alloc (.cells (madeCells #[.bool false] n) 4)).heap.size (some ⟨w.heap.size, 0, none⟩) (List.replicate n false) := fun hn => by
  have hm := World.rowIs_made w (.bool false) n 4
  refine ⟨w.heap.size, 0, rfl, by simp, fun k row j v hk hj => ?_⟩
  have hkn : k < n := by
    have := (List.getElem?_eq_some_iff.1 hk).1
    simpa [boRow] using this
  have hr : row = [.bool false] := by
    have h2 : (boRow (List.replicate n false))[k]? = some [.bool false] := by simp [boRow, hkn]
    rw [hk] at h2
    exact Option.some.inj h2
  subst hr
  match j, hj with
  | 0, hj =>
    simp only [List.getElem?_cons_zero, Option.some.injEq] at hj
    subst hj
    have := hm.cell hkn
    simpa using this

set_option maxRecDepth 100000 in
set_option maxHeartbeats 8000000 in
theorem pduOne_walk (L0 : Ly) (A : Option Addr) (c : Nat) (B : Option Addr) (d : Nat) (vs : List Int) (VA : Option Addr) (vc : Nat) (at_ v : Int) (w : World) (hA0 : SgR w w.heap.size A L0.sgs) (hB0 : InR w w.heap.size B L0.nws) (hV : InR w w.heap.size VA vs)
    (hc0 : L0.sgs.length ≤ c) (hd0 : L0.nws.length ≤ d) (hvc : vs.length ≤ vc) (hvcm : vc ≤ maxLen) (hvs : ∀ x ∈ vs, -9223372036854775808 ≤ x ∧ x < 9223372036854775808) (hv1 : -9223372036854775808 ≤ v) (hv2 : v < 9223372036854775808) :
    Calls Try.prog 3 #[.agg (lyV L0 A c B d), .slice VA vs.length vc, .int .i64 at_, .int .i64 v] w fun e w' => e = .returned (.bool true) ∧ Below w.heap.size w w' := by
  have FW := hide (fun W => few_any L0 A c B d W hc0 hd0)
  obtain ⟨L, hL⟩ : ∃ L, L = fewL L0 := ⟨_, rfl⟩
  have hA : SgR w w.heap.size A L.sgs := by
    have := hA0.take 20
    rw [← List.map_take] at this
    rw [hL]; exact this
  have hB : InR w w.heap.size B L.nws := by
    have := hB0.take 20
    unfold inRow at this
    rw [← List.map_take] at this
    rw [hL]; exact this
  have hl20 : L.sgs.length ≤ 20 := by rw [hL]; show (L0.sgs.take 20).length ≤ 20; rw [List.length_take]; omega
  have hn20 : L.nws.length ≤ 20 := by rw [hL]; show (L0.nws.take 20).length ≤ 20; rw [List.length_take]; omega
  have hc : L.sgs.length ≤ c := by rw [hL]; show (L0.sgs.take 20).length ≤ c; rw [List.length_take]; omega
  have hd : L.nws.length ≤ d := by rw [hL]; show (L0.nws.take 20).length ≤ d; rw [List.length_take]; omega
  rw [← hL] at FW
  have HA := hide hA
  have HB := hide hB
  have HV := hide hV
  have HVS := hide hvs
  have AL := hide (fun W => alive15_any W)
  clear hL hA0 hB0 hA hB hV hvs
  have q0 : Below w.heap.size w (w.alloc (.cells (lyV L0 A c B d) 25)) := (Below.refl _ _).alloc (Nat.le_refl _) _
  have B0 := hide (World.alloc_heap_new w (.cells (lyV L0 A c B d) 25))
  unfold lyV at *
  obtain ⟨c0, c1, c2⟩ := three_cells B0.out
  go_enter Try.func3, Try.ntmps3
  go_wp2_with fail
  (with_reducible refine (FW.out _).mono ?_)
  rintro e1 w1 ⟨rfl, q1⟩
  have B1 := hide (heap_below B0.out q1)
  have Q1 := hide (below_next q0 q0.size q1)
  clear q0 q1 B0 FW c0 c1 c2
  have TH := hide (show w1.there w.heap.size 0 3 from there_heap (cs := [_, _, _]) B1.out)
  go_wp2_with (refine wpList_store_hid (by rfl) 25 (.tmp 4) (.tmp 20) (by rfl) w.heap.size 0 [.int .i64 L.size, .slice A L.sgs.length c, .slice B L.nws.length d] (by rfl) (by rfl) (by exact TH.out) (by kernel_rfl) (by simp [Value.oneCell']) ?_)
  intro w2 e2
  have B2 := hide (show w2.heap[w.heap.size]? = some (.cells #[.int .i64 L.size, .slice A L.sgs.length c, .slice B L.nws.length d] 25 (0, 0)) by rw [e2.out]; exact whole_heap [.int .i64 L.size, .slice A L.sgs.length c, .slice B L.nws.length d] (xs := [_, _, _]) B1.out rfl)
  have Q2 := hide (show Below w.heap.size w w2 by rw [e2.out]; exact Q1.out.trans (below_setCells (g := w.heap.size) _ 0 _ (Nat.le_refl _)))
  clear TH e2 B1 Q1
  obtain ⟨c0, c1, c2⟩ := three_cells B2.out
  have hmk := fun W => run_make_row' (P := Try.prog) 28 4 (.bool false) 1 Try.underlying28 (by kernel_rfl) rfl .i64 .i64 L.sgs.length (by omega) (by omega) W
  go_upto_region 3 with fail
  clear c0 c1 c2
  have N3 := hide (made_bools w2 L.sgs.length)
  have q3 : Below w2.heap.size w2 (w2.alloc (.cells (madeCells #[.bool false] L.sgs.length) 4)) := (Below.refl _ _).alloc (Nat.le_refl _) _
  have B3 := hide (heap_below B2.out q3)
  have Q3 := hide (below_next Q2.out Q2.out.size q3)
  have z3 : w2.heap.size < (w2.alloc (.cells (madeCells #[.bool false] L.sgs.length) 4)).heap.size := by simp
  clear hmk q3 B2 Q2
  generalize hw3 : w2.alloc (.cells (madeCells #[.bool false] L.sgs.length) 4) = w3 at *
  clear hw3
  generalize w2.heap.size = nbk at *
  by_cases hok : packB L vs.length L.sgs.length = true
  · have hok2 : rightB L = true ∧ vs.length = L.sgs.length := by
      unfold packB at hok
      simp only [Bool.and_eq_true, decide_eq_true_eq] at hok
      exact ⟨hok.1, hok.2.1⟩
    obtain ⟨hr, hvl⟩ := hok2
    have PK := hide (fun (W : World) (hb : Below w.heap.size w W) (us : List Int) (hul : us.length = L.sgs.length) (UA : Option Addr) (uc : Nat) (huc : us.length ≤ uc) (hU : InR W W.heap.size UA us) (hus : ∀ x ∈ us, -9223372036854775808 ≤ x ∧ x < 9223372036854775808) (hNB : BoR W W.heap.size (some ⟨nbk, 0, none⟩) (List.replicate L.sgs.length false)) =>
      pack_in L A c B d us (List.replicate L.sgs.length false) UA uc (some ⟨nbk, 0, none⟩) L.sgs.length 0 W (Rd.next HA.out hb hb.size) (Rd.next HB.out hb hb.size) (by omega) (by omega) hc hd hU hNB hus hr hul (by simp) huc (by simp))
    have PK1 := PK.out w3 Q3.out vs hvl VA vc hvc (Rd.next HV.out Q3.out Q3.out.size) HVS.out N3.out
    have e0 : ((UInt8.toNat 0 : Nat) : Int) = 0 := rfl
    unfold lyV at PK1
    rw [e0, List.length_replicate] at PK1
    replace PK1 := hide PK1
    have HVL := hide hvl
    clear hok hvl
    obtain ⟨c0, c1, c2⟩ := three_cells B3.out
    go_wp2_with fail
    (with_reducible refine (PK1.out).mono ?_)
    rintro e4 w4 ⟨hp, q4⟩
    have Q4 := hide (below_next Q3.out Q3.out.size q4)
    have B4 := hide (heap_below B3.out q4)
    have N4 := hide (Rd.next N3.out q4 q4.size)
    clear PK1 c0 c1 c2 e0 q4
    rcases hp with ⟨hfit, rfl⟩ | ⟨hfit, rfl⟩
    · have HFIT := hide hfit
      have HPL := hide (packF_length L vs (List.replicate L.sgs.length false) 0)
      obtain ⟨pa, hpa⟩ : ∃ pa, pa = packF L vs (List.replicate L.sgs.length false) 0 := ⟨_, rfl⟩
      rw [← hpa] at HPL ⊢
      have HPA := hide hpa
      clear hfit hpa
      have e1 : ((vs.length : Int) == (L.sgs.length : Int)) = true := by rw [beq_iff_eq, HVL.out]
      have e2 : ((vs.length : Int) != (L.sgs.length : Int)) = false := by simp [bne, e1]
      obtain ⟨c0, c1, c2⟩ := three_cells B4.out
      by_cases hn0 : vs.length = 0
      · have e3 : ((vs.length : Int) == 0) = true := by rw [beq_iff_eq]; omega
        clear hn0
        go_wp2_with fail
        (with_reducible refine (AL.out _).mono ?_)
        rintro e5 w5 ⟨rfl, q5⟩
        have q := below_next Q4.out Q4.out.size q5
        go_wp2_with fail
        go_ret
        exact ⟨rfl, q⟩
      · have e3 : ((vs.length : Int) == 0) = false := by rw [beq_eq_false_iff_ne]; omega
        have hnp : 0 < vs.length := by omega
        have hvl20 : vs.length ≤ 20 := by rw [HVL.out]; exact hl20
        have ht1 : -(vs.length : Int) < at_.tmod vs.length := Int.lt_tmod_of_pos _ (by omega)
        have ht2 : at_.tmod vs.length < (vs.length : Int) := Int.tmod_lt_of_pos _ (by omega)
        clear hn0
        go_upto_region 7 with fail
        obtain ⟨k, hk⟩ : ∃ k : Nat, (at_.tmod vs.length + vs.length) % vs.length = (k : Int) := Int.eq_ofNat_of_zero_le (Int.emod_nonneg _ (by omega))
        have hkn : k < vs.length := by have := Int.emod_lt_of_pos (at_.tmod vs.length + vs.length) (show 0 < (vs.length : Int) by omega); omega
        rw [hk]
        clear hk ht1 ht2 c0 c1 c2 e1 e2 e3
        have q5 : Below w4.heap.size w4 (w4.alloc (.cells #[] 2)) := (Below.refl _ _).alloc (Nat.le_refl _) _
        have zw4 : w.heap.size + 1 ≤ w4.heap.size := heap_lt B4.out
        have O5 := hide (Own.lit w4 w4.heap.size 2 1 [] (Nat.le_refl _) (by simp) (by simp))
        have RD5 := hide (Rd.next HV.out (below_next Q4.out Q4.out.size q5) (below_next Q4.out Q4.out.size q5).size)
        have B5 := hide (heap_below B4.out q5)
        have N5 := hide (Rd.next N4.out q5 q5.size)
        have Q5 := hide (below_next Q4.out Q4.out.size q5)
        have E1 := hide (show (([] : List (List Value)).length + (inRow vs).length) * 8 ≤ 140737488355328 by rw [inRow_len]; simp; omega)
        have E2 := hide (show ([] : List (List Value)).length + (inRow vs).length ≤ maxLen by rw [inRow_len]; simp [maxLen]; omega)
        have E3 := hide (show vs.length = (inRow vs).length by rw [inRow_len])
        have E4 := hide (show w4.heap.size ≤ (w4.alloc (.cells #[] 2)).heap.size by simp)
        have E6 := hide (show ∀ r ∈ inRow vs, ∀ u ∈ r, u.oneCell' = true from fun r hr u hu => by
          obtain ⟨x, _, rfl⟩ := List.mem_map.1 hr
          rw [List.mem_singleton.1 hu]
          rfl)
        go_upto_region 8 with (at_builtin; refine wpList_append_rows _ rfl _ _ 26 rfl slInt64 w4.heap.size _ _ _ [] (by rfl) (by exact O5.out) _ _ _ (inRow vs) (by rfl) (by exact RD5.out) (by exact inRow_rows vs) (by exact E6.out) (by exact E1.out) (by exact E2.out) (by exact E4.out) (by rfl) (by exact E3.out) ?_)
        intro A6 c6 w6 o6 g6
        have hb6 : Below w4.heap.size w4 w6 := q5.trans (below_own g6 O5.out E4.out)
        have B6 := hide (heap_below B4.out hb6)
        have N6 := hide (Rd.next N4.out hb6 hb6.size)
        have Q6 := hide (below_next Q4.out Q4.out.size hb6)
        have o6' : Own w6 w4.heap.size 2 1 A6 c6 (inRow vs) := o6
        obtain ⟨g, rfl, hg1, hg2⟩ := o6'.ofLen (by rw [inRow_len]; exact hnp)
        have hrow : (inRow vs)[k]? = some [.int .i64 vs[k]] := by simp [inRow, hkn]
        have ck := own_at o6' (inRow_rows vs) hrow (j := 0) rfl
        have fk := World.ownsRow.frozenAt o6' k
        have ck' : w6.cell? ⟨g, k, none⟩ = some (.int .i64 vs[k]) := by simpa using ck
        have fk' : w6.frozen? ⟨g, k, none⟩ = false := fk
        obtain ⟨s1, s2⟩ := Own.setRow (row := [.int .i64 v]) o6' (inRow_rows vs) (k := k) (by rw [inRow_len]; exact hkn) rfl
        have es : w6.setCells g (k * 1) [.int .i64 v] = w6.setCell ⟨g, k, none⟩ (.int .i64 v) := by simp [World.setCells]
        have er : (inRow vs).set k [.int .i64 v] = inRow (vs.set k v) := by simp [inRow, List.map_set]
        rw [es, er] at s1
        have O7 := hide s1
        have hc6 : vs.length ≤ c6 := by have := o6'.le; rwa [inRow_len] at this
        have hb7 : Below w4.heap.size w6 (w6.setCell ⟨g, k, none⟩ (.int .i64 v)) := (Below.refl _ _).setCell (p := ⟨g, k, none⟩) hg1 _
        have B7 := hide (heapB B6.out hb7 (by omega : w.heap.size < w4.heap.size))
        have N7 := hide (Rd.more (Rd.below (Rd.below N4.out hb6) hb7) (by simp [World.setCell]; exact hb6.size : w4.heap.size ≤ (w6.setCell ⟨g, k, none⟩ (.int .i64 v)).heap.size))
        have hki : (k : Int) < (vs.length : Int) := by omega
        have Q7 := hide (Q6.out.setCell (p := ⟨g, k, none⟩) (show w.heap.size ≤ g by omega) (.int .i64 v))
        have hul : (vs.set k v).length = L.sgs.length := by rw [List.length_set, HVL.out]
        have hus : ∀ x ∈ vs.set k v, -9223372036854775808 ≤ x ∧ x < 9223372036854775808 := by
          intro x hx
          rcases List.mem_or_eq_of_mem_set hx with h | h
          · exact HVS.out x h
          · rw [h]; exact ⟨hv1, hv2⟩
        have PK2 := PK.out _ Q7.out (vs.set k v) hul (some ⟨g, 0, none⟩) c6 (by rw [List.length_set]; exact hc6) (O7.out.rd (inRow_rows _)) hus N7.out
        have e0 : ((UInt8.toNat 0 : Nat) : Int) = 0 := rfl
        unfold lyV at PK2
        rw [e0, List.length_replicate, List.length_set] at PK2
        replace PK2 := hide PK2
        obtain ⟨c0, c1, c2⟩ := three_cells B7.out
        have hwk : IntKind.i64.wrap (k : Int) = (k : Int) := IntWalk.i64_in _ (by omega)
        clear O5 RD5 B5 N5 Q5 E1 E2 E3 E4 E6 o6 g6 hb6 B6 N6 Q6 o6' hrow ck fk s1 s2 es er hb7 hus e0 q5
        generalize hw7 : w6.setCell ⟨g, k, none⟩ (.int .i64 v) = w7 at *
        generalize vs[k] = vk at *
        go_wp2_with fail
        (with_reducible refine (PK2.out).mono ?_)
        rintro e8 w8 ⟨hp2, q8⟩
        have Q8 := hide (below_next Q7.out Q7.out.size q8)
        have B8 := hide (heap_below B7.out q8)
        clear PK2 PK c0 c1 c2 ck' fk' hw7 O7 N7 B7 Q7 hul q8
        rcases hp2 with ⟨hfit, rfl⟩ | ⟨hfit, rfl⟩
        · have HFIT2 := hide hfit
          have HPL2 := hide (packF_length L (vs.set k v) (List.replicate L.sgs.length false) 0)
          obtain ⟨pb, hpb⟩ : ∃ pb, pb = packF L (vs.set k v) (List.replicate L.sgs.length false) 0 := ⟨_, rfl⟩
          rw [← hpb] at HPL2 ⊢
          have HPB := hide hpb
          clear hfit hpb
          have hks : k < L.sgs.length := by rw [← HVL.out]; exact hkn
          have RP := hide (fun W => refPlaces_any L.sgs[k] W)
          have hmm := @run_makeMap Try.prog
          obtain ⟨c0, c1, c2⟩ := three_cells B8.out
          obtain ⟨ab, ao, rfl, hab, s0, s1, s2, s3⟩ := SgR.at_ (Rd.below HA.out Q8.out) hks
          have zw8 : w.heap.size < w8.heap.size := heap_lt B8.out
          have M0 := hide (MSet.made w8)
          have qm : Below w8.heap.size w8 (w8.alloc (.map #[] 0)) := (Below.refl _ _).alloc (Nat.le_refl _) _
          have hksi : (k : Int) < (L.sgs.length : Int) := by omega
          have zab : ab < w8.heap.size := Nat.lt_of_lt_of_le hab Q8.out.size
          have t0 := cellBelow qm zab s0
          have t1 := cellBelow qm zab s1
          have t2 := cellBelow qm zab s2
          have t3 := cellBelow qm zab s3
          have B9 := hide (heap_below B8.out qm)
          have Q9 := hide (below_next Q8.out Q8.out.size qm)
          obtain ⟨d0, d1, d2⟩ := three_cells B9.out
          clear s0 s1 s2 s3 c0 c1 c2 hkn
          go_wp2_with fail
          (with_reducible refine (RP.out _).mono ?_)
          rintro e9 w9 ⟨⟨PA, pc, rfl, hP⟩, q9⟩
          have M9 := hide (M0.out.below q9)
          have B10 := hide (heap_below B9.out q9)
          have Q10 := hide (below_next Q9.out Q9.out.size q9)
          have RP9 := hide hP
          clear t0 t1 t2 t3 d0 d1 d2 M0 B9 Q9 hP RP q9 hmm qm B8 Q8
          go_wp2_with fail
          have hll : (plL L.sgs[k]).length ≤ 64 := by
            by_cases h0 : plL L.sgs[k] = []
            · rw [h0]; simp
            · have := plL_length h0; omega
          have PLT := hide (fun p (hp : p ∈ plL L.sgs[k]) => plL_lt hp)
          obtain ⟨l, hl⟩ : ∃ l, l = plL L.sgs[k] := ⟨_, rfl⟩
          rw [← hl] at hll PLT RP9 ⊢
          have HL := hide hl
          clear hl
          have MS0 : Hid (MSet w9 w8.heap.size 0 (inP l 0)) := hide (by have := M9.out; exact this)
          generalize w8.heap.size = mb at *
          go_loopw [91] (fun vi W => ∃ j : Nat, j ≤ l.length ∧ vi = .int .i64 j ∧ Hid (MSet W mb j (inP l j)) ∧ Hid (NR W w9.heap.size PA l) ∧ Hid (W.heap[w.heap.size]? = some (.cells #[.int .i64 L.size, .slice (some ⟨ab, ao, none⟩) L.sgs.length c, .slice B L.nws.length d] 25 (0, 0))) ∧ Hid (Below w.heap.size w W) ∧ w9.heap.size ≤ W.heap.size) (fun vi _ => l.length - (intOf vi).toNat)
          case atStart => exact ⟨0, Nat.zero_le _, rfl, MS0, RP9, B10, Q10, Nat.le_refl _⟩
          case round =>
            obtain ⟨j, hj, rfl, hM, hR, hB, hQ, hz⟩ := hrel
            clear MS0 RP9 B10 Q10 M9
            by_cases hjl : j < l.length
            · obtain ⟨pb3, po3, rfl, hpb3, p0⟩ := hR.out.at_ hjl
              have hlp := PLT.out l[j] (List.getElem_mem hjl)
              obtain ⟨W2, hput, ms2, hg2⟩ := hM.out.put (by unfold maxLen; omega) (l[j] : Int) (i64_wf (by omega) (by omega)) true
              rw [inP_succ l j hjl] at ms2
              have MS2 := hide ms2
              have R2 := hide (rd_mset hM.out hg2 hz hR.out)
              have B11 := hide (heap_mset hM.out hg2 hB.out)
              have Q11 := hide (hQ.out.grown hg2 hQ.out.size (fun j e => by cases e; omega))
              have hz2 : w9.heap.size ≤ W2.heap.size := Nat.le_trans hz hg2.size
              have hji : (j : Int) < (l.length : Int) := by omega
              clear ms2 hg2 hM hR hB hQ hpb3
              generalize l[j] = pj at *
              go_wp2_with fail
              go_roundw
              case rel => exact ⟨j + 1, by omega, by go_num, MS2, R2, B11, Q11, hz2⟩
              case measure => simp [intOf]; omega
            · obtain rfl : j = l.length := by omega
              have hr8 := (right_iff.1 hr).2.1
              have hr0 := (right_iff.1 hr).1
              have ha := HPL.out
              have hb := HPL2.out
              have sa : (⟨pa.toArray⟩ : ByteArray).size = pa.length := size_ofL pa
              have sb : (⟨pb.toArray⟩ : ByteArray).size = pb.length := size_ofL pb
              obtain ⟨n8, hn8⟩ : ∃ n8 : Nat, n8 = L.size.toNat := ⟨_, rfl⟩
              rw [← hn8] at ha hb
              rw [ha] at sa
              rw [hb] at sb
              have hn88 : n8 ≤ 8 := by omega
              obtain ⟨m, em, hm⟩ := run_min (P := Try.prog) (n8 : Int) (n8 : Int)
              have em2 : m = (n8 : Int) := by omega
              subst em2
              clear em
              go_wp2_with fail
              go_loopw [104] (fun vi W => ∃ x : Nat, x ≤ 8 * n8 ∧ vi = .int .i64 x ∧ Hid (MSet W mb l.length (inP l l.length)) ∧ Hid (W.heap[w.heap.size]? = some (.cells #[.int .i64 L.size, .slice (some ⟨ab, ao, none⟩) L.sgs.length c, .slice B L.nws.length d] 25 (0, 0))) ∧ Hid (Below w.heap.size w W)) (fun vi _ => 8 * n8 - (intOf vi).toNat)
              case atStart => exact ⟨0, Nat.zero_le _, rfl, hM, hB, hQ⟩
              case round =>
                obtain ⟨x, hx, rfl, hM2, hB2, hQ2⟩ := hrel
                by_cases hx8 : x < 8 * n8
                · have hget := hM2.out.get (x : Int) (i64_wf (by omega) (by omega))
                  have hxi : (x : Int) < 8 * (n8 : Int) := by omega
                  have hxb : (x : Int) ≤ 64 := by omega
                  cases hin : inP l l.length (x : Int) with
                  | true =>
                    rw [hin] at hget
                    clear hin
                    go_wp2_with fail
                    go_roundw
                    case rel => exact ⟨x + 1, by omega, by go_num, hM2, hB2, hQ2⟩
                    case measure => simp [intOf]; omega
                  | false =>
                    have hnot : x ∉ l := by
                      intro hm2
                      have : inP l l.length (x : Int) = true := by
                        unfold inP
                        rw [List.take_of_length_le (Nat.le_refl _), List.any_eq_true]
                        exact ⟨x, hm2, by simp⟩
                      rw [hin] at this
                      cases this
                    have gd : L.sgs.getD k dflt = L.sgs[k] := by simp [List.getD_eq_getElem?_getD, hks]
                    have EQ := one_out hr vs (List.replicate L.sgs.length false) 0 (at_ := k) v (x := x) (by rw [gd, ← HL.out]; exact hnot)
                    rw [← HPA.out, ← HPB.out] at EQ
                    have RA := hide (fun W => show Calls Try.prog 14 #[.string ⟨pa.toArray⟩, .int .i64 x] W fun e w' => e = .returned (.int .i64 (if bitL pa x then 1 else 0)) ∧ W = w' from refBit_any ⟨pa.toArray⟩ x W (by rw [sa]; omega) (by rw [sa]; omega))
                    have RB := hide (fun W => show Calls Try.prog 14 #[.string ⟨pb.toArray⟩, .int .i64 x] W fun e w' => e = .returned (.int .i64 (if bitL pb x then 1 else 0)) ∧ W = w' from refBit_any ⟨pb.toArray⟩ x W (by rw [sb]; omega) (by rw [sb]; omega))
                    rw [EQ] at RA
                    generalize (if bitL pb x then (1 : Int) else 0) = bt at *
                    rw [hin] at hget
                    clear hin EQ gd hnot
                    go_wp2_with fail
                    (with_reducible refine (RA.out _).mono ?_)
                    rintro ea wa ⟨rfl, rfl⟩
                    go_wp2_with fail
                    (with_reducible refine (RB.out _).mono ?_)
                    rintro eb wb ⟨rfl, rfl⟩
                    go_wp2_with fail
                    go_roundw
                    case rel => exact ⟨x + 1, by omega, by go_num, hM2, hB2, hQ2⟩
                    case measure => simp [intOf]; omega
                · have hxe : (x : Int) = 8 * (n8 : Int) := by omega
                  have hnl : ¬ (x : Int) < 8 * (n8 : Int) := by omega
                  clear hxe
                  go_wp2_with fail
                  (with_reducible refine (AL.out _).mono ?_)
                  rintro ea wa ⟨rfl, qa⟩
                  have Qa := hide (below_next hQ2.out hQ2.out.size qa)
                  have Ba := hide (heap_below hB2.out qa)
                  have hkv : k < vs.length := by rw [HVL.out]; exact hks
                  have gv : vs.getD k 0 = vs[k] := by simp [List.getD_eq_getElem?_getD, hkv]
                  have IFF := one_same hr vs (List.replicate L.sgs.length false) 0 hks HVL.out v hv2 (by rw [gv]; exact (HVS.out _ (List.getElem_mem hkv)).2) HFIT.out HFIT2.out
                  rw [← HPA.out, ← HPB.out, gv] at IFF
                  have ES : (pa == pb) = (v == vs[k]) := by rw [Bool.eq_iff_iff, beq_iff_eq, beq_iff_eq]; exact IFF
                  obtain ⟨vb, vo, rfl, hvb, v0⟩ := InR.at_ (Rd.below HV.out Qa.out) hkv
                  have hkvi : (k : Int) < (vs.length : Int) := by omega
                  have hls : L.size = (n8 : Int) := by omega
                  obtain ⟨c0, c1, c2⟩ := three_cells Ba.out
                  rw [hls] at c0
                  generalize vs[k] = vk at *
                  clear IFF gv hls
                  go_wp2_with fail
                  go_ret
                  exact ⟨rfl, Qa.out⟩
        · clear hfit HFIT HPL HPA
          go_wp2_with fail
          (with_reducible refine (AL.out _).mono ?_)
          rintro e9 w9 ⟨rfl, q9⟩
          have q := below_next Q8.out Q8.out.size q9
          go_wp2_with fail
          go_ret
          exact ⟨rfl, q⟩
    · go_wp2_with fail
      (with_reducible refine (AL.out _).mono ?_)
      rintro e5 w5 ⟨rfl, q5⟩
      have q := below_next Q4.out Q4.out.size q5
      go_wp2_with fail
      go_ret
      exact ⟨rfl, q⟩
  · have hok2 : packB L vs.length L.sgs.length = false := by simpa using hok
    have e0 : ((UInt8.toNat 0 : Nat) : Int) = 0 := rfl
    have PK := (pack_bad L A c B d vs.length L.sgs.length VA vc (some ⟨nbk, 0, none⟩) L.sgs.length 0 w3 (Rd.next HA.out Q3.out Q3.out.size) (Rd.next HB.out Q3.out Q3.out.size) (by omega) (by omega) hc hd hok2)
    unfold lyV at PK
    rw [e0] at PK
    replace PK := hide PK
    clear hok hok2 e0
    obtain ⟨c0, c1, c2⟩ := three_cells B3.out
    go_wp2_with fail
    (with_reducible refine (PK.out).mono ?_)
    rintro e4 w4 ⟨rfl, q4⟩
    have Q4 := hide (below_next Q3.out Q3.out.size q4)
    clear q4 PK c0 c1 c2
    go_wp2_with fail
    (with_reducible refine (AL.out _).mono ?_)
    rintro e5 w5 ⟨rfl, q5⟩
    have q := below_next Q4.out Q4.out.size q5
    go_wp2_with fail
    go_ret
    exact ⟨rfl, q⟩
end Go.Proofs.Ytplpnnjjjfcibaa
