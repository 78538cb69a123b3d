/- The walk of bus.Run. -/
import Derived.Test.YthkilodnghiocaaGreatDoorBuV
namespace Go.Proofs.YthkilodnghiocaaGreatDoor
open Go.ChangeShapes Go.WideShapes Go.ChangeAt Go.RowKit
open FP (Fr)

def snRows (s : List Sn) : List (List Value) := s.map sncs
theorem snRows_len (s : List Sn) : (snRows s).length = s.length := by simp [snRows]
theorem snRows_rows (s : List Sn) : ∀ r ∈ snRows s, r.length = 9 := fun r hr => by
  unfold snRows at hr
  obtain ⟨c, _, rfl⟩ := List.mem_map.1 hr
  rfl
/-- What of a row of events is seen behind k of them. -/
def sees (s : List Sn) (now : Int) (l : List Mc) (k : Nat) : List Sn := s ++ seens now 0 (l.take k)
theorem sees_none (s : List Sn) (now : Int) (l : List Mc) {k : Nat} (hk : k < l.length) (h : l[k].kind = 0) : sees s now l (k + 1) = sees s now l k := by
  unfold sees
  rw [List.take_succ_eq_append_getElem hk, seens_snoc, if_pos h, List.append_nil]
theorem sees_some (s : List Sn) (now : Int) (l : List Mc) {k : Nat} (hk : k < l.length) (h : l[k].kind ≠ 0) : sees s now l (k + 1) = sees s now l k ++ [⟨now, k, l[k].kind, l[k].ef, l[k].bad⟩] := by
  unfold sees
  rw [List.take_succ_eq_append_getElem hk, seens_snoc, if_neg h, List.append_assoc, List.length_take, Nat.min_eq_left (by omega), Nat.zero_add]
theorem sees_le (s : List Sn) (now : Int) (l : List Mc) (k : Nat) : (sees s now l k).length ≤ s.length + l.length := by
  unfold sees
  have := seens_le now (l.take k) 0
  rw [List.length_append]
  rw [List.length_take] at this
  omega
theorem ev_at {W : World} {B : Nat} {A : Option Addr} {l : List Mc} (h : Rd W B A 7 (evRows l)) {k : Nat} (hk : k < l.length) : ∃ g off, A = some ⟨g, off, none⟩ ∧ g < B ∧ W.rangeAt g (off + k * 7) (evL l[k].kind l[k].ef l[k].bad) := by
  obtain ⟨g, off, e, hb, hr⟩ := rd_range h (k := k) (by rw [evRows_len]; exact hk)
  unfold evRows at hr
  rw [List.getElem_map] at hr
  exact ⟨g, off, e, hb, hr⟩
theorem ev_cellsB {W : World} {x : Nat} {k : Int} {f : Fr} {bad : Int} {t : TypeId} {fz : Nat × Nat} (h : W.heap[x]? = some (.cells (evL k f bad).toArray t fz)) :
    W.cell? ⟨x, 0, none⟩ = some (.int .i64 k) ∧ W.cell? ⟨x, 1, none⟩ = some (.int .u32 f.id) ∧ W.cell? ⟨x, 2, none⟩ = some (.bool f.ext) ∧ W.cell? ⟨x, 3, none⟩ = some (.bool f.rem) ∧ W.cell? ⟨x, 4, none⟩ = some (.int .i64 f.dlc) ∧ W.cell? ⟨x, 5, none⟩ = some (.string f.data) ∧ W.cell? ⟨x, 6, none⟩ = some (.int .i64 bad) := by
  simp [World.cell?, h, evL]
/-- Where a bus's controllers stand: as they came, or in the call's own. -/
def CtS (w W : World) (A : Option Addr) (c : Nat) (l0 l : List Cl) (k : Nat) (A' : Option Addr) (c' : Nat) : Prop := (k = 0 ∧ A' = A ∧ c' = c ∧ l = l0) ∨ Own W (w.heap.size + 2) 73 23 A' c' (clRows l)
theorem CtS.grown {w W W' : World} {A : Option Addr} {c : Nat} {l0 l : List Cl} {k : Nat} {A' : Option Addr} {c' : Nat} (h : CtS w W A c l0 l k A' c') (q : Below W.heap.size W W') : CtS w W' A c l0 l k A' c' := h.elim .inl fun h => .inr (h.grown q)
theorem CtS.rd {w W : World} {A : Option Addr} {c : Nat} {l0 l : List Cl} {k : Nat} {A' : Option Addr} {c' : Nat} (h : CtS w W A c l0 l k A' c') (h0 : ClR w w.heap.size A l0) (q : Below w.heap.size w W) : ClR W W.heap.size A' l := by
  rcases h with ⟨_, rfl, _, rfl⟩ | h
  · exact h0.next q q.size
  · exact h.rd (cl_rows _)

set_option maxRecDepth 100000 in
set_option maxHeartbeats 32000000 in
theorem busRun_ok (l : List Cl) (A : Option Addr) (c : Nat) (now : Int) (n : Nat) (w : World) (hr : ClR w w.heap.size A l) (h1 : 1 ≤ l.length) (h4 : l.length ≤ 4) (hn0 : 0 ≤ now) (hn1 : now + n ≤ 1099511627776) (hn : n ≤ 20000) (hok : AllOk l) :
    Calls Tryz.prog 8 #[.agg (busL A l.length c now).toArray, .int .i64 n] w fun e w' => ∃ A' c' E ec, e = .returned (.tuple #[.agg (busL A' l.length c' (now + n)).toArray, .slice E (snB l now n).length ec, .int .i64 0]) ∧ ClR w' w'.heap.size A' (itB l n) ∧ Own w' w.heap.size 52 9 E ec (snRows (snB l now n)) ∧ (Own w' w.heap.size 73 23 A' c' (clRows (itB l n)) ∨ n = 0 ∧ A' = A) ∧ Below w.heap.size w w' := by
  obtain ⟨w0, hw0⟩ : ∃ w0, w0 = (w.alloc (.cells (busL A l.length c now).toArray 37)).alloc (.cells (busL none 0 0 0).toArray 37) := ⟨_, rfl⟩
  have step : ∀ (W : World) (o : Obj), Below W.heap.size W (W.alloc o) := fun W o => (Below.refl _ _).alloc (Nat.le_refl _) _
  have B := hide (heap_below (World.alloc_heap_new w (.cells (busL A l.length c now).toArray 37)) (step _ (.cells (busL none 0 0 0).toArray 37)))
  have R := hide (World.alloc_heap_new (w.alloc (.cells (busL A l.length c now).toArray 37)) (.cells (busL none 0 0 0).toArray 37))
  have Q : Hid (Below w.heap.size w w0) := by rw [hw0]; exact hide ((step _ _).alloc (by simp) _)
  rw [← hw0] at B R
  simp only [World.size_alloc] at R
  have RT := hide (busRight_ok l A c now w0 (hr.next Q.out Q.out.size) h1 h4 hn0 (by omega) hok)
  have HR := hide hr
  have HOK := hide (fun k => AllOk.it hok k)
  have HIL := hide (fun k => it_len l k)
  have SNL := hide (fun k (hk : k ≤ n) => show (snB l now k).length ≤ 80000 by
    have := sn_le l now k
    have h5 : k * l.length ≤ 20000 * 4 := Nat.mul_le_mul (by omega) h4
    omega)
  have EVL := hide (fun k => show (evB (itB l k)).length = l.length by unfold evB; rw [List.length_map, it_len])
  have EVS := hide (fun k => show sees (snB l now k) (now + k) (evB (itB l k)) l.length = snB l now (k + 1) by
    unfold sees
    rw [List.take_of_length_le (by unfold evB; rw [List.length_map, it_len]; exact Nat.le_refl _)]
    rfl)
  have STP := hide (fun k => show stpB (itB l k) = itB l (k + 1) from rfl)
  have hw1 : IntKind.i64.wrap (1099511627776 - (n : Int)) = 1099511627776 - (n : Int) := IntWalk.i64_in _ (by omega)
  have hgt : ¬ 1099511627776 - (n : Int) < now := by omega
  have hnn : ¬ (n : Int) < 0 := by omega
  have hnl : ¬ (20000 : Int) < (n : Int) := by omega
  clear hr step
  go_enter Tryz.func8, Tryz.ntmps8
  go_upto_region 1 with fail
  change Code.wp _ _ _ _ ((w.alloc (.cells (busL A l.length c now).toArray 37)).alloc (.cells (busL none 0 0 0).toArray 37))
  rw [← hw0]
  clear hw0
  go_wp2_with (refine wpList_load_row rfl 37 (.tmp 2) (by rfl) w.heap.size (by rfl) 37 (busL A l.length c now).toArray (0, 0) _ (by exact B.out) Tryz.underlying37 (by rfl) (by kernel_rfl) ?_)
  (with_reducible refine (RT.out).mono ?_)
  rintro ew1' w1' ⟨rfl, qw1'⟩
  replace B := hide (heap_below B.out qw1')
  replace R := hide (heap_below R.out qw1')
  replace Q := hide (below_next Q.out Q.out.size qw1')
  clear qw1'
  clear RT
  obtain ⟨b0, b1⟩ := bus_cells B.out
  go_wp2_with fail
  clear b0 b1 hw1 hgt hnn hnl
  go_loopw [32, 7] (fun vi v7 W => ∃ (k : Nat) (A1 : Option Addr) (c1 : Nat) (E : Option Addr) (ec : Nat), k ≤ n ∧ vi = .int .i64 k ∧ v7 = .slice E (snB l now k).length ec ∧ Hid (CtS w W A c l (itB l k) k A1 c1) ∧ Hid (Own W (w.heap.size + 2) 52 9 E ec (snRows (snB l now k))) ∧ Hid (W.heap[w.heap.size]? = some (.cells (busL A1 l.length c1 (now + k)).toArray 37 (0, 0))) ∧ Hid (W.heap[w.heap.size + 1]? = some (.cells (busL none 0 0 0).toArray 37 (0, 0))) ∧ Hid (Below w.heap.size w W)) (fun vi _ _ => n - (intOf vi).toNat)
  case atStart => exact ⟨0, A, c, none, 0, Nat.zero_le _, rfl, rfl, hide (.inl ⟨rfl, rfl, rfl, rfl⟩), hide Own.nil, by rw [show now + ((0 : Nat) : Int) = now by omega]; exact B, R, Q⟩
  case round =>
    clear B R Q
    obtain ⟨k, A1, c1, E, ec, hk, rfl, rfl, CS, OE, B, R, Q⟩ := hrel
    by_cases hlt : k < n
    · have hki : (k : Int) < (n : Int) := by omega
      have SP := hide (show Calls Tryz.prog 22 #[.agg (busL A1 l.length c1 (now + k)).toArray, .slice none 0 0] wr fun e w' => ∃ A' c' E ec, e = .returned (.tuple #[.agg (busL A' l.length c' (now + k + 1)).toArray, .slice E l.length ec]) ∧ Own w' wr.heap.size 73 23 A' c' (clRows (stpB (itB l k))) ∧ Own w' wr.heap.size 50 7 E ec (evRows (evB (itB l k))) ∧ Below wr.heap.size wr w' from by
        have := busStep_in (itB l k) A1 c1 (now + k) wr (CS.out.rd HR.out Q.out) (by rw [HIL.out]; exact h1) (by rw [HIL.out]; exact h4) (by omega) (by omega) (HOK.out k)
        rw [HIL.out] at this
        exact this)
      have zQ0 : w.heap.size ≤ wr.heap.size := Q.out.size
      have zR0 : w.heap.size + 1 < wr.heap.size := heap_lt R.out
      have EV2 := hide (EVL.out k)
      have ES := hide (EVS.out k)
      have SL := hide (SNL.out k (by omega))
      rw [STP.out] at SP
      clear CS
      generalize evB (itB l k) = ev at *
      generalize snB l now k = sn at *
      go_wp2_with (refine wpList_load_row rfl 37 (.tmp 2) (by rfl) w.heap.size (by rfl) 37 (busL A1 l.length c1 (now + k)).toArray (0, 0) _ (by exact B.out) Tryz.underlying37 (by rfl) (by kernel_rfl) ?_)
      (with_reducible refine (SP.out).mono ?_)
      rintro e2 w2 ⟨A2, c2, E2, ec2, rfl, O2, V2, q2⟩
      replace O2 := hide (O2.mono (show w.heap.size + 2 ≤ wr.heap.size by omega))
      replace V2 := hide (V2.mono (show w.heap.size + 2 ≤ wr.heap.size by omega))
      replace B := hide (heap_below B.out q2)
      replace R := hide (heap_below R.out q2)
      replace OE := hide (OE.out.grown q2)
      replace Q := hide (below_next Q.out Q.out.size q2)
      clear q2
      clear SP
      have X := World.alloc_heap_new w2 (.cells (busL none 0 0 0).toArray 37)
      have zBx : w.heap.size < w2.heap.size := heap_lt B.out
      have zRx : w.heap.size + 1 < w2.heap.size := heap_lt R.out
      have zQx : w.heap.size ≤ w2.heap.size := Q.out.size
      obtain ⟨w3', hw3'⟩ : ∃ wx, wx = w2.alloc (.cells (busL none 0 0 0).toArray 37) := ⟨_, rfl⟩
      have q2' := hide (show Below w2.heap.size w2 w3' by rw [hw3']; exact (Below.refl _ _).alloc (Nat.le_refl _) _)
      rw [← hw3'] at X
      replace X := hide X
      have Tw4' := hide (show (w2.alloc (.cells (busL none 0 0 0).toArray 37)).there w2.heap.size 0 2 by rw [← hw3']; exact there_heap (cs := busL none 0 0 0) X.out)
      go_wp2_with (refine wpList_store_hid (by rfl) 37 (.tmp 8) (.tmp 37) (by rfl) w2.heap.size 0 (busL A2 l.length c2 (now + k + 1)) (by rfl) (by rfl) (by exact Tw4'.out) (by kernel_rfl) (by simp [Value.oneCell', busL]) ?_)
      intro w4' ew4'
      replace ew4' : Hid (w4' = w3'.setCells w2.heap.size 0 (busL A2 l.length c2 (now + k + 1))) := by rw [hw3']; exact ew4'
      replace X := hide (show w4'.heap[w2.heap.size]? = some (.cells (busL A2 l.length c2 (now + k + 1)).toArray 37 (0, 0)) by rw [ew4'.out]; exact whole_heap (busL A2 l.length c2 (now + k + 1)) (xs := busL none 0 0 0) X.out rfl)
      replace q2' := hide (show Below w2.heap.size w2 w4' by rw [ew4'.out]; exact q2'.out.trans (below_setCells _ _ _ (by omega)))
      clear ew4' Tw4' hw3'
      replace B := hide (heap_below B.out q2'.out)
      replace R := hide (heap_below R.out q2'.out)
      replace OE := hide (OE.out.grown q2'.out)
      replace O2 := hide (O2.out.grown q2'.out)
      replace V2 := hide (V2.out.grown q2'.out)
      replace Q := hide (below_next Q.out Q.out.size q2'.out)
      clear q2'
      generalize w2.heap.size = x at *
      have zx : w.heap.size + 1 < x := by omega
      go_wp2_with fail
      go_loopw [41, 7] (fun vi v7 W => ∃ (j : Nat) (E : Option Addr) (ec : Nat), j ≤ l.length ∧ vi = .int .i64 j ∧ v7 = .slice E (sees sn (now + k) ev j).length ec ∧ Hid (Own W (w.heap.size + 2) 52 9 E ec (snRows (sees sn (now + k) ev j))) ∧ Hid (Own W (w.heap.size + 2) 73 23 A2 c2 (clRows (itB l (k + 1)))) ∧ Hid (Own W (w.heap.size + 2) 50 7 E2 ec2 (evRows ev)) ∧ Hid (W.heap[w.heap.size]? = some (.cells (busL A1 l.length c1 (now + k)).toArray 37 (0, 0))) ∧ Hid (W.heap[w.heap.size + 1]? = some (.cells (busL none 0 0 0).toArray 37 (0, 0))) ∧ Hid (W.heap[x]? = some (.cells (busL A2 l.length c2 (now + k + 1)).toArray 37 (0, 0))) ∧ Hid (Below w.heap.size w W)) (fun vi _ _ => l.length - (intOf vi).toNat)
      case atStart => exact ⟨0, E, ec, Nat.zero_le _, rfl, by rw [show sees sn (now + k) ev 0 = sn by unfold sees; simp [seens]], by rw [show sees sn (now + k) ev 0 = sn by unfold sees; simp [seens]]; exact OE, O2, V2, B, R, X, Q⟩
      case round =>
        clear B R X Q OE O2 V2
        obtain ⟨j, E, ec, hj, rfl, rfl, OE, O2, V2, B, R, X, Q⟩ := hrel
        by_cases hjl : j < l.length
        · have hji : (j : Int) < (l.length : Int) := by omega
          have hj0 : ¬ (j : Int) < 0 := by omega
          have hje : j < ev.length := by have := EV2.out; omega
          obtain ⟨g, off, hA, hg, hra⟩ := ev_at (V2.out.rd (evRows_rows _)) hje
          have PA := hide hra
          have S0 := hide (sees_none sn (now + k) ev hje)
          have S1 := hide (sees_some sn (now + k) ev hje)
          have SLE := hide (show (sees sn (now + k) ev j).length ≤ 100000 by have := sees_le sn (now + k) ev j; have := SL.out; have := EV2.out; omega)
          generalize ev[j] = m at *
          obtain ⟨mc, kd, ef, bd⟩ := m
          dsimp only at PA S0 S1
          subst hA
          clear hra hg
          have Y := World.alloc_heap_new wr (.cells (evL 0 zFr 0).toArray 50)
          have zBy : w.heap.size < wr.heap.size := heap_lt B.out
          have zRy : w.heap.size + 1 < wr.heap.size := heap_lt R.out
          have zXy : x < wr.heap.size := heap_lt X.out
          have zQy : w.heap.size ≤ wr.heap.size := Q.out.size
          obtain ⟨w6', hw6'⟩ : ∃ wx, wx = wr.alloc (.cells (evL 0 zFr 0).toArray 50) := ⟨_, rfl⟩
          have q5' := hide (show Below wr.heap.size wr w6' by rw [hw6']; exact (Below.refl _ _).alloc (Nat.le_refl _) _)
          rw [← hw6'] at Y
          replace Y := hide Y
          have Tw7' := hide (show (wr.alloc (.cells (evL 0 zFr 0).toArray 50)).there wr.heap.size 0 7 by rw [← hw6']; exact there_heap (cs := evL 0 zFr 0) Y.out)
          go_wp2_with (first | (refine wpList_load_mid rfl 50 (.tmp 44) (by rfl) g (off + j * 7) (by rfl) (evL kd ef bd) _ (by exact PA.out) Tryz.underlying50 (by rfl) (by kernel_rfl) ?_) | (refine wpList_store_hid (by rfl) 50 (.tmp 11) (.tmp 45) (by rfl) wr.heap.size 0 (evL kd ef bd) (by rfl) (by rfl) (by exact Tw7'.out) (by kernel_rfl) (by simp [Value.oneCell', evL]) ?_))
          intro w7' ew7'
          replace ew7' : Hid (w7' = w6'.setCells wr.heap.size 0 (evL kd ef bd)) := by rw [hw6']; exact ew7'
          replace Y := hide (show w7'.heap[wr.heap.size]? = some (.cells (evL kd ef bd).toArray 50 (0, 0)) by rw [ew7'.out]; exact whole_heap (evL kd ef bd) (xs := evL 0 zFr 0) Y.out rfl)
          replace q5' := hide (show Below wr.heap.size wr w7' by rw [ew7'.out]; exact q5'.out.trans (below_setCells _ _ _ (by omega)))
          clear ew7' Tw7' hw6'
          replace B := hide (heap_below B.out q5'.out)
          replace R := hide (heap_below R.out q5'.out)
          replace X := hide (heap_below X.out q5'.out)
          replace OE := hide (OE.out.grown q5'.out)
          replace O2 := hide (O2.out.grown q5'.out)
          replace V2 := hide (V2.out.grown q5'.out)
          replace Q := hide (below_next Q.out Q.out.size q5'.out)
          clear q5'
          generalize wr.heap.size = y at *
          clear PA
          rcases Int.decEq kd 0 with hkd | hkd
          case isTrue =>
            subst hkd
            have SE := hide (S0.out rfl)
            rw [← SE.out] at OE
            obtain ⟨v0, v1, v2, v3, v4, v5, v6⟩ := ev_cellsB Y.out
            clear S0 S1
            go_wp2_with fail
            go_roundw
            case rel => exact ⟨j + 1, E, ec, by omega, by go_num, by rw [SE.out], OE, O2, V2, B, R, X, Q⟩
            case measure => simp [intOf]; omega
          case isFalse =>
            have hb2 : (kd != 0) = true := by simpa using hkd
            have SE := hide (S1.out hkd)
            have HKD := hide hkd
            clear S0 S1 hkd
            generalize sees sn (now + k) ev j = sj at *
            obtain ⟨v0, v1, v2, v3, v4, v5, v6⟩ := ev_cellsB Y.out
            go_upto_region 11 with fail
            clear v0 v1 v2 v3 v4 v5 v6
            obtain ⟨b0, b1⟩ := bus_cells B.out
            have HSJ := hide (show sj.length = (snRows sj).length by rw [snRows_len])
            have HSL := hide (show (snRows sj).length ≤ 1000000000 by rw [snRows_len]; have := SLE.out; omega)
            have z2 := Q.out.size
            have zR2 := heap_lt R.out
            go_wp2_with (first | (refine wpList_load_row rfl 50 (.tmp 11) (by rfl) y (by rfl) 50 #[.int .i64 kd, .int .u32 ef.id, .bool ef.ext, .bool ef.rem, .int .i64 ef.dlc, .string ef.data, .int .i64 bd] (0, 0) _ (by exact Y.out) Tryz.underlying50 (by rfl) (by kernel_rfl) ?_) | (at_builtin; refine wpList_append_one _ _ (sncs ⟨now + k, j, kd, ef, bd⟩) (by rfl) rfl _ _ 46 rfl slSn (by decide) rfl (by simp [sncs, evL, Value.oneCell']) (w.heap.size + 2) _ _ _ (snRows sj) (by rfl) (by exact OE.out) 1 (by rfl) HSL.out (by omega) HSJ.out ?_))
            intro A3 c3 w9 ap
            have OE9 := hide (show Own w9 (w.heap.size + 2) 52 9 A3 c3 (snRows (sees sn (now + k) ev (j + 1))) by rw [SE.out]; unfold snRows; rw [List.map_append]; exact ap.own)
            have O29 := hide (ap.other O2.out (by decide))
            have V29 := hide (ap.other V2.out (by decide))
            have B9 := hide (ap.low B.out (by omega))
            have R9 := hide (ap.low R.out (by omega))
            have X9 := hide (ap.heap X.out (by decide))
            have Q9 := hide (ap.q Q.out (by omega))
            clear ap OE O2 V2 B R X Y Q b0 b1 z2 zR2
            go_wp2_with fail
            go_roundw
            case rel => exact ⟨j + 1, A3, c3, by omega, by go_num, by rw [SE.out, List.length_append]; rfl, OE9, O29, V29, B9, R9, X9, Q9⟩
            case measure => simp [intOf]; omega
        · obtain rfl : j = l.length := by omega
          rw [ES.out] at OE
          have TB := hide (show wr.there w.heap.size 0 2 from there_heap (cs := busL A1 l.length c1 (now + k)) B.out)
          have zx2 := heap_lt X.out
          go_wp2_with (first | (refine wpList_load_row rfl 37 (.tmp 8) (by rfl) x (by rfl) 37 (busL A2 l.length c2 (now + k + 1)).toArray (0, 0) _ (by exact X.out) Tryz.underlying37 (by rfl) (by kernel_rfl) ?_) | (refine wpList_store_hid (by rfl) 37 (.tmp 2) (.tmp 58) (by rfl) w.heap.size 0 (busL A2 l.length c2 (now + k + 1)) (by rfl) (by rfl) (by exact TB.out) (by kernel_rfl) (by simp [Value.oneCell', busL]) ?_))
          intro w5 e5
          have B5 := hide (show w5.heap[w.heap.size]? = some (.cells (busL A2 l.length c2 (now + k + 1)).toArray 37 (0, 0)) by rw [e5.out]; exact whole_heap (busL A2 l.length c2 (now + k + 1)) (xs := busL A1 l.length c1 (now + k)) B.out rfl)
          have R5 := hide (show w5.heap[w.heap.size + 1]? = some (.cells (busL none 0 0 0).toArray 37 (0, 0)) by rw [e5.out]; exact other_heap (by omega) _ _ _ R.out)
          have Q5 := hide (show Below w.heap.size w w5 by rw [e5.out]; exact Q.out.trans (below_setCells _ _ _ (by omega)))
          have OE5 := hide (show Own w5 (w.heap.size + 2) 52 9 E ec (snRows (snB l now (k + 1))) by rw [e5.out]; exact own_setCells (by omega) _ _ _ OE.out)
          have O25 := hide (show Own w5 (w.heap.size + 2) 73 23 A2 c2 (clRows (itB l (k + 1))) by rw [e5.out]; exact own_setCells (by omega) _ _ _ O2.out)
          have hkk : now + ((k + 1 : Nat) : Int) = now + k + 1 := by omega
          rw [← hkk] at B5
          clear e5 TB B R Q OE O2 V2 X hkk
          go_wp2_with fail
          go_roundw
          case rel => exact ⟨k + 1, A2, c2, E, ec, by omega, by go_num, by rw [ES.out], hide (.inr O25.out), OE5, B5, R5, Q5⟩
          case measure => simp [intOf]; omega
    · obtain rfl : k = n := by omega
      have TR := hide (show wr.there (w.heap.size + 1) 0 2 from there_heap (cs := busL none 0 0 0) R.out)
      go_wp2_with (first | (refine wpList_load_row rfl 37 (.tmp 2) (by rfl) w.heap.size (by rfl) 37 (busL A1 l.length c1 (now + k)).toArray (0, 0) _ (by exact B.out) Tryz.underlying37 (by rfl) (by kernel_rfl) ?_) | (refine wpList_store_hid (by rfl) 37 (.tmp 4) (.tmp 60) (by rfl) (w.heap.size + 1) 0 (busL A1 l.length c1 (now + k)) (by rfl) (by rfl) (by exact TR.out) (by kernel_rfl) (by simp [Value.oneCell', busL]) ?_))
      intro w6 e6
      have R6 := hide (show w6.heap[w.heap.size + 1]? = some (.cells (busL A1 l.length c1 (now + k)).toArray 37 (0, 0)) by rw [e6.out]; exact whole_heap (busL A1 l.length c1 (now + k)) (xs := busL none 0 0 0) R.out rfl)
      have Q6 := hide (show Below w.heap.size w w6 by rw [e6.out]; exact Q.out.trans (below_setCells _ _ _ (by omega)))
      have C6 := hide (show CtS w w6 A c l (itB l k) k A1 c1 from CS.out.elim .inl fun h => .inr (by rw [e6.out]; exact own_setCells (by omega) _ _ _ h))
      have E6 := hide (show Own w6 (w.heap.size + 2) 52 9 E ec (snRows (snB l now k)) by rw [e6.out]; exact own_setCells (by omega) _ _ _ OE.out)
      have FC := hide (show Own w6 w.heap.size 73 23 A1 c1 (clRows (itB l k)) ∨ k = 0 ∧ A1 = A from C6.out.elim (fun h => .inr ⟨h.1, h.2.1⟩) fun h => .inl (h.mono (by omega)))
      have C7 := hide (C6.out.rd HR.out Q6.out)
      have E7 := hide (E6.out.mono (show w.heap.size ≤ w.heap.size + 2 by omega))
      clear e6 TR B R Q CS OE C6 E6
      go_wp2_with fail
      refine bodyPost_ret (results_cell_tmp2 (by rfl) _ w6 (w.heap.size + 1) 37 (busL A1 l.length c1 (now + k)).toArray (0, 0) _ (.slice E (snB l now k).length ec) (.int .i64 0) (by rfl) (by rfl) (by rfl) R6.out Tryz.underlying37 (by rfl) (by kernel_rfl)) rfl ⟨A1, c1, E, ec, rfl, C7.out, E7.out, FC.out, Q6.out⟩
end Go.Proofs.YthkilodnghiocaaGreatDoor
