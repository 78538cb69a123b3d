/- The walk of pdu.Unpack. -/
import Derived.Test.YtnhegnneohpkaaaGreatMgSgG
import Derived.Test.YtnhegnneohpkaaaGreatMgPdH
import Derived.Test.YtnhegnneohpkaaaGreatMgSnC
namespace Go.Proofs.YtnhegnneohpkaaaGreat
open Go.ChangeShapes Go.WideShapes Go.ChangeAt Go.RowKit
open SG PD

theorem slBool : SlT Tryz.prog 36 4 1 1 := SlT.mk Tryz.underlying36 (z := .bool false) (by kernel_rfl) rfl (by decide)
theorem unV_take (L : Ly) (d : List UInt8) {k : Nat} (hk : k < L.sgs.length) : inRow ((unV L d).take (k + 1)) = inRow ((unV L d).take k) ++ [[.int .i64 (getF d L.sgs[k])]] := by
  have : k < (unV L d).length := by simpa [unV] using hk
  rw [List.take_succ_eq_append_getElem this]
  simp [inRow, unV]
theorem unN_take (L : Ly) (d : List UInt8) {k : Nat} (hk : k < L.nws.length) : boRow ((unN L d).take (k + 1)) = boRow ((unN L d).take k) ++ [[.bool (newB d L.nws[k])]] := by
  have : k < (unN L d).length := by simpa [unN] using hk
  rw [List.take_succ_eq_append_getElem this]
  simp [boRow, unN]
theorem oneS_get {p : Nat} (d : List UInt8) (h : p < 64) : getF d (oneS p) = if bitL d p then 1 else 0 := by
  unfold getF
  rw [oneS_pl h]
  unfold oneS sgnI
  simp [getN]
  split <;> rfl

/-- What Unpack answers. -/
def UnpV (w w' : World) (L : Ly) (s : ByteArray) (e : Ending) : Prop :=
  (wellL L s.size ≠ 0 ∧ e = .returned (.tuple #[.slice none 0 0, .slice none 0 0, .int .i64 (wellL L s.size)])) ∨
  (wellL L s.size = 0 ∧ ∃ VA vc NA nc, e = .returned (.tuple #[.slice VA L.sgs.length vc, .slice NA L.sgs.length nc, .int .i64 0]) ∧ Own w' w.heap.size 2 1 VA vc (inRow (unV L s.data.toList)) ∧ Own w' w.heap.size 4 1 NA nc (boRow (unN L s.data.toList)))

set_option maxRecDepth 100000 in
set_option maxHeartbeats 8000000 in
theorem unpack_any (L : Ly) (A : Option Addr) (c : Nat) (B : Option Addr) (d : Nat) (s : ByteArray) (w : World) (hA : SgR w w.heap.size A L.sgs) (hB : InR w w.heap.size B L.nws) (hs : L.sgs.length ≤ 1000) (hn : L.nws.length ≤ 1000) (hc : L.sgs.length ≤ c) (hd : L.nws.length ≤ d) (hz : s.size ≤ 1000000) :
    Calls Tryz.prog 36 #[.agg (lyV L A c B d), .string s] w fun e w' => UnpV w w' L s e ∧ Below w.heap.size w w' := by
  have q0 : Below w.heap.size w (w.alloc (.cells (lyV L A c B d) 27)) := (Below.refl _ _).alloc (Nat.le_refl _) _
  have B0 := hide (World.alloc_heap_new w (.cells (lyV L A c B d) 27))
  have WL := hide (fun (W : World) (hb : Below w.heap.size w W) => pduWell_any L A c B d s W (Rd.next hA hb hb.size) (Rd.next hB hb hb.size) hs hn hc hd hz)
  have HA := hide hA
  have HB := hide hB
  have HL := hide (wellL_zero (L := L) (n := s.size))
  have HX := hide (fun (w' : World) (h : wellL L s.size ≠ 0) => show UnpV w w' L s (.returned (.tuple #[.slice none 0 0, .slice none 0 0, .int .i64 (wellL L s.size)])) from .inl ⟨h, rfl⟩)
  have HG := hide (fun (w' : World) (h : wellL L s.size = 0) VA vc NA nc (o1 : Own w' w.heap.size 2 1 VA vc (inRow (unV L s.data.toList))) (o2 : Own w' w.heap.size 4 1 NA nc (boRow (unN L s.data.toList))) => show UnpV w w' L s (.returned (.tuple #[.slice VA L.sgs.length vc, .slice NA L.sgs.length nc, .int .i64 0])) from .inr ⟨h, VA, vc, NA, nc, rfl, o1, o2⟩)
  clear hA hB
  generalize wellL L s.size = x at *
  unfold lyV at *
  obtain ⟨c0, c1, c2⟩ := three_cells B0.out
  have Q0 := hide q0
  clear q0
  generalize hw0 : w.alloc (.cells #[.int .i64 L.size, .slice A L.sgs.length c, .slice B L.nws.length d] 27) = w0 at *
  have z0 : w.heap.size < w0.heap.size := heap_lt B0.out
  go_enter Tryz.func36, Tryz.ntmps36
  go_wp2_with fail
  (with_reducible refine (WL.out _ Q0.out).mono ?_)
  rintro e5 w1 ⟨rfl, q1⟩
  have z1 : w.heap.size < w1.heap.size := Nat.lt_of_lt_of_le z0 q1.size
  have Q1 := hide (below_next Q0.out Q0.out.size q1)
  have B1 := hide (heap_below B0.out q1)
  clear q1 c0 c1 c2 hw0 WL
  obtain ⟨c0, c1, c2⟩ := three_cells B1.out
  by_cases h : x = 0
  · subst h
    obtain ⟨hr, hsz⟩ := HL.out.1 rfl
    have GO := hide (fun w' => HG.out w' rfl)
    have HR := hide (right_iff.1 hr)
    have h8 : s.size ≤ 8 := by have := HR.out.2.1; omega
    have hds : s.data.toList.length = s.size := by simp
    have HSR := hide (fun k (hk : k < L.sgs.length) => show wellF s.size L.sgs[k] = 0 from by rw [hsz]; exact right_well (HR.out.2.2.2.2.1 _ (List.getElem_mem hk)))
    have HNR := hide (fun k (hk : k < L.nws.length) => show L.nws[k] < 8 * (s.size : Int) from by rw [hsz]; exact (HR.out.2.2.2.2.2.1 _ (List.getElem_mem hk)).2)
    have HNL := hide HR.out.2.2.2.1
    have hl16 := HR.out.2.2.1
    have TV := hide (fun k (hk : k < L.sgs.length) => unV_take L s.data.toList hk)
    have TN := hide (fun k (hk : k < L.nws.length) => unN_take L s.data.toList hk)
    have OV0 := hide (show Own w1 w.heap.size 2 1 none 0 (inRow ((unV L s.data.toList).take 0)) from Own.nil)
    have ON0 := hide (show Own w1 w.heap.size 4 1 none 0 (boRow ((unN L s.data.toList).take 0)) from Own.nil)
    have EV := hide (show (unV L s.data.toList).take L.sgs.length = unV L s.data.toList from List.take_of_length_le (by simp [unV]))
    have EN := hide (show (unN L s.data.toList).take L.sgs.length = unN L s.data.toList from List.take_of_length_le (by simp [unN, HNL.out]))
    have LV := hide (fun k (hk : k ≤ L.sgs.length) => show (inRow ((unV L s.data.toList).take k)).length = k from by simp [inRow, unV]; omega)
    have LN := hide (fun k (hk : k ≤ L.sgs.length) => show (boRow ((unN L s.data.toList).take k)).length = k from by simp [boRow, unN, HNL.out]; omega)
    clear hr hsz HL HG HX hds
    go_wp2_with fail
    go_loopw [8, 9, 27] (fun vv vn vi W => ∃ k VA vc NA nc, k ≤ L.sgs.length ∧ vi = .int .i64 k ∧ vv = .slice VA k vc ∧ vn = .slice NA k nc ∧ Hid (Own W w.heap.size 2 1 VA vc (inRow ((unV L s.data.toList).take k))) ∧ Hid (Own W w.heap.size 4 1 NA nc (boRow ((unN L s.data.toList).take k))) ∧ Hid (W.heap[w.heap.size]? = some (.cells #[.int .i64 L.size, .slice A L.sgs.length c, .slice B L.nws.length d] 27 (0, 0))) ∧ Hid (Below w.heap.size w W)) (fun _ _ vi _ => L.sgs.length - (intOf vi).toNat)
    case atStart => exact ⟨0, none, 0, none, 0, Nat.zero_le _, rfl, rfl, rfl, OV0, ON0, B1, Q1⟩
    case round =>
      obtain ⟨k, VA, vc, NA, nc, hk, rfl, rfl, rfl, hOV, hON, hB, hQ⟩ := hrel
      clear B1 Q1 c0 c1 c2 OV0 ON0
      by_cases hlt : k < L.sgs.length
      · have hkn : k < L.nws.length := by rw [HNL.out]; exact hlt
        have tv := hide (TV.out k hlt)
        have tn := hide (TN.out k hkn)
        have lv := hide (LV.out k hk)
        have ln := hide (LN.out k hk)
        have GT := hide (fun W => get_ok s L.sgs[k] W (by omega) (HSR.out k hlt))
        have hnb := HNR.out k hkn
        obtain ⟨ab, ao, rfl, hab, s0, s1, s2, s3⟩ := SgR.at_ (Rd.below HA.out hQ.out) hlt
        obtain ⟨nb, no, rfl, hnbk, n0⟩ := InR.at_ (Rd.below HB.out hQ.out) hkn
        have hki : (k : Int) < (L.sgs.length : Int) := by omega
        have hkni : (k : Int) < (L.nws.length : Int) := by omega
        have zW : w.heap.size < wr.heap.size := heap_lt hB.out
        generalize inRow ((unV L s.data.toList).take k) = rv at *
        generalize boRow ((unN L s.data.toList).take k) = rn at *
        have HNB := hide (show newB s.data.toList L.nws[k] = if 0 ≤ L.nws[k] then bitL s.data.toList L.nws[k].toNat else true from rfl)
        generalize newB s.data.toList L.nws[k] = nbv at *
        generalize getF s.data.toList L.sgs[k] = v at *
        generalize L.sgs[k] = S at *
        generalize L.nws[k] = a at *
        clear hkn TV TN LV LN HNR HSR
        have th := hide (show (wr.alloc (.cells #[.int .i64 0, .int .i64 0, .bool false, .bool false] 23)).there wr.heap.size 0 4 from there_heap (cs := [_, _, _, _]) (World.alloc_heap_new wr _))
        go_wp2_with (refine wpList_store_hid (by rfl) 23 (.tmp 11) (.tmp 31) (by rfl) wr.heap.size 0 [.int .i64 S.start, .int .i64 S.width, .bool S.big, .bool S.sgn] (by rfl) (by rfl) (by exact th.out) (by kernel_rfl) (by simp [Value.oneCell']) ?_)
        intro w2 e2
        have bs := hide (show w2.heap[wr.heap.size]? = some (.cells #[.int .i64 S.start, .int .i64 S.width, .bool S.big, .bool S.sgn] 23 (0, 0)) by rw [e2.out]; exact whole_heap [.int .i64 S.start, .int .i64 S.width, .bool S.big, .bool S.sgn] (xs := [_, _, _, _]) (World.alloc_heap_new wr _) rfl)
        have qb : Below wr.heap.size wr w2 := by
          rw [e2.out]
          exact ((Below.refl _ _).alloc (Nat.le_refl _) _).trans (below_setCells (g := wr.heap.size) _ 0 _ (Nat.le_refl _))
        have B2 := hide (heap_below hB.out qb)
        have Q2 := hide (below_next hQ.out hQ.out.size qb)
        have OV2 := hide (hOV.out.grown qb)
        have ON2 := hide (hON.out.grown qb)
        have n1 := hide (cellBelow qb (by omega : nb < wr.heap.size) n0)
        have z2 : wr.heap.size < w2.heap.size := heap_lt bs.out
        clear th e2 qb hB hQ hOV hON s0 s1 s2 s3 n0
        obtain ⟨x0, x1, x2, x3⟩ := sg_cells bs.out
        generalize wr.heap.size = sb at *
        go_wp2_with fail
        (with_reducible refine (GT.out _).mono ?_)
        rintro e3 w3 ⟨rfl, q3⟩
        have B3 := hide (heap_below B2.out q3)
        have Q3 := hide (below_next Q2.out Q2.out.size q3)
        have OV3 := hide (OV2.out.grown q3)
        have ON3 := hide (ON2.out.grown q3)
        have n2 := cellBelow q3 (by omega : nb < w2.heap.size) n1.out
        clear x0 x1 x2 x3 GT n1 OV2 ON2 B2 Q2 bs
        obtain ⟨c0, c1, c2⟩ := three_cells B3.out
        have hz2 := q3.size
        clear q3
        have hLV : Hid (rv.length = k) := lv
        have hLN : Hid (rn.length = k) := ln
        by_cases h0 : 0 ≤ a
        · obtain ⟨p, rfl⟩ := Int.eq_ofNat_of_zero_le h0
          have GP := hide (fun W => get_ok s (oneS p) W (by omega) (oneS_well (by omega) h8))
          have OG := oneS_get (p := p) s.data.toList (by omega)
          rw [OG] at GP
          have NBV : nbv = bitL s.data.toList p := by rw [HNB.out, if_pos h0]; rfl
          rw [← NBV] at GP
          unfold oneS at GP
          clear OG NBV HNB
          go_wp2_with fail
          (with_reducible refine (GP.out _).mono ?_)
          rintro e4 w4 ⟨rfl, q4⟩
          have B4 := hide (heap_below B3.out q4)
          have Q4 := hide (below_next Q3.out Q3.out.size q4)
          have OV4 := hide (OV3.out.grown q4)
          have ON4 := hide (ON3.out.grown q4)
          have z4 : w.heap.size ≤ w4.heap.size := Q4.out.size
          clear B3 Q3 OV3 ON3 q4 c0 c1 c2 GP n2
          obtain ⟨bi, hbi⟩ : ∃ bi : Int, bi = if nbv = true then 1 else 0 := ⟨_, rfl⟩
          rw [← hbi]
          have hb1 : (bi == 1) = nbv := by rw [hbi]; cases nbv <;> rfl
          clear hbi
          go_wp2_with (at_builtin; refine wpList_append_one _ _ [.int .i64 v] (by rfl) rfl _ _ 33 rfl slInt64 (by decide) rfl (by simp [Value.oneCell']) w.heap.size _ _ _ rv (by rfl) (by exact OV4.out) _ (by rfl) (by rw [hLV.out]; omega) z4 (by exact hLV.out.symm) ?_)
          intro VA2 vc2 w5 P5
          have B5 := hide (P5.heap B4.out (by decide))
          have ON5 := hide (P5.other ON4.out (by decide))
          have OV5 := hide (tv.out ▸ P5.own)
          have Q5 := hide (P5.q Q4.out (Nat.le_refl _))
          have z5 : w.heap.size ≤ w5.heap.size := Q5.out.size
          clear P5 B4 Q4 OV4 ON4 z4
          go_wp2_with (at_builtin; refine wpList_append_one _ _ [.bool nbv] (by rfl) rfl _ _ 36 rfl slBool (by decide) rfl (by simp [Value.oneCell']) w.heap.size _ _ _ rn (by rfl) (by exact ON5.out) _ (by rfl) (by rw [hLN.out]; omega) z5 (by exact hLN.out.symm) ?_)
          intro NA2 nc2 w6 P6
          have B6 := hide (P6.heap B5.out (by decide))
          have OV6 := hide (P6.other OV5.out (by decide))
          have ON6 := hide (tn.out ▸ P6.own)
          have Q6 := hide (P6.q Q5.out (Nat.le_refl _))
          clear P6 B5 Q5 OV5 ON5 z5
          go_wp2_with fail
          go_roundw
          case rel => exact ⟨k + 1, _, _, _, _, by omega, by go_num, rfl, rfl, OV6, ON6, B6, Q6⟩
          case measure => simp [intOf]; omega
        · have NBV : nbv = true := by rw [HNB.out, if_neg h0]
          subst NBV
          have z3 : w.heap.size ≤ w3.heap.size := Q3.out.size
          clear HNB
          go_wp2_with (at_builtin; refine wpList_append_one _ _ [.int .i64 v] (by rfl) rfl _ _ 33 rfl slInt64 (by decide) rfl (by simp [Value.oneCell']) w.heap.size _ _ _ rv (by rfl) (by exact OV3.out) _ (by rfl) (by rw [hLV.out]; omega) z3 (by exact hLV.out.symm) ?_)
          intro VA2 vc2 w5 P5
          have B5 := hide (P5.heap B3.out (by decide))
          have ON5 := hide (P5.other ON3.out (by decide))
          have OV5 := hide (tv.out ▸ P5.own)
          have Q5 := hide (P5.q Q3.out (Nat.le_refl _))
          have z5 : w.heap.size ≤ w5.heap.size := Q5.out.size
          clear P5 B3 Q3 OV3 ON3 z3
          go_wp2_with (at_builtin; refine wpList_append_one _ _ [.bool true] (by rfl) rfl _ _ 36 rfl slBool (by decide) rfl (by simp [Value.oneCell']) w.heap.size _ _ _ rn (by rfl) (by exact ON5.out) _ (by rfl) (by rw [hLN.out]; omega) z5 (by exact hLN.out.symm) ?_)
          intro NA2 nc2 w6 P6
          have B6 := hide (P6.heap B5.out (by decide))
          have OV6 := hide (P6.other OV5.out (by decide))
          have ON6 := hide (tn.out ▸ P6.own)
          have Q6 := hide (P6.q Q5.out (Nat.le_refl _))
          clear P6 B5 Q5 OV5 ON5 z5
          go_wp2_with fail
          go_roundw
          case rel => exact ⟨k + 1, _, _, _, _, by omega, by go_num, rfl, rfl, OV6, ON6, B6, Q6⟩
          case measure => simp [intOf]; omega
      · obtain rfl : k = L.sgs.length := by omega
        have OV5 := hide (by have := hOV.out; rw [EV.out] at this; exact this : Own wr w.heap.size 2 1 VA vc (inRow (unV L s.data.toList)))
        have ON5 := hide (by have := hON.out; rw [EN.out] at this; exact this : Own wr w.heap.size 4 1 NA nc (boRow (unN L s.data.toList)))
        have FIN := hide (GO.out _ _ _ _ _ OV5.out ON5.out)
        clear hOV hON OV5 ON5 TV TN EV EN LV LN HSR HNR GO
        go_wp2_with fail
        refine bodyPost_ret (v := .tuple #[.slice VA L.sgs.length vc, .slice NA L.sgs.length nc, .int .i64 0]) (by simp [results, Tryz.results36, go_sem]) rfl ⟨FIN.out, hQ.out⟩
  · have e1 : (x == 0) = false := by rw [beq_eq_false_iff_ne]; exact h
    have e2 : (x != 0) = true := by simp [bne, e1]
    have FIN := hide (fun w' => HX.out w' h)
    clear h HL HB HA HG HX
    go_wp2_with fail
    refine bodyPost_ret (v := .tuple #[.slice none 0 0, .slice none 0 0, .int .i64 x]) (by simp [results, Tryz.results36, go_sem]) rfl ⟨FIN.out _, Q1.out⟩
end Go.Proofs.YtnhegnneohpkaaaGreat

/- The walk of PduAgain. -/
namespace Go.Proofs.YtnhegnneohpkaaaGreat
open Go.ChangeShapes Go.WideShapes Go.ChangeAt Go.RowKit
open SG PD

theorem boRow_rows (l : List Bool) : ∀ r ∈ boRow l, r.length = 1 := by
  intro r hr
  obtain ⟨p, _, rfl⟩ := List.mem_map.1 hr
  rfl
theorem inOwn_rd {W : World} {base : Nat} {A : Option Addr} {c : Nat} {l : List Int} {e : TypeId} (h : Own W base e 1 A c (inRow l)) : InR W W.heap.size A l := h.rd (inRow_rows _)
theorem boOwn_rd {W : World} {base : Nat} {A : Option Addr} {c : Nat} {l : List Bool} {e : TypeId} (h : Own W base e 1 A c (boRow l)) : BoR W W.heap.size A l := h.rd (boRow_rows _)

end Go.Proofs.YtnhegnneohpkaaaGreat

/- The walk of recv.Right. -/
namespace Go.Proofs.YtnhegnneohpkaaaGreat
open Go.ChangeShapes Go.WideShapes Go.ChangeAt Go.RowKit
open CM PD SG

set_option maxRecDepth 100000 in
set_option maxHeartbeats 8000000 in
theorem recvRight_any (f : Wt) (w : World) : Calls Tryz.prog 60 #[.agg #[.int .i64 f.first, .int .i64 f.each, .int .i64 f.left, .bool f.on, .bool f.late]] w fun e w' => e = .returned (.bool (wtB f)) ∧ Below w.heap.size w w' := by
  obtain ⟨r, hr⟩ : ∃ r, r = wtB f := ⟨_, rfl⟩
  have HR := hide (show r = true ↔ 0 ≤ f.first ∧ f.first ≤ 1000000 ∧ 0 ≤ f.each ∧ f.each ≤ 1000000 ∧ 0 ≤ f.left ∧ f.left ≤ max f.first f.each ∧ (f.on = true ∨ f.left = 0 ∧ f.late = false) ∧ (f.late = false ∨ f.left = 0) from by rw [hr]; unfold wtB; rw [decide_eq_true_eq])
  rw [← hr]
  clear hr
  obtain ⟨first, each, left, on, late⟩ := f
  dsimp only at *
  obtain ⟨m, em, hm⟩ := run_max (P := Tryz.prog) first each
  have EM := hide em
  have HMX := hide (show (if first ≤ each then each else first) = max first each by split <;> omega)
  rw [← em] at HR
  clear em
  have q0 : Below w.heap.size w (w.alloc (.cells #[.int .i64 first, .int .i64 each, .int .i64 left, .bool on, .bool late] 45)) := (Below.refl _ _).alloc (Nat.le_refl _) _
  by_cases h0 : left = 0
  · have e1 : (left == 0) = true := by rw [beq_iff_eq]; exact h0
    have H := hide h0
    clear h0
    cases on <;> cases late
    all_goals go_enter Tryz.func60, Tryz.ntmps60
    all_goals go_wp2_with fail
    all_goals have h8 := H.out
    all_goals have h9 : m = max first each := EM.out
    all_goals have h10 := HMX.out
    all_goals generalize (if first ≤ each then each else first) = mm at *
    all_goals go_ret
    all_goals refine ⟨ret_bool ?_, q0⟩
    all_goals have HX := HR.out
    all_goals simp only [Bool.false_eq_true, reduceCtorEq, false_or, and_true, true_and, and_false, false_and, or_false, true_or] at HX
    all_goals (first | exact r_true HX (by omega) | exact r_false HX (by omega) | exact r_false HX (by simp) | exact r_dec HX (by omega))
  · have e1 : (left == 0) = false := by rw [beq_eq_false_iff_ne]; exact h0
    have H := hide h0
    clear h0
    cases on <;> cases late
    all_goals go_enter Tryz.func60, Tryz.ntmps60
    all_goals go_wp2_with fail
    all_goals have h8 := H.out
    all_goals have h9 : m = max first each := EM.out
    all_goals have h10 := HMX.out
    all_goals generalize (if first ≤ each then each else first) = mm at *
    all_goals go_ret
    all_goals refine ⟨ret_bool ?_, q0⟩
    all_goals have HX := HR.out
    all_goals simp only [Bool.false_eq_true, reduceCtorEq, false_or, and_true, true_and, and_false, false_and, or_false, true_or] at HX
    all_goals (first | exact r_true HX (by omega) | exact r_false HX (by omega) | exact r_false HX (by simp) | exact r_dec HX (by omega))
end Go.Proofs.YtnhegnneohpkaaaGreat

/- Walks of recv.New, package group; slices.Clone of int64s. -/
namespace Go.Proofs.YtnhegnneohpkaaaGreat
open Go.ChangeShapes Go.WideShapes Go.ChangeAt Go.RowKit
open CM PD SG
attribute [local go_sem] run_eql_nil

def wtcL (f : Wt) : List Value := [.int .i64 f.first, .int .i64 f.each, .int .i64 f.left, .bool f.on, .bool f.late]
def zWt : Wt := ⟨0, 0, 0, false, false⟩
def newWt (a b : Int) : Wt := if wtB ⟨a, b, 0, false, false⟩ = true then ⟨a, b, 0, false, false⟩ else zWt
def newWtE (a b : Int) : Int := if wtB ⟨a, b, 0, false, false⟩ = true then 0 else 1

def mayG (n : Nat) : Bool := decide (1 ≤ n ∧ n ≤ 16)
set_option maxRecDepth 100000 in
theorem rowMay_any (A : Option Addr) (n c : Nat) (w : World) : Calls Tryz.prog 47 #[.slice A n c] w fun e w' => e = .returned (.bool (mayG n)) ∧ w = w' := by
  obtain ⟨r, hr⟩ : ∃ r, r = mayG n := ⟨_, rfl⟩
  have HR := hide (show r = true ↔ 1 ≤ n ∧ n ≤ 16 from by rw [hr]; unfold mayG; simp)
  rw [← hr]
  clear hr
  go_enter Tryz.func47, Tryz.ntmps47
  go_wp2_with fail
  all_goals go_ret
  all_goals refine ⟨ret_bool ?_, rfl⟩
  all_goals (first | exact r_true HR.out (by omega) | exact r_false HR.out (by omega) | exact r_dec HR.out (by omega))
def grB (n m : Nat) (times : Int) : Bool := mayG n && (decide (m = n) && decide (0 ≤ times ∧ times ≤ 1099511627776))
set_option maxRecDepth 100000 in
set_option maxHeartbeats 4000000 in
theorem grRight_any (S G : Option Addr) (n c m d : Nat) (times : Int) (w : World) : Calls Tryz.prog 50 #[.agg #[.slice S n c, .slice G m d, .int .i64 times]] w fun e w' => e = .returned (.bool (grB n m times)) ∧ Below w.heap.size w w' := by
  obtain ⟨r, hr⟩ : ∃ r, r = grB n m times := ⟨_, rfl⟩
  have HR := hide (show r = true ↔ mayG n = true ∧ m = n ∧ 0 ≤ times ∧ times ≤ 1099511627776 from by rw [hr]; unfold grB; simp)
  rw [← hr]
  clear hr
  have RM := hide (fun W => rowMay_any S n c W)
  generalize mayG n = y at *
  have q0 : Below w.heap.size w (w.alloc (.cells #[.slice S n c, .slice G m d, .int .i64 times] 35)) := (Below.refl _ _).alloc (Nat.le_refl _) _
  have B0 := World.alloc_heap_new w (.cells #[.slice S n c, .slice G m d, .int .i64 times] 35)
  obtain ⟨c0, c1, c2⟩ := three_cells B0
  have Q0 := hide q0
  clear q0 B0
  generalize hw0 : w.alloc (.cells #[.slice S n c, .slice G m d, .int .i64 times] 35) = w0 at *
  cases y with
  | false =>
    go_enter Tryz.func50, Tryz.ntmps50
    go_wp2_with fail
    (with_reducible refine (RM.out _).mono ?_)
    rintro e1 w1 ⟨rfl, rfl⟩
    go_wp2_with fail
    go_ret
    exact ⟨ret_bool (r_false HR.out (by simp)), Q0.out⟩
  | true =>
    by_cases hm : m = n
    · have e1 : ((m : Int) == (n : Int)) = true := by rw [beq_iff_eq]; omega
      have HM := hide hm
      clear hm
      go_enter Tryz.func50, Tryz.ntmps50
      go_wp2_with fail
      (with_reducible refine (RM.out _).mono ?_)
      rintro e1 w1 ⟨rfl, rfl⟩
      have HX : Hid (r = true ↔ 0 ≤ times ∧ times ≤ 1099511627776) := hide (by have := HR.out; simp only [true_and, HM.out] at this; exact this)
      go_wp2_with fail
      all_goals go_ret
      all_goals refine ⟨ret_bool ?_, Q0.out⟩
      all_goals (first | exact r_true HX.out (by omega) | exact r_false HX.out (by omega) | exact r_dec HX.out (by omega))
    · have e1 : ((m : Int) == (n : Int)) = false := by rw [beq_eq_false_iff_ne]; omega
      have HM := hide hm
      clear hm
      go_enter Tryz.func50, Tryz.ntmps50
      go_wp2_with fail
      (with_reducible refine (RM.out _).mono ?_)
      rintro e1 w1 ⟨rfl, rfl⟩
      go_wp2_with fail
      go_ret
      exact ⟨ret_bool (r_false HR.out (fun h => HM.out h.2.1)), Q0.out⟩

set_option maxRecDepth 100000 in
set_option maxHeartbeats 4000000 in
theorem cloneI_any (l : List Int) (A : Option Addr) (c : Nat) (w : World) (hr : InR w w.heap.size A l) (hl : l.length ≤ 1000000) :
    Calls Tryz.prog 48 #[.slice A l.length c] w fun e w' => (∃ A' c', e = .returned (.slice A' l.length c') ∧ Own w' w.heap.size 2 1 A' c' (inRow l)) ∧ Below w.heap.size w w' := by
  cases A with
  | none =>
    have h0 : l = [] := by
      cases l with
      | nil => rfl
      | cons x t =>
        obtain ⟨b, off, he, _⟩ := hr (by simp [inRow])
        cases he
    subst h0
    clear hr
    go_enter Tryz.func48, Tryz.ntmps48
    go_wp2_with fail
    go_ret
    exact ⟨⟨none, 0, rfl, Own.nil⟩, Below.refl _ _⟩
  | some a =>
    have q5 : Below w.heap.size w (w.alloc (.cells #[] 2)) := (Below.refl _ _).alloc (Nat.le_refl _) _
    have O5 := hide (Own.lit w w.heap.size 2 1 [] (Nat.le_refl _) (by simp) (by simp))
    have RD5 := hide (Rd.more (Rd.below hr q5) q5.size)
    have E1 := hide (show (([] : List (List Value)).length + (inRow l).length) * 8 ≤ 140737488355328 by rw [inRow_len]; simp; omega)
    have E2 := hide (show ([] : List (List Value)).length + (inRow l).length ≤ maxLen by rw [inRow_len]; simp [maxLen]; omega)
    have E3 := hide (show l.length = (inRow l).length by rw [inRow_len])
    have E4 := hide (show w.heap.size ≤ (w.alloc (.cells #[] 2)).heap.size by simp)
    have E6 := hide (show ∀ r ∈ inRow l, ∀ u ∈ r, u.oneCell' = true from fun r hr u hu => by
      obtain ⟨x, _, rfl⟩ := List.mem_map.1 hr
      rw [List.mem_singleton.1 hu]
      rfl)
    clear hr hl
    go_enter Tryz.func48, Tryz.ntmps48
    go_wp2_with (at_builtin; refine wpList_append_rows _ rfl _ _ 33 rfl slInt64 w.heap.size _ _ _ [] (by rfl) (by exact O5.out) _ _ _ (inRow l) (by rfl) (by exact RD5.out) (by exact inRow_rows l) (by exact E6.out) (by exact E1.out) (by exact E2.out) (by exact E4.out) (by rfl) (by exact E3.out) ?_)
    intro A6 c6 w6 o6 g6
    have hb6 := hide (q5.trans (below_own g6 O5.out E4.out))
    have O6 := hide (show Own w6 w.heap.size 2 1 A6 c6 (inRow l) from o6)
    clear o6 g6 q5 O5 RD5 E1 E2 E4 E6
    go_wp2_with fail
    refine bodyPost_ret (v := .slice A6 l.length c6) (by simp [results, Tryz.results48, go_sem]) rfl ⟨⟨A6, c6, rfl, O6.out⟩, hb6.out⟩
end Go.Proofs.YtnhegnneohpkaaaGreat
