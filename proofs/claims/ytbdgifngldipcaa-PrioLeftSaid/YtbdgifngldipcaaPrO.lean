/- PrioLeft, where all frames may be. -/
import Derived.Test.YtbdgifngldipcaaPrN
namespace Go.Proofs.Ytbdgifngldipcaa
open Go.ChangeShapes Go.WideShapes Go.ChangeAt Go.RowKit
open FP (Fr)

theorem leftIdx_mem {x : Nat → Int} {n j : Nat} : j ∈ leftIdx x n ↔ j < n ∧ x j < 0 := by simp [leftIdx]
/-- Among the first k of those that are left. -/
def inL (L : List Nat) (k : Nat) (y : Int) : Bool := (L.take k).any fun i => decide (y = (i : Int))
theorem inL_zero (L : List Nat) : inL L 0 = fun _ => false := by funext y; simp [inL]
theorem inL_succ (L : List Nat) (k : Nat) (h : k < L.length) : inL L (k + 1) = fun y => if y = (L[k] : Int) then true else inL L k y := by
  funext y
  unfold inL
  rw [List.take_succ_eq_append_getElem h, List.any_append]
  by_cases hy : y = (L[k] : Int) <;> simp [hy]
theorem inL_full {x : Nat → Int} {n j : Nat} (h : j < n) : inL (leftIdx x n) (leftIdx x n).length (j : Int) = decide (x j < 0) := by
  unfold inL
  rw [List.take_length, Bool.eq_iff_iff, List.any_eq_true, decide_eq_true_eq]
  constructor
  · rintro ⟨i, hi, he⟩
    have : j = i := by have h2 : (j : Int) = (i : Int) := by simpa using he
                       omega
    subst this
    exact (leftIdx_mem.1 hi).2
  · intro hx
    exact ⟨j, leftIdx_mem.2 ⟨h, hx⟩, by simp⟩

/-- What the second loop asks at k, of the one that is left first. -/
theorem left_facts {l : List Fr} (hw : wellB l = true) {b : Nat} (hb : PP.Best l b) {v k : Nat} (hv : v < l.length) (hk : k < l.length) (hx : lostF l v < 0) :
    (lostF l k < 0 ∧ lessB l[v] l[k] = false ∧ lessB l[k] l[v] = false ∧ ((fstr l[k]).toList == (fstr l[v]).toList) = true) ∨
    (0 ≤ lostF l k ∧ lessB l[v] l[k] = true ∧ lessB l[k] l[v] = false ∧ ((fstr l[k]).toList == (fstr l[v]).toList) = false) := by
  have hr : ∀ i (h : i < l.length), FP.rightB l[i] = true := fun i h => List.all_eq_true.1 hw _ (List.getElem_mem h)
  have ev := (PP.left_iff hb hv).1 hx
  have e1 := PP.lessB_bl (hr v hv) (hr k hk)
  have e2 := PP.lessB_bl (hr k hk) (hr v hv)
  have m := hb.2 k hk
  rw [← ev, PP.FL_lt hv, PP.FL_lt hk] at m
  have hs : ((fstr l[k]).toList == (fstr l[v]).toList) = (fieldF l[k] == fieldF l[v]) := by
    unfold fstr
    rw [Lib.toList_data, Lib.toList_data]
  rw [e1, e2, hs, m]
  by_cases he : fieldF l[k] = fieldF l[v]
  · left
    refine ⟨(PP.left_iff hb hk).2 (by rw [← ev, PP.FL_lt hk, PP.FL_lt hv, he]), by rw [he]; exact PP.bl_irrefl _, rfl, by simp [he]⟩
  · right
    refine ⟨?_, ?_, rfl, by simp [he]⟩
    · rcases Int.lt_or_le (lostF l k) 0 with h | h
      · have := (PP.left_iff hb hk).1 h
        rw [← ev, PP.FL_lt hk, PP.FL_lt hv] at this
        exact absurd this he
      · exact h
    · rw [PP.bl_total (PP.fld_of _) (PP.fld_of _) (Ne.symm he), m]; rfl

set_option maxRecDepth 100000 in
set_option maxHeartbeats 2000000 in
theorem left_good (l0 : List Fr) (A : Option Addr) (c : Nat) (w : World) (hr0 : FrR w w.heap.size A l0) (hc0 : l0.length ≤ c) (hcm : c ≤ maxLen) (hid : ∀ f ∈ l0, f.id < 4294967296) (hs : ∀ f ∈ l0, f.data.size ≤ maxLen) (h1 : 0 < (cutL l0).length) (hw : wellB (cutL l0) = true) :
    Calls Try.prog 8 #[.slice A l0.length c] w fun e w' => e = .returned (.bool true) ∧ Below w.heap.size w w' := by
  have FEW := hide (few05_any l0 A c w hr0 hc0 hcm hs)
  have ALV := hide alive05_any
  have hidl := cutL_id hid
  have hl10 := cutL_len l0
  unfold FewV at FEW
  generalize cutL l0 = l at *
  clear hr0 hc0 hcm hid hs
  have CW := hide (fun A1 c1 (w1 : World) (rd1 : FrR w1 w1.heap.size A1 l) => Contest_well l A1 c1 w1 rd1 h1 (by omega) hidl hw)
  have HW := hide hw
  have HID := hide hidl
  obtain ⟨b, hb⟩ := PP.best_is l h1
  have LI := hide (fun j (hj : j < l.length) => PP.left_iff hb hj)
  have HB := hide hb
  have hbm : b ∈ leftIdx (lostF l) l.length := leftIdx_mem.2 ⟨hb.1, (PP.left_iff hb hb.1).2 rfl⟩
  have hLp : 0 < (leftIdx (lostF l) l.length).length := List.length_pos_of_mem hbm
  have hLm : ∀ j (h : j < (leftIdx (lostF l) l.length).length), (leftIdx (lostF l) l.length)[j] < l.length ∧ lostF l ((leftIdx (lostF l) l.length)[j]) < 0 := fun j h => leftIdx_mem.1 (List.getElem_mem h)
  have hLl := leftIdx_le (lostF l) l.length
  have HLM := hide hLm
  clear hb hbm hw hidl hLm
  unfold ContestV at CW
  have HR := hide (show leftRows (lostF l) l.length = (leftIdx (lostF l) l.length).map (fun (j : Nat) => [Value.int .i64 (j : Int)]) from rfl)
  have HF := hide (fun j (h : j < l.length) => inL_full (x := lostF l) h)
  rw [HR.out] at CW
  clear HR
  generalize leftIdx (lostF l) l.length = L at *
  have hz1 : ((L.length : Int) == 0) = false := by rw [beq_eq_false_iff_ne]; omega
  go_enter Try.func8, Try.ntmps8
  go_wp2_with fail
  refine FEW.out.mono ?_
  rintro e1 w1 ⟨A1, c1, rfl, rd1, hc1, q1⟩
  go_wp2_with fail
  refine (CW.out _ _ _ rd1).mono ?_
  rintro e2 w2 ⟨AL, cL, AT, cT, rfl, rL, rT, q2⟩
  have q2' := below_next q1 q1.size q2
  go_wp2_with fail
  refine (ALV.out _).mono ?_
  rintro e3 w3 ⟨rfl, q3⟩
  have q3' := below_next q2' q2'.size q3
  have rd3 := FrR.next rd1 (q2.trans (q3.mono q2.size)) (q2.trans (q3.mono q2.size)).size
  have rL3 := Rd.next rL q3 q3.size
  have rT3 := Rd.next rT q3 q3.size
  clear q1 q2 q2' q3 rd1 rL rT
  have hmm := @run_makeMap Try.prog
  go_wp2
  clear hmm
  have MS0 : MSet (w3.alloc (.map #[] 0)) w3.heap.size 0 (inL L 0) := by rw [inL_zero]; exact MSet.made w3
  have hkL : ∀ k (h : k < L.length), (L.map (fun (j : Nat) => [Value.int .i64 (j : Int)]))[k]? = some [.int .i64 (L[k] : Int)] := fun k h => by rw [List.getElem?_map, List.getElem?_eq_getElem h]; rfl
  have HKL := hide hkL
  clear hkL
  obtain ⟨bl, offl, rfl, hbl, hcl⟩ := rL3 (by rw [List.length_map]; exact hLp)
  obtain ⟨bt, offt, rfl, hbt, hct⟩ := rT3 (by rw [intRows_len]; exact h1)
  have CL := hide hcl
  have CT := hide hct
  clear hcl hct rL3 rT3
  go_loopw [54] (fun i W => ∃ k : Nat, k ≤ L.length ∧ i = .int .i64 k ∧ MSet W w3.heap.size k (inL L k) ∧ Below w3.heap.size w3 W) (fun i _ => L.length - (intOf i).toNat)
  case atStart => exact ⟨0, Nat.zero_le _, rfl, MS0, (Below.refl _ _).alloc (Nat.le_refl _) _⟩
  case round =>
    obtain ⟨k, hk, rfl, ms, q⟩ := hrel
    by_cases hlt : k < L.length
    · have cv := cellBelow q hbl (CL.out k _ 0 _ (HKL.out k hlt) rfl)
      obtain ⟨hLn, hLx⟩ := HLM.out k hlt
      have cx := cellBelow q hbt (CT.out L[k] _ 0 _ (show (intRows l.length (lostF l))[L[k]]? = some [.int .i64 (lostF l L[k])] by unfold intRows; rw [List.getElem?_map, List.getElem?_range hLn]; rfl) rfl)
      obtain ⟨W2, hput, ms2, hg2⟩ := ms.put (by unfold maxLen; omega) (L[k] : Int) (i64_wf (by omega) (by omega)) true
      rw [← inL_succ L k hlt] at ms2
      have q2 : Below w3.heap.size w3 W2 := q.grown hg2 q.size (fun j e => by cases e; exact Nat.le_refl _)
      have MS2 := hide ms2
      generalize lostF l L[k] = X at *
      generalize L[k] = v at *
      have hvn : (v : Int) < (l.length : Int) := by omega
      simp only [Nat.mul_one, Nat.add_zero] at cv cx
      clear ms ms2 hg2
      go_wp2
      go_roundw
      case rel => exact ⟨k + 1, by omega, by go_num, MS2.out, q2⟩
      case measure => simp [intOf]; omega
    · obtain rfl : k = L.length := by omega
      obtain ⟨hLn, hLx⟩ := HLM.out 0 hLp
      obtain ⟨b1, off1, rfl, hbs1, HC⟩ : ∃ b1 off1, A1 = some ⟨b1, off1, none⟩ ∧ b1 < w3.heap.size ∧ Hid (∀ k (_ : k < l.length) W, Below w3.heap.size w3 W → W.cell? ⟨b1, off1 + k * 5, none⟩ = some (.int .u32 l[k].id) ∧ W.cell? ⟨b1, off1 + k * 5 + 1, none⟩ = some (.bool l[k].ext) ∧ W.cell? ⟨b1, off1 + k * 5 + 2, none⟩ = some (.bool l[k].rem) ∧
          W.cell? ⟨b1, off1 + k * 5 + 3, none⟩ = some (.int .i64 l[k].dlc) ∧ W.cell? ⟨b1, off1 + k * 5 + 4, none⟩ = some (.string l[k].data)) := by
        obtain ⟨b1, off1, e1, hb1, _⟩ := FrR.at_ rd3 h1
        refine ⟨b1, off1, e1, hb1, fun k hk W hW => ?_⟩
        obtain ⟨b2, off2, e2, hb2, d0, d1, d2, d3, d4⟩ := FrR.at_ rd3 hk
        rw [e1] at e2
        simp only [Option.some.injEq, Addr.mk.injEq, and_true] at e2
        obtain ⟨rfl, rfl⟩ := e2
        exact ⟨cellBelow hW hb2 d0, cellBelow hW hb2 d1, cellBelow hW hb2 d2, cellBelow hW hb2 d3, cellBelow hW hb2 d4⟩
      have cv := cellBelow q hbl (CL.out 0 _ 0 _ (HKL.out 0 hLp) rfl)
      simp only [Nat.zero_mul, Nat.add_zero] at cv
      obtain ⟨c0, c1', c2, c3, c4⟩ := HC.out L[0] hLn wr q
      have FV := hide (fun W => Field_any l[L[0]] W (List.all_eq_true.1 HW.out _ (List.getElem_mem hLn)) (HID.out _ (List.getElem_mem hLn)))
      have hvn : (L[0] : Int) < (l.length : Int) := by omega
      have MS := hide ms
      clear ms
      go_wp2_with fail
      refine (FV.out _).mono ?_
      rintro e5 w5 ⟨rfl, q5⟩
      have ms5 := MS.out.below q5
      have q5' := below_next q q.size q5
      have MS5 := hide ms5
      clear MS ms5 q5 cv c0 c1' c2 c3 c4 FV
      go_wp2
      go_loopw [88] (fun i W => ∃ k : Nat, k ≤ l.length ∧ i = .int .i64 k ∧ MSet W w3.heap.size L.length (inL L L.length) ∧ Below w3.heap.size w3 W) (fun i _ => l.length - (intOf i).toNat)
      case atStart => exact ⟨0, Nat.zero_le _, rfl, MS5.out, q5'⟩
      case round =>
        obtain ⟨k, hk, rfl, ms, q⟩ := hrel
        by_cases hlt : k < l.length
        · have FK := hide (fun W => Field_any l[k] W (List.all_eq_true.1 HW.out _ (List.getElem_mem hlt)) (HID.out _ (List.getElem_mem hlt)))
          have LA := hide (fun W => Less_any l[L[0]] l[k] W (HID.out _ (List.getElem_mem hLn)) (HID.out _ (List.getElem_mem hlt)))
          have LB := hide (fun W => Less_any l[k] l[L[0]] W (HID.out _ (List.getElem_mem hlt)) (HID.out _ (List.getElem_mem hLn)))
          have CASES := left_facts HW.out HB.out hLn hlt hLx
          have IN := hide (HF.out k hlt)
          obtain ⟨c0, c1', c2, c3, c4⟩ := HC.out k hlt wr q
          have MS := hide ms
          have XK := hide (show (intRows l.length (lostF l))[k]? = some [.int .i64 (lostF l k)] by unfold intRows; rw [List.getElem?_map, List.getElem?_range hlt]; rfl)
          have hki : (k : Int) < (l.length : Int) := by omega
          clear ms
          rcases CASES with ⟨x1, x2, x3, x4⟩ | ⟨x1, x2, x3, x4⟩
          all_goals
            rw [x2] at LA
            rw [x3] at LB
            clear x2 x3
            go_wp2_with fail
            refine (FK.out _).mono ?_
            rintro e6 w6 ⟨rfl, q6⟩
            have qa : Below w3.heap.size w3 (wr.alloc (.cells #[.int .u32 l[k].id, .bool l[k].ext, .bool l[k].rem, .int .i64 l[k].dlc, .string l[k].data] 39)) := q.alloc q.size _
            have q6' := below_next qa qa.size q6
            have zx : wr.heap.size < w6.heap.size := by have := q6.size; simp at this; omega
            have b0 : w6.cell? ⟨wr.heap.size, 0, none⟩ = some (.int .u32 l[k].id) := cellBelow q6 (by simp) (by simp [go_sem])
            have b1 : w6.cell? ⟨wr.heap.size, 1, none⟩ = some (.bool l[k].ext) := cellBelow q6 (by simp) (by simp [go_sem])
            have b2 : w6.cell? ⟨wr.heap.size, 2, none⟩ = some (.bool l[k].rem) := cellBelow q6 (by simp) (by simp [go_sem])
            have b3 : w6.cell? ⟨wr.heap.size, 3, none⟩ = some (.int .i64 l[k].dlc) := cellBelow q6 (by simp) (by simp [go_sem])
            have b4 : w6.cell? ⟨wr.heap.size, 4, none⟩ = some (.string l[k].data) := cellBelow q6 (by simp) (by simp [go_sem])
            have MS6 := hide ((MS.out.below ((Below.refl _ _).alloc (Nat.le_refl _) _)).below q6)
            clear c0 c1' c2 c3 c4 MS q6 qa
            have q36 : w3.heap.size ≤ w6.heap.size := q6'.size
            have cv := cellBelow q6' hbl (CL.out 0 _ 0 _ (HKL.out 0 hLp) rfl)
            simp only [Nat.zero_mul, Nat.add_zero] at cv
            have ct := cellBelow q6' hbt (CT.out k _ 0 _ XK.out rfl)
            simp only [Nat.mul_one, Nat.add_zero] at ct
            obtain ⟨d0, d1, d2, d3, d4⟩ := HC.out L[0] hLn w6 q6'
            go_wp2_with fail
            refine wp_region_tame (by kernel_rfl) (by kernel_rfl) ?_
            have m0 := fun s : InW w6 => s.cell (by omega) b0
            have m1 := fun s : InW w6 => s.cell (by omega) b1
            have m2 := fun s : InW w6 => s.cell (by omega) b2
            have m3 := fun s : InW w6 => s.cell (by omega) b3
            have m4 := fun s : InW w6 => s.cell (by omega) b4
            have mv := fun s : InW w6 => s.cell (by omega) cv
            have n0 := fun s : InW w6 => s.cell (by omega) d0
            have n1 := fun s : InW w6 => s.cell (by omega) d1
            have n2 := fun s : InW w6 => s.cell (by omega) d2
            have n3 := fun s : InW w6 => s.cell (by omega) d3
            have n4 := fun s : InW w6 => s.cell (by omega) d4
            have B0 := hide (And.intro b0 (And.intro b1 (And.intro b2 (And.intro b3 (And.intro b4 (And.intro cv (And.intro ct (And.intro d0 (And.intro d1 (And.intro d2 (And.intro d3 d4)))))))))))
            clear b0 b1 b2 b3 b4 cv ct d0 d1 d2 d3 d4
            repeat (go_big_quiet_step (first | (go_at_call 26; exact tame_of (LA.out _))))
            refine wpQuiet_nil ?_
            rintro _ ⟨s, rfl⟩
            clear m0 m1 m2 m3 m4 mv n0 n1 n2 n3 n4
            obtain ⟨w7, q7⟩ := s
            dsimp only
            obtain ⟨b0, b1, b2, b3, b4, cv, ct, d0, d1, d2, d3, d4⟩ := B0.out
            have MS7 := MS6.out.below q7
            have q7' := below_next q6' q36 q7
            have z7 : w6.heap.size ≤ w7.heap.size := q7.size
            have ms := fun s : InW w7 => ((MS7.below s.h).get (k : Int) (i64_wf (by omega) (by omega)))
            rw [IN.out] at ms
            first | rw [decide_eq_true x1] at ms | rw [decide_eq_false (by omega)] at ms
            have m0 := fun s : InW w7 => s.cell (by omega) (cellBelow q7 (by omega) b0)
            have m1 := fun s : InW w7 => s.cell (by omega) (cellBelow q7 (by omega) b1)
            have m2 := fun s : InW w7 => s.cell (by omega) (cellBelow q7 (by omega) b2)
            have m3 := fun s : InW w7 => s.cell (by omega) (cellBelow q7 (by omega) b3)
            have m4 := fun s : InW w7 => s.cell (by omega) (cellBelow q7 (by omega) b4)
            have mv := fun s : InW w7 => s.cell (by omega) (cellBelow q7 (by omega) cv)
            have mt := fun s : InW w7 => s.cell (by omega) (cellBelow q7 (by omega) ct)
            have n0 := fun s : InW w7 => s.cell (by omega) (cellBelow q7 (by omega) d0)
            have n1 := fun s : InW w7 => s.cell (by omega) (cellBelow q7 (by omega) d1)
            have n2 := fun s : InW w7 => s.cell (by omega) (cellBelow q7 (by omega) d2)
            have n3 := fun s : InW w7 => s.cell (by omega) (cellBelow q7 (by omega) d3)
            have n4 := fun s : InW w7 => s.cell (by omega) (cellBelow q7 (by omega) d4)
            clear b0 b1 b2 b3 b4 cv ct d0 d1 d2 d3 d4 B0
            have MS7' := hide MS7
            clear MS7
            go_wp2_with fail
            refine wp_region_tame (by kernel_rfl) (by kernel_rfl) ?_
            repeat (go_big_quiet_step (first | (go_at_call 26; exact tame_of (LB.out _))))
            refine wpQuiet_nil ?_
            rintro _ ⟨s, rfl⟩
            have MS8 := hide (MS7'.out.below s.h)
            have q8' := below_next q7' q7'.size s.h
            clear ms m0 m1 m2 m3 m4 mv mt n0 n1 n2 n3 n4
            go_wp2
            go_roundw
            case rel => exact ⟨k + 1, by omega, by go_num, MS8.out, q8'⟩
            case measure => simp [intOf]; omega
        · go_wp2
          go_ret
          exact ⟨rfl, q3'.trans (q.mono q3'.size)⟩
end Go.Proofs.Ytbdgifngldipcaa
