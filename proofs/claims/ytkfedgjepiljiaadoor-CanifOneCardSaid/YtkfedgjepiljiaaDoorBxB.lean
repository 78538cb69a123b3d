/- box.Right. -/
import Derived.Test.YtkfedgjepiljiaaDoorBxA
namespace Go.Proofs.YtkfedgjepiljiaaDoor
open Go.ChangeShapes Go.WideShapes Go.ChangeAt Go.RowKit
open FP (Fr)

/-- May the box at k be, in a row of which seq came? -/
def okBx (l : List Bx) (seq : Int) (k : Nat) (x : Bx) : Bool :=
  FP.rightB x.f && (decide (0 ≤ x.h) && (decide (x.h ≤ 1000000) && (decide (0 ≤ x.s) && (decide (x.s < seq) && (!(l.take k).any (fun y => y.s == x.s) && (decide (k = 0) || match l[(k - 1) / 2]? with | none => true | some y => !aheadB x y))))))
def okTo (l : List Bx) (seq : Int) (n : Nat) : Prop := ∀ k (h : k < l.length), k < n → okBx l seq k l[k] = true
def rightBx (l : List Bx) (seq cap : Int) : Bool :=
  decide (1 ≤ cap) && (decide (cap ≤ 8) && (decide ((l.length : Int) ≤ cap) && (decide (0 ≤ seq) && (decide (seq ≤ 1099511627776) && (List.range l.length).all fun k => match l[k]? with | none => true | some x => okBx l seq k x))))
theorem rightBx_all {l : List Bx} {seq : Int} : ((List.range l.length).all fun k => match l[k]? with | none => true | some x => okBx l seq k x) = true ↔ okTo l seq l.length := by
  rw [List.all_eq_true]
  constructor
  · intro h k hk _
    have := h k (List.mem_range.2 hk)
    rw [List.getElem?_eq_getElem hk] at this
    exact this
  · intro h k hk
    have hk := List.mem_range.1 hk
    rw [List.getElem?_eq_getElem hk]
    exact h k hk hk
theorem rightBx_iff {l : List Bx} {seq cap : Int} : rightBx l seq cap = true ↔ 1 ≤ cap ∧ cap ≤ 8 ∧ (l.length : Int) ≤ cap ∧ 0 ≤ seq ∧ seq ≤ 1099511627776 ∧ okTo l seq l.length := by
  unfold rightBx
  simp only [Bool.and_eq_true, decide_eq_true_eq, rightBx_all]
theorem rightBx_false {l : List Bx} {seq cap : Int} (h : ¬ (1 ≤ cap ∧ cap ≤ 8 ∧ (l.length : Int) ≤ cap ∧ 0 ≤ seq ∧ seq ≤ 1099511627776 ∧ okTo l seq l.length)) : rightBx l seq cap = false := by
  rw [← Bool.not_eq_true, rightBx_iff]; exact h
theorem rightBx_bad {l : List Bx} {seq cap : Int} {k : Nat} (hk : k < l.length) (h : okBx l seq k l[k] = false) : rightBx l seq cap = false := by
  apply rightBx_false
  rintro ⟨_, _, _, _, _, h6⟩
  rw [h6 k hk hk] at h
  cases h

theorem okTo_succ {l : List Bx} {seq : Int} {k : Nat} (hlt : k < l.length) (h : okTo l seq k) (hx : okBx l seq k l[k] = true) : okTo l seq (k + 1) := fun j hj hk => by
  by_cases e : j = k
  · subst e; exact hx
  · exact h j hj (by omega)
theorem okBx_mk {l : List Bx} {seq : Int} {k : Nat} {x : Bx} (hR : FP.rightB x.f = true) (i1 : 0 ≤ x.h) (i2 : x.h ≤ 1000000) (i3 : 0 ≤ x.s) (i4 : x.s < seq) (hC : (l.take k).any (fun y => y.s == x.s) = false)
    (h : k = 0 ∨ ∃ (p : Nat) (hp : p < l.length), p = (k - 1) / 2 ∧ aheadB x l[p] = false) : okBx l seq k x = true := by
  unfold okBx
  rw [hR, hC, decide_eq_true i1, decide_eq_true i2, decide_eq_true i3, decide_eq_true i4]
  rcases h with h | ⟨p, hp, rfl, h⟩
  · simp [h]
  · rw [List.getElem?_eq_getElem hp]
    simp [h]
theorem okBx_any {l : List Bx} {seq : Int} {k : Nat} {x : Bx} (h : (l.take k).any (fun y => y.s == x.s) = true) : okBx l seq k x = false := by
  unfold okBx
  rw [h]
  simp
theorem okBx_ahead {l : List Bx} {seq : Int} {k p : Nat} {x : Bx} (hk : k ≠ 0) (hp : p < l.length) (e : p = (k - 1) / 2) (h : aheadB x l[p] = true) : okBx l seq k x = false := by
  unfold okBx
  rw [← e, List.getElem?_eq_getElem hp]
  simp [h, hk]

set_option maxRecDepth 100000 in
theorem right1_any (x : Bx) (s : Int) (bb : Nat) (w : World) (hb : bb < w.heap.size) (hc : w.cell? ⟨bb, 6, none⟩ = some (.int .i64 s)) :
    Calls Tryd.prog 49 #[.agg #[.int .i64 x.h, .int .u32 x.f.id, .bool x.f.ext, .bool x.f.rem, .int .i64 x.f.dlc, .string x.f.data, .int .i64 x.s], .pointer (some ⟨bb, 0, none⟩)] w fun e w' => e = .returned (.bool (x.s == s)) ∧ Below w.heap.size w w' := by
  obtain ⟨h, ⟨id, ext, rem, dlc, data⟩, s'⟩ := x
  dsimp only at *
  have q0 : Below w.heap.size w (w.alloc (.cells #[.int .i64 h, .int .u32 id, .bool ext, .bool rem, .int .i64 dlc, .string data, .int .i64 s'] 60)) := (Below.refl _ _).alloc (Nat.le_refl _) _
  go_enter Tryd.func49, Tryd.ntmps49
  go_wp2
  go_ret
  exact ⟨rfl, q0⟩

set_option maxRecDepth 100000 in
set_option maxHeartbeats 4000000 in
theorem bxRight_any (l : List Bx) (A : Option Addr) (c : Nat) (seq cap : Int) (w : World) (hr : BxR w w.heap.size A l) (hl : l.length ≤ 1000) (hcl : l.length ≤ c) (hid : ∀ x ∈ l, x.f.id < 4294967296) :
    Calls Tryd.prog 36 #[.agg #[.slice A l.length c, .int .i64 seq, .int .i64 cap]] w fun e w' => e = .returned (.bool (rightBx l seq cap)) ∧ Below w.heap.size w w' := by
  have q0 : Below w.heap.size w (w.alloc (.cells #[.slice A l.length c, .int .i64 seq, .int .i64 cap] 29)) := (Below.refl _ _).alloc (Nat.le_refl _) _
  have HID := hide hid
  clear hid
  by_cases hout : 1 ≤ cap ∧ cap ≤ 8 ∧ (l.length : Int) ≤ cap ∧ 0 ≤ seq ∧ seq ≤ 1099511627776
  · obtain ⟨o1, o2, o3, o4, o5⟩ := hout
    go_enter Tryd.func36, Tryd.ntmps36
    go_wp2
    have hr0 : BxR (w.alloc (.cells #[.slice A l.length c, .int .i64 seq, .int .i64 cap] 29)) (w.heap.size + 1) A l := (hr.below q0).more (Nat.le_succ _)
    have HR := hide hr0
    clear hr hr0
    go_loopw [35] (fun i W => ∃ k : Nat, k ≤ l.length ∧ i = .int .i64 k ∧ Hid (okTo l seq k) ∧ Below (w.heap.size + 1) (w.alloc (.cells #[.slice A l.length c, .int .i64 seq, .int .i64 cap] 29)) W) (fun i _ => l.length - (intOf i).toNat)
    case atStart => exact ⟨0, Nat.zero_le _, rfl, hide (fun _ _ h => absurd h (by omega)), Below.refl _ _⟩
    case round =>
      obtain ⟨k, hk, rfl, hinv, q⟩ := hrel
      have zq : w.heap.size + 1 ≤ wr.heap.size := by have := q.size; simpa using this
      have zw : w.heap.size < wr.heap.size := by omega
      have qf : Below w.heap.size w wr := q0.trans (q.mono (by simp))
      by_cases hlt : k < l.length
      · have b0 : wr.cell? ⟨w.heap.size, 0, none⟩ = some (.slice A l.length c) := cellBelow q (by omega) (by simp [go_sem])
        have b1 : wr.cell? ⟨w.heap.size, 1, none⟩ = some (.int .i64 seq) := cellBelow q (by omega) (by simp [go_sem])
        have rd := HR.out.below q
        obtain ⟨b, off, rfl, hbs, c0, c1, c2, c3, c4, c5, c6⟩ := rd.at_ hlt
        have hbr : b < wr.heap.size := by omega
        have qa : Below w.heap.size w (wr.alloc (.cells #[.int .i64 l[k].h, .int .u32 l[k].f.id, .bool l[k].f.ext, .bool l[k].f.rem, .int .i64 l[k].f.dlc, .string l[k].f.data, .int .i64 l[k].s] 60)) := qf.alloc qf.size _
        have qb : Below (w.heap.size + 1) (w.alloc (.cells #[.slice (some ⟨b, off, none⟩) l.length c, .int .i64 seq, .int .i64 cap] 29)) (wr.alloc (.cells #[.int .i64 l[k].h, .int .u32 l[k].f.id, .bool l[k].f.ext, .bool l[k].f.rem, .int .i64 l[k].f.dlc, .string l[k].f.data, .int .i64 l[k].s] 60)) := q.alloc (by omega) _
        have RR := hide (fun W => frRight_any l[k].f W (HID.out _ (List.getElem_mem hlt)))
        have hrun := run_to (P := Tryd.prog) 27 60 Tryd.underlying27 7 (fun W => by kernel_rfl) (some ⟨b, off, none⟩) l.length c k k rfl (by omega)
        have hkl : (l.take k).length = k := by rw [List.length_take]; omega
        have CF := hide (fun W (hW : Below (wr.heap.size + 1) (wr.alloc (.cells #[.int .i64 l[k].h, .int .u32 l[k].f.id, .bool l[k].f.ext, .bool l[k].f.rem, .int .i64 l[k].f.dlc, .string l[k].f.data, .int .i64 l[k].s] 60)) W) => by
          have hz : wr.heap.size + 1 ≤ W.heap.size := by have := hW.size; simpa using this
          have hcell : W.cell? ⟨wr.heap.size, 6, none⟩ = some (.int .i64 l[k].s) := cellBelow hW (by omega) (by simp [go_sem])
          have := containsBx_any 49 #[.pointer (some ⟨wr.heap.size, 0, none⟩)] (fun y => y.s == l[k].s) (fun _ _ => rfl) (l.take k) (some ⟨b, off, none⟩) c W (((rd.below ((Below.refl _ _).alloc (by omega) _)).below (hW.mono (by omega))).take k |>.more (by omega)) (by omega)
            (hide (fun f _ w' hw' => right1_any f l[k].s wr.heap.size w' (by have := hw'.size; omega) (cellBelow hw' (by omega) hcell)))
          rw [hkl] at this
          exact this)
        have HB := hide (show okBx l seq k l[k] = false → rightBx l seq cap = false from fun h => rightBx_bad hlt h)
        have hkl := hide hkl
        rcases hR : FP.rightB l[k].f with _ | _
        · have HF := hide (HB.out (by unfold okBx; rw [hR]; rfl))
          rw [hR] at RR
          clear rd hR CF hrun
          go_wp2_with fail
          (with_reducible refine (RR.out _).mono ?_)
          rintro e1 w1 ⟨rfl, q1⟩
          obtain ⟨hc1, hz1⟩ := bcell q1
          have z0 : w.heap.size < w1.heap.size := by simp at hz1; omega
          have z1 : wr.heap.size < w1.heap.size := by simp at hz1; omega
          have q1' := below_next qa qa.size q1
          go_wp2
          all_goals
            go_ret
            exact ⟨by rw [HF.out]; rfl, q1'⟩
        · rw [hR] at RR
          by_cases hin : 0 ≤ l[k].h ∧ l[k].h ≤ 1000000 ∧ 0 ≤ l[k].s ∧ l[k].s < seq
          · obtain ⟨i1, i2, i3, i4⟩ := hin
            rcases hC : (l.take k).any (fun y => y.s == l[k].s) with _ | _
            · rw [hC] at CF
              go_wp2_with fail
              (with_reducible refine (RR.out _).mono ?_)
              rintro e1 w1 ⟨rfl, q1⟩
              obtain ⟨hc1, hz1⟩ := bcell q1
              have z0 : w.heap.size < w1.heap.size := by simp at hz1; omega
              have z1 : wr.heap.size < w1.heap.size := by simp at hz1; omega
              have q1' := below_next qa qa.size q1
              have q1b := below_next qb (by have := qb.size; simpa using this) q1
              go_wp2_with fail
              (with_reducible refine (CF.out _ (by simpa using q1)).mono ?_)
              rintro e2 w2 ⟨rfl, q2⟩
              have q2b := below_next q1b (by have := q1b.size; simpa using this) q2
              have q2' := below_next q1' q1'.size q2
              have zz : w1.heap.size ≤ w2.heap.size := q2.size
              have z20 : w.heap.size < w2.heap.size := by omega
              have z21 : wr.heap.size < w2.heap.size := by omega
              obtain ⟨hc2, _⟩ := bcell q2
              have BX1 := Bx_box (x := l[k]) rfl (by simpa using q1)
              have BX2 := Bx_boxn (x := l[k]) z1 BX1 q2
              have mb := fun s : InW w2 => Bx_boxs (x := l[k]) z21 BX2 s
              have m1 := fun s : InW w2 => s.cell z20 (cellBelow q2b (by omega) (show (w.alloc (.cells #[.slice (some ⟨b, off, none⟩) l.length c, .int .i64 seq, .int .i64 cap] 29)).cell? ⟨w.heap.size, 0, none⟩ = some (.slice (some ⟨b, off, none⟩) l.length c) by simp [go_sem]))
              by_cases hk0 : k = 0
              · have hd : decide ((0 : Int) < (k : Int)) = false := by rw [decide_eq_false_iff_not]; omega
                have hd' : decide (0 < k) = false := by rw [decide_eq_false_iff_not]; omega
                have HS := hide (okTo_succ hlt hinv.out (okBx_mk hR i1 i2 i3 i4 hC (.inl hk0)))
                clear hk0 BX1 BX2 hC hR
                go_wp2_with fail
                refine wp_region_tame (by kernel_rfl) (by kernel_rfl) ?_
                repeat (go_big_quiet_step (fail))
                refine wpQuiet_nil ?_
                rintro _ ⟨s, rfl⟩
                have q3b := below_next q2b (by have := q2b.size; simpa using this) s.h
                clear mb m1
                go_wp2
                go_roundw
                case rel => exact ⟨k + 1, by omega, by go_num, HS.out, q3b⟩
                case measure => simp [intOf]; omega
              · obtain ⟨p, hp⟩ : ∃ p : Nat, p = (k - 1) / 2 := ⟨_, rfl⟩
                have hd : decide ((0 : Int) < (k : Int)) = true := by rw [decide_eq_true_eq]; omega
                have hd' : decide (0 < k) = true := by rw [decide_eq_true_eq]; omega
                have hpl : p < l.length := by omega
                have mp := BxR.all (HR.out.below q2b) (by have := q2b.size; simpa using this) hpl
                have AH := hide (fun W => ahead_any l[k] l[p] W (HID.out _ (List.getElem_mem hlt)) (HID.out _ (List.getElem_mem hpl)))
                have hpi : (p : Int) < (l.length : Int) := by omega
                have hp0 : (0 : Int) ≤ (p : Int) := by omega
                rcases hA : aheadB l[k] l[p] with _ | _
                · rw [hA] at AH
                  have HS := hide (okTo_succ hlt hinv.out (okBx_mk hR i1 i2 i3 i4 hC (.inr ⟨p, hpl, hp, hA⟩)))
                  have hw1 : IntKind.i64.wrap ((k : Int) - 1) = (k : Int) - 1 := IntWalk.i64_in _ (by omega)
                  have hw3 : ((k : Int) - 1).tdiv 2 = (p : Int) := by rw [Int.tdiv_eq_ediv_of_nonneg (by omega)]; omega
                  have hw2 : IntKind.i64.wrap (p : Int) = (p : Int) := IntWalk.i64_in _ (by omega)
                  clear hk0 BX1 BX2 hC hR hp hA
                  go_wp2_with fail
                  refine wp_region_tame (by kernel_rfl) (by kernel_rfl) ?_
                  repeat (go_big_quiet_step (first | (go_at_call 51; exact tame_of (AH.out _))))
                  refine wpQuiet_nil ?_
                  rintro _ ⟨s, rfl⟩
                  have q3b := below_next q2b (by have := q2b.size; simpa using this) s.h
                  clear mb m1 mp hw1 hw2 hw3
                  go_wp2
                  go_roundw
                  case rel => exact ⟨k + 1, by omega, by go_num, HS.out, q3b⟩
                  case measure => simp [intOf]; omega
                · rw [hA] at AH
                  have HF := hide (HB.out (okBx_ahead hk0 hpl hp hA))
                  have hw1 : IntKind.i64.wrap ((k : Int) - 1) = (k : Int) - 1 := IntWalk.i64_in _ (by omega)
                  have hw3 : ((k : Int) - 1).tdiv 2 = (p : Int) := by rw [Int.tdiv_eq_ediv_of_nonneg (by omega)]; omega
                  have hw2 : IntKind.i64.wrap (p : Int) = (p : Int) := IntWalk.i64_in _ (by omega)
                  clear hk0 BX1 BX2 hC hR hp hA
                  go_wp2_with fail
                  refine wp_region_tame (by kernel_rfl) (by kernel_rfl) ?_
                  repeat (go_big_quiet_step (first | (go_at_call 51; exact tame_of (AH.out _))))
                  refine wpQuiet_nil ?_
                  rintro _ ⟨s, rfl⟩
                  have q3' := below_next q2' q2'.size s.h
                  clear mb m1 mp hw1 hw2 hw3
                  go_wp2
                  go_ret
                  exact ⟨by rw [HF.out]; rfl, q3'⟩
            · have HF := hide (HB.out (okBx_any hC))
              rw [hC] at CF
              clear hC hR
              go_wp2_with fail
              (with_reducible refine (RR.out _).mono ?_)
              rintro e1 w1 ⟨rfl, q1⟩
              obtain ⟨hc1, hz1⟩ := bcell q1
              have z0 : w.heap.size < w1.heap.size := by simp at hz1; omega
              have z1 : wr.heap.size < w1.heap.size := by simp at hz1; omega
              have q1' := below_next qa qa.size q1
              go_wp2_with fail
              (with_reducible refine (CF.out _ (by simpa using q1)).mono ?_)
              rintro e2 w2 ⟨rfl, q2⟩
              have q2' := below_next q1' q1'.size q2
              go_wp2
              go_ret
              exact ⟨by rw [HF.out]; rfl, q2'⟩
          · have HF := hide (HB.out (by
              unfold okBx
              rw [hR, ← Bool.not_eq_true]
              simp only [Bool.and_eq_true, decide_eq_true_eq]
              rintro ⟨_, h1, h2, h3, h4, _⟩
              exact hin ⟨h1, h2, h3, h4⟩))
            rcases (show l[k].h < 0 ∨ 1000000 < l[k].h ∨ l[k].s < 0 ∨ seq ≤ l[k].s by omega) with h | h | h | h
            all_goals
              clear rd hR CF hrun hin
              go_wp2_with fail
              (with_reducible refine (RR.out _).mono ?_)
              rintro e1 w1 ⟨rfl, q1⟩
              obtain ⟨hc1, hz1⟩ := bcell q1
              have z0 : w.heap.size < w1.heap.size := by simp at hz1; omega
              have z1 : wr.heap.size < w1.heap.size := by simp at hz1; omega
              have q1' := below_next qa qa.size q1
              go_wp2
              all_goals
                go_ret
                exact ⟨by rw [HF.out]; rfl, q1'⟩
      · have HT := hide (rightBx_iff.2 ⟨o1, o2, o3, o4, o5, fun j h _ => hinv.out j h (by omega)⟩)
        go_wp2
        go_ret
        exact ⟨by rw [HT.out]; rfl, qf⟩
  · have HF := hide (rightBx_false (l := l) (seq := seq) (cap := cap) (fun h => hout ⟨h.1, h.2.1, h.2.2.1, h.2.2.2.1, h.2.2.2.2.1⟩))
    rcases (show cap < 1 ∨ 8 < cap ∨ cap < (l.length : Int) ∨ seq < 0 ∨ 1099511627776 < seq by omega) with h | h | h | h | h
    all_goals
      clear hout
      go_enter Tryd.func36, Tryd.ntmps36
      go_wp2
      all_goals
        go_ret
        exact ⟨by rw [HF.out]; rfl, q0⟩
end Go.Proofs.YtkfedgjepiljiaaDoor
