/- The reference's Lost and Same of frames; where one loses, plainly. -/
import Derived.Test.YtbdgifngldipcaaPsN
import Derived.Test.YtbdgifngldipcaaPrK
import Derived.Test.YtbdgifngldipcaaRfP
namespace Go.Proofs.Ytbdgifngldipcaa
open Go.ChangeShapes Go.WideShapes Go.ChangeAt Go.RowKit
open FP (Fr)
open PP (bl)

theorem lostN_neg {S : Nat → ByteArray} {n : Nat} : ∀ k j, lostN S n k j = -1 ∨ 0 ≤ lostN S n k j
  | 0, _ => .inl rfl
  | k + 1, j => by
    rw [lostN_succ]
    split
    · exact .inr (by omega)
    · exact lostN_neg k j
theorem best_bestTo {l : List Fr} (hg : ∀ f ∈ l, FP.rightB f = true) (h0 : 0 < l.length) : PP.Best l (OP.bestTo l l.length) := by
  obtain ⟨h1, _⟩ := SP.bestTo_min hg l.length h0 (Nat.le_refl _)
  have hb := OP.bestTo_lt l l.length h0
  refine ⟨hb, fun j hj => ?_⟩
  have := h1 j hj
  rw [OP.atF_lt hj, OP.atF_lt hb] at this
  rw [PP.FL_lt hj, PP.FL_lt hb]
  exact this
/-- Where one loses is where its field differs first from the best one's. -/
theorem lost_first {l : List Fr} {b : Nat} (hb : PP.Best l b) {j : Nat} (hj : j < l.length) : lostF l j = PP.firstF (PP.FL l j) (PP.FL l b) := by
  rw [PP.lostF_eq l j hj]
  rcases PP.lost_law (fun j _ => PP.FL_fld l j) hb.1 rfl hb.2 32 j hj with ⟨h1, h2⟩ | ⟨i, a, c, h1, h2, h3, h4, h5, h6⟩
  · rw [List.take_of_length_le (PP.FL_fld l j).len, List.take_of_length_le (PP.FL_fld l b).len] at h2
    rw [h2, PP.firstF_self]
    rcases lostN_neg (S := PP.strs (PP.FL l)) (n := l.length) 32 j with h | h
    · exact h
    · omega
  · rw [h1, PP.firstF_at i _ _ a c h3 h4 h5 h6]

theorem fr_there {W : World} {B : Nat} {f : Fr} {t : TypeId} (h : W.heap[B]? = some (.cells #[.int .u32 f.id, .bool f.ext, .bool f.rem, .int .i64 f.dlc, .string f.data] t (0, 0))) : W.there B 0 5 := there_heap (cs := frc f) h
/-- What lies while the best one is looked for. -/
structure LoS (w : World) (f x : Fr) (W : World) : Prop where
  b3 : W.heap[w.heap.size]? = some (.cells #[.int .u32 f.id, .bool f.ext, .bool f.rem, .int .i64 f.dlc, .string f.data] 39 (0, 0))
  b5 : W.heap[w.heap.size + 1]? = some (.cells #[.int .u32 x.id, .bool x.ext, .bool x.rem, .int .i64 x.dlc, .string x.data] 39 (0, 0))
  q : Below w.heap.size w W
theorem LoS.below {w : World} {f x : Fr} {W W' : World} (h : LoS w f x W) (b : Below W.heap.size W W') : LoS w f x W' := ⟨heap_below h.b3 b, heap_below h.b5 b, below_next h.q h.q.size b⟩
theorem bestTo_succ (l : List Fr) (k : Nat) : OP.bestTo l (k + 1) = if lessB (OP.atF l k) (OP.atF l (OP.bestTo l k)) = true then k else OP.bestTo l k := rfl

set_option maxRecDepth 100000 in
set_option maxHeartbeats 4000000 in
theorem refLost_any (l : List Fr) (A : Option Addr) (c n : Nat) (f : Fr) (w : World) (hn : l.length = n) (hr : FrR w w.heap.size A l) (h0 : 0 < n) (h1 : n ≤ 100) (hg : ∀ f ∈ l, FP.rightB f = true) (hf : FP.rightB f = true) :
    Calls Try.prog 37 #[.slice A n c, .agg #[.int .u32 f.id, .bool f.ext, .bool f.rem, .int .i64 f.dlc, .string f.data]] w fun e w' => e = .returned (.int .i64 (PP.firstF (fieldF f) (fieldF (OP.atF l (OP.bestTo l n))))) ∧ Below w.heap.size w w' := by
  have HR := hide hr
  have HN := hide hn
  have HG := hide hg
  have hl0 : 0 < l.length := by omega
  obtain ⟨b, off, rfl, hbw, d0, d1, d2, d3, d4⟩ := hr.at_ hl0
  simp only [Nat.zero_mul, Nat.add_zero] at d0 d1 d2 d3 d4
  have hat0 : OP.atF l (OP.bestTo l 0) = l[0] := by unfold OP.bestTo; exact OP.atF_lt hl0
  have q0 : Below w.heap.size w ((w.alloc (.cells #[.int .u32 f.id, .bool f.ext, .bool f.rem, .int .i64 f.dlc, .string f.data] 39)).alloc (.cells #[.int .u32 l[0].id, .bool l[0].ext, .bool l[0].rem, .int .i64 l[0].dlc, .string l[0].data] 39)) := ((Below.refl _ _).alloc (Nat.le_refl _) _).alloc (by simp) _
  have S0 : Hid (LoS w f (OP.atF l (OP.bestTo l 0)) ((w.alloc (.cells #[.int .u32 f.id, .bool f.ext, .bool f.rem, .int .i64 f.dlc, .string f.data] 39)).alloc (.cells #[.int .u32 l[0].id, .bool l[0].ext, .bool l[0].rem, .int .i64 l[0].dlc, .string l[0].data] 39))) := hide (by rw [hat0]; exact ⟨new2a w _ _ _ _, new2b w _ _ _ _, q0⟩)
  clear hr hn hg hat0 q0
  go_enter Try.func37, Try.ntmps37
  go_wp2_with fail
  clear d0 d1 d2 d3 d4
  go_loopw [13] (fun vi W => ∃ i : Nat, i ≤ n ∧ vi = .int .i64 i ∧ Hid (LoS w f (OP.atF l (OP.bestTo l i)) W)) (fun vi _ => n - (intOf vi).toNat)
  case atStart => exact ⟨0, Nat.zero_le _, rfl, S0⟩
  case round =>
    rename World => wa
    clear S0
    obtain ⟨i, hi, rfl, hS⟩ := hrel
    by_cases hlt : i < n
    · have hil : i < l.length := by rw [HN.out]; exact hlt
      have hii : (i : Int) < (n : Int) := by omega
      obtain ⟨_, e0, e1, e2, e3, e4⟩ := (FrR.next HR.out hS.out.q hS.out.q.size).at2 hil
      have hBS := bestTo_succ l i
      rw [OP.atF_lt hil] at hBS
      have hbl : OP.bestTo l i < l.length := by
        rcases Nat.eq_zero_or_pos i with e | e
        · subst e; exact hl0
        · exact Nat.lt_of_lt_of_le (OP.bestTo_lt l i e) (by omega)
      have hxr : FP.rightB (OP.atF l (OP.bestTo l i)) = true := by rw [OP.atF_lt hbl]; exact HG.out _ (List.getElem_mem _)
      have hgr := HG.out l[i] (List.getElem_mem _)
      have HBS := hide hBS
      have HAT := hide (OP.atF_lt hil)
      have LE := hide (fun W => refLess_any l[i] (OP.atF l (OP.bestTo l i)) W hgr hxr)
      clear hBS hbl hxr hgr
      generalize l[i] = g at *
      generalize hx : OP.atF l (OP.bestTo l i) = x at *
      have HX := hide hx
      clear hx
      have qa : Below wa.heap.size wa (wa.alloc (.cells #[.int .u32 g.id, .bool g.ext, .bool g.rem, .int .i64 g.dlc, .string g.data] 39)) := (Below.refl _ _).alloc (Nat.le_refl _) _
      have Sa := hide (hS.out.below qa)
      have Ga := hide (World.alloc_heap_new wa (.cells #[.int .u32 g.id, .bool g.ext, .bool g.rem, .int .i64 g.dlc, .string g.data] 39))
      have zb5 : w.heap.size + 1 < wa.heap.size := heap_lt hS.out.b5
      obtain ⟨y0, y1, y2, y3, y4⟩ := fr_cellsx hS.out.b5
      clear hS qa
      go_wp2_with fail
      generalize hW : wa.alloc (.cells #[.int .u32 g.id, .bool g.ext, .bool g.rem, .int .i64 g.dlc, .string g.data] 39) = wb at *
      clear hW e0 e1 e2 e3 e4 y0 y1 y2 y3 y4
      (with_reducible refine (LE.out _).mono ?_)
      rintro e5 w5 ⟨rfl, q5⟩
      have S5 := hide (Sa.out.below q5)
      have G5 := hide (heap_below Ga.out q5)
      clear Sa Ga q5
      rcases hB : lessB g x with _ | _
      · rw [hB] at HBS LE
        have NX : Hid (LoS w f (OP.atF l (OP.bestTo l (i + 1))) w5) := hide (by rw [HBS.out, if_neg (by simp), HX.out]; exact S5.out)
        clear hB HBS HX HAT S5 G5
        go_wp2_with fail
        go_roundw
        case rel => exact ⟨i + 1, by omega, by go_num, NX⟩
        case measure => simp [intOf]; omega
      · have hB' : lessB g x = true := hB
        have z5 : w.heap.size + 1 < w5.heap.size := heap_lt S5.out.b5
        obtain ⟨y0, y1, y2, y3, y4⟩ := fr_cellsx G5.out
        rw [hB] at HBS
        go_wp2_with (refine wpList_store_hid (by rfl) 39 (.tmp 5) (.tmp 20) (by rfl) (w.heap.size + 1) 0 (frc g) (by rfl) (by rfl) (by exact fr_there S5.out.b5) (by kernel_rfl) (by simp [frc, Value.oneCell']) ?_)
        intro W7 e7
        have b5 := whole_heap (frc g) (xs := frc x) S5.out.b5 rfl
        have b3 := other_heap (x := w.heap.size) (b := w.heap.size + 1) (by omega) (frc g) 0 _ S5.out.b3
        have q7 := S5.out.q.trans (below_setCells (g := w.heap.size + 1) (frc g) 0 w5 (by omega))
        rw [← e7.out] at b5 b3 q7
        have NX : Hid (LoS w f (OP.atF l (OP.bestTo l (i + 1))) W7) := hide (by rw [HBS.out, if_pos trivial, HAT.out]; exact ⟨b3, b5, q7⟩)
        clear e7 b5 b3 q7 S5 G5 y0 y1 y2 y3 y4 hB hB' HBS
        go_wp2_with fail
        go_roundw
        case rel => exact ⟨i + 1, by omega, by go_num, NX⟩
        case measure => simp [intOf]; omega
    · obtain rfl : n = i := by omega
      have hbl : OP.bestTo l n < l.length := by rw [← HN.out]; exact OP.bestTo_lt l _ hl0
      have hxr : FP.rightB (OP.atF l (OP.bestTo l n)) = true := by rw [OP.atF_lt hbl]; exact HG.out _ (List.getElem_mem _)
      generalize hxx : OP.atF l (OP.bestTo l n) = x at *
      have HXX := hide hxx
      clear hxx
      obtain ⟨S1, hS1⟩ : ∃ S, S = fstr f := ⟨_, rfl⟩
      obtain ⟨S2, hS2⟩ : ∃ S, S = fstr x := ⟨_, rfl⟩
      obtain ⟨v, hv⟩ : ∃ v, v = PP.firstF (fieldF f) (fieldF x) := ⟨_, rfl⟩
      have F1s := hide (fun s : InW wa => by have := refField_any f s.W hf; rw [← hS1] at this; exact this)
      have F2s := hide (fun s : InW wa => by have := refField_any x s.W hxr; rw [← hS2] at this; exact this)
      have CMs := hide (show ∀ s : InW wa, Calls Try.prog 59 #[.string S1, .string S2] s.W fun e w' => e = .returned (.int .i64 v) ∧ Below s.W.heap.size s.W w' from fun s => by
        have h1 := field_len f
        have h2 := field_len x
        have := refFirst_any S1 S2 s.W (by rw [hS1]; unfold fstr; simp only [ByteArray.size, List.size_toArray, h1]; split <;> omega) (by rw [hS2]; unfold fstr; simp only [ByteArray.size, List.size_toArray, h2]; split <;> omega)
        rw [hv]
        rw [hS1, hS2] at this ⊢
        exact this)
      have Q5 := hS.out.q
      have m3 := frW_s hS.out.b3
      have m5 := frW_s hS.out.b5
      have HV := hide hv
      clear hS1 hS2 hv hbl hxr
      go_wp2_with fail
      refine wp_region_tame (by kernel_rfl) (by kernel_rfl) ?_
      repeat (go_big_quiet_step (first | (go_at_call 32; first | (with_reducible exact tame_of (F1s.out _)) | (with_reducible exact tame_of (F2s.out _))) | (go_at_call 59; exact tame_of (CMs.out _))))
      refine wpQuiet_nil ?_
      rintro _ ⟨s, rfl⟩
      have qs := below_next Q5 Q5.size s.h
      clear m3 m5
      go_wp2_with fail
      go_ret
      exact ⟨by rw [HXX.out, ← HV.out]; rfl, qs⟩

set_option maxRecDepth 100000 in
set_option maxHeartbeats 1000000 in
theorem same5 (l : List Fr) (A : Option Addr) (c : Nat) (B : Option Addr) (d : Nat) (w : World) (hA : FrR w w.heap.size A l) (hB : FrR w w.heap.size B l) (hl : l.length ≤ 1000) :
    Calls Try.prog 35 #[.slice A l.length c, .slice B l.length d] w fun e w' => e = .returned (.bool true) ∧ Below w.heap.size w w' := by
  have HA := hide hA
  have HB := hide hB
  clear hA hB
  go_enter Try.func35, Try.ntmps35
  go_wp2
  go_loopw [13] (fun i W => ∃ k : Nat, k ≤ l.length ∧ i = .int .i64 k ∧ Below w.heap.size w W) (fun i _ => l.length - (intOf i).toNat)
  case atStart => exact ⟨0, Nat.zero_le _, rfl, Below.refl _ _⟩
  case round =>
    obtain ⟨k, hk, rfl, q⟩ := hrel
    by_cases hlt : k < l.length
    · obtain ⟨b, off, rfl, _⟩ := HA.out.at_ hlt
      obtain ⟨b', off', rfl, _⟩ := HB.out.at_ hlt
      have mA := FrR.all (FrR.next HA.out q q.size) (Nat.le_refl _) hlt
      have mB := FrR.all (FrR.next HB.out q q.size) (Nat.le_refl _) hlt
      have h1 : (k : Int) < (l.length : Int) := by omega
      have h0 : (0 : Int) ≤ (k : Int) := by omega
      go_wp2_with fail
      refine wp_region_tame (by kernel_rfl) (by kernel_rfl) ?_
      repeat (go_big_quiet_step (fail))
      refine wpQuiet_nil ?_
      rintro _ ⟨s, rfl⟩
      have qs := q.trans (s.h.mono q.size)
      clear mA mB
      go_wp2
      go_roundw
      case rel => exact ⟨k + 1, by omega, by go_num, qs⟩
      case measure => simp [intOf]; omega
    · go_wp2
      go_ret
      exact ⟨rfl, q⟩
end Go.Proofs.Ytbdgifngldipcaa
