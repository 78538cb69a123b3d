/- Plain: a frame that loses to another one. -/
import Derived.Test.YthkilodnghiocaaGreatDoorMgBuP
import Derived.Test.YthkilodnghiocaaGreatDoorMgCsL
import Derived.Test.YthkilodnghiocaaGreatDoorMgPrF
import Derived.Test.YthkilodnghiocaaGreatDoorOwS
import Derived.Test.YthkilodnghiocaaGreatDoorMgFrR
namespace Go.Proofs.YthkilodnghiocaaGreatDoor
open Go.ChangeShapes Go.WideShapes Go.ChangeAt Go.RowKit
open FP (Fr uN uK doneB sizeE sizeV readV headOf headF sumF bitsF bodyF RS rsStep rs0 rsOf goodB stuffF stuffS)

theorem take_split {l : List UInt8} {k : Nat} {a : UInt8} (h : l[k]? = some a) : l = l.take k ++ a :: l.drop (k + 1) := by
  obtain ⟨h1, h2⟩ := List.getElem?_eq_some_iff.1 h
  rw [← h2, ← List.drop_eq_getElem_cons h1, List.take_append_drop]
/-- Where the stuffed bits of two are unlike first. -/
theorem lose_at {f g : Fr} (hf : FP.rightB f = true) (hg : FP.rightB g = true) (hl : lessB g f = true) :
    ∃ d last n p t u, bodyF f = d ++ 49 :: t ∧ bodyF g = d ++ 48 :: u ∧ rsOf d = ⟨last, n, p⟩ ∧ n < 5 ∧ p.length ≤ (fieldF f).length ∧ 1 ≤ d.length := by
  rw [PP.lessB_bl hg hf] at hl
  rcases PP.fld_or (PP.fld_of g) (PP.fld_of f) with h | ⟨k, a, b, h1, h2, h3, h4⟩
  · rw [h, PP.bl_irrefl] at hl; cases hl
  · rw [PP.bl_first k _ _ h1 a b h2 h3 h4] at hl
    have hab : a = 48 ∧ b = 49 := by
      rcases (PP.fld_of g).bits a (List.mem_of_getElem? h2) with rfl | rfl <;> rcases (PP.fld_of f).bits b (List.mem_of_getElem? h3) with rfl | rfl
      · exact absurd rfl h4
      · exact ⟨rfl, rfl⟩
      · exact absurd hl (by decide)
      · exact absurd rfl h4
    obtain ⟨rfl, rfl⟩ := hab
    have key : ∀ x : Fr, ∃ r, sumF (headF x) = 48 :: (fieldF x ++ r) := fun x => by
      unfold sumF
      rw [head_field]
      exact ⟨_, by simp only [List.cons_append, List.append_assoc]; rfl⟩
    obtain ⟨rf, ef⟩ := key f
    obtain ⟨rg, eg⟩ := key g
    have hkf : k < (fieldF f).length := (List.getElem?_eq_some_iff.1 h3).1
    have hkg : k < (fieldF g).length := (List.getElem?_eq_some_iff.1 h2).1
    have tf : sumF (headF f) = (48 :: (fieldF f).take k) ++ 49 :: ((fieldF f).drop (k + 1) ++ rf) := by
      rw [ef]
      conv => lhs; rw [take_split h3]
      simp
    have tg : sumF (headF g) = (48 :: (fieldF f).take k) ++ 48 :: ((fieldF g).drop (k + 1) ++ rg) := by
      rw [eg, ← h1]
      conv => lhs; rw [take_split h2]
      simp
    have hp : ∀ c ∈ 48 :: (fieldF f).take k, c = 48 ∨ c = 49 := fun c hc => by
      rw [List.mem_cons] at hc
      rcases hc with rfl | hc
      · exact .inl rfl
      · exact (PP.fld_of f).bits c (List.mem_of_mem_take hc)
    obtain ⟨t, ht⟩ := FP.stuff_split (48 :: (fieldF f).take k) 49 ((fieldF f).drop (k + 1) ++ rf)
    obtain ⟨u, hu⟩ := FP.stuff_split (48 :: (fieldF f).take k) 48 ((fieldF g).drop (k + 1) ++ rg)
    obtain ⟨r1, r2⟩ := FP.rs_of_stuff _ hp
    refine ⟨(stuffS (48 :: (fieldF f).take k)).out, _, _, _, t, u, ?_, ?_, r1, r2, ?_, ?_⟩
    · unfold bodyF; rw [tf]; exact ht
    · unfold bodyF; rw [tg]; exact hu
    · rw [List.length_cons, List.length_take]; omega
    · have := (FP.stuff_len _ hp).1
      unfold stuffF at this
      rw [List.length_cons] at this
      omega

/-- In another one's frame, behind its first bit. -/
theorem rcv_on {c : Cl} {f : Fr} (hr : FP.rightB f = true) {i : Nat} (h0 : i ≠ 0) (hi : i < (bitsF f).length) {b : UInt8} (hb : (bitsF f)[i]? = some b) :
    (rcvS c f i).drv = (if i = (bodyF f).length + 1 then 48 else 49) ∧ (rcvS c f i).samp (busB f i b) = ⟨rcvS c f (i + 1), if i = (bodyF f).length + 8 then 2 else 0, if i = (bodyF f).length + 8 then f else zFr, 0⟩ := by
  have hl := FP.body_len f
  have hge := FP.body_ge hr
  by_cases h9 : i = (bodyF f).length + 9
  · have hb1 : b = 49 := by rw [bits_tail f (by omega) hi] at hb; exact (Option.some.inj hb).symm
    have eb : busB f i b = 49 := by unfold busB; rw [if_neg (by omega)]; exact hb1
    have e0 : rcvS c f i = mid (c.count 2) false f i := by unfold rcvS; rw [if_neg h0, if_neg (by omega), if_pos h9]
    have e1 : rcvS c f (i + 1) = (mid (c.count 2) false f i).to 6 := by unfold rcvS; rw [if_neg (by omega), if_neg (by omega), if_neg (by omega), h9]
    rw [e0, eb, e1, if_neg (by omega), if_neg (by omega), if_neg (by omega)]
    refine ⟨by rw [mid_drvR, if_neg (by omega)], ?_⟩
    rw [mid_endR h9 (by decide)]; rfl
  · have e0 : rcvS c f i = mid c false f i := by unfold rcvS; rw [if_neg h0, if_pos (by omega)]
    rw [e0]
    refine ⟨mid_drvR, ?_⟩
    by_cases h8 : i = (bodyF f).length + 8
    · have hb1 : b = 49 := by rw [bits_tail f (by omega) hi] at hb; exact (Option.some.inj hb).symm
      have eb : busB f i b = 49 := by unfold busB; rw [if_neg (by omega)]; exact hb1
      have e1 : rcvS c f (i + 1) = mid (c.count 2) false f (i + 1) := by unfold rcvS; rw [if_neg (by omega), if_neg (by omega), if_pos (by omega)]
      rw [eb, e1, if_pos h8, if_pos h8]
      exact mid_came hr h8 (by decide)
    · have e1 : rcvS c f (i + 1) = mid c false f (i + 1) := by unfold rcvS; rw [if_neg (by omega), if_pos (by omega)]
      rw [e1, if_neg h8, if_neg h8]
      by_cases hlt : i < (bodyF f).length
      · have eb : busB f i b = b := by unfold busB; rw [if_neg (by omega)]
        rw [eb]
        exact mid_step hr hlt (by rw [← FP.body_get f i hlt]; exact hb)
      · have hb1 : b = 49 := by rw [bits_tail f (by omega) hi] at hb; exact (Option.some.inj hb).symm
        refine mid_next (by omega) (by omega) (fun _ => h8) ?_
        by_cases h1 : i = (bodyF f).length + 1
        · rw [if_pos h1]; intro _; unfold busB; rw [if_pos h1]
        · rw [if_neg h1]; unfold busB; rw [if_neg h1, hb1]; decide

/-- Behind i bits, the one at d lost. -/
def lzS (c : Cl) (f g : Fr) (d i : Nat) : Cl := if i ≤ d then sndS c f i else rcvS c g i
/-- What is told of two frames, the one wins at d. -/
structure Lz (f g : Fr) (d : Nat) : Prop where
  one : 1 ≤ d
  lf : d < (bodyF f).length
  lg : d < (bodyF g).length
  same : (bodyF f).take d = (bodyF g).take d
  hf : (bodyF f)[d]? = some 49
  hg : (bodyF g)[d]? = some 48
  n5 : (rsOf ((bodyF f).take d)).n < 5
  le : (rsOf ((bodyF f).take d)).got.length ≤ (fieldF f).length
theorem lz_of {f g : Fr} (hf : FP.rightB f = true) (hg : FP.rightB g = true) (hl : lessB g f = true) : ∃ d, Lz f g d := by
  obtain ⟨x, last, n, p, t, u, h1, h2, h3, h4, h5, h6⟩ := lose_at hf hg hl
  have t1 : (bodyF f).take x.length = x := by rw [h1, List.take_left']; rfl
  have t2 : (bodyF g).take x.length = x := by rw [h2, List.take_left']; rfl
  refine ⟨x.length, h6, by rw [h1]; simp, by rw [h2]; simp, by rw [t1, t2], by rw [h1]; simp, by rw [h2]; simp, ?_, ?_⟩
  · rw [t1, h3]; exact h4
  · rw [t1, h3]; exact h5
theorem mid_drop (c : Cl) {f g : Fr} {d : Nat} (h : Lz f g d) : (mid c true f d).drop = mid c false g d := by
  unfold mid
  rw [h.same, decide_eq_false (show ¬ (bodyF f).length ≤ d by have := h.lf; omega), decide_eq_false (show ¬ (bodyF g).length ≤ d by have := h.lg; omega), show d - (bodyF f).length = 0 by have := h.lf; omega, show d - (bodyF g).length = 0 by have := h.lg; omega]
  rfl
theorem lz_step {c : Cl} {f g : Fr} (hrf : FP.rightB f = true) (hrg : FP.rightB g = true) {d : Nat} (h : Lz f g d) (h1 : c.st = 1) (hh : c.has = true) (hcf : c.f = f) {i : Nat} (hi : i < (bitsF g).length) {b : UInt8} (hb : (bitsF g)[i]? = some b) :
    (i ≤ d → (bitsF f)[i]? = some (lzS c f g d i).drv) ∧ (d < i → i ≠ (bitsF g).length - 9 → (lzS c f g d i).drv = 49) ∧
    (lzS c f g d i).samp (busB g i b) = ⟨lzS c f g d (i + 1), if i = d then 4 else if i = (bodyF g).length + 8 then 2 else 0, if i = (bodyF g).length + 8 then g else zFr, 0⟩ := by
  have hl := FP.body_len f
  have hlg := FP.body_len g
  have h_f := h.lf
  have h_g := h.lg
  rcases Nat.lt_trichotomy i d with hlt | heq | hgt
  · have e0 : lzS c f g d i = sndS c f i := if_pos (by omega)
    have e1 : lzS c f g d (i + 1) = sndS c f (i + 1) := if_pos (by omega)
    have hbf : (bitsF f)[i]? = some b := by
      rw [FP.body_get f i (by omega)]
      rw [FP.body_get g i (by omega)] at hb
      have e2 : ((bodyF f).take d)[i]? = (bodyF f)[i]? := List.getElem?_take_of_lt hlt
      have e3 : ((bodyF g).take d)[i]? = (bodyF g)[i]? := List.getElem?_take_of_lt hlt
      rw [← e2, h.same, e3]
      exact hb
    have st := snd_step hrf h1 hh hcf (i := i) (by omega) hbf
    have eb : busB g i b = busB f i b := by unfold busB; rw [if_neg (by omega), if_neg (by omega)]
    rw [e0, e1, eb, st.1, st.2, if_neg (by omega), if_neg (by omega), if_neg (by omega), if_neg (by omega), if_neg (by omega)]
    exact ⟨fun _ => hbf, fun q => by omega, rfl⟩
  · subst heq
    have hone := h.one
    have e0 : lzS c f g i i = mid c true f i := by unfold lzS sndS; rw [if_pos (by omega), if_neg (by omega), if_pos (by omega)]
    have e1 : lzS c f g i (i + 1) = mid c false g (i + 1) := by unfold lzS rcvS; rw [if_neg (by omega), if_neg (by omega), if_pos (by omega)]
    have hbf : (bitsF f)[i]? = some 49 := by rw [FP.body_get f i (by omega)]; exact h.hf
    have hb48 : b = 48 := by
      rw [FP.body_get g i (by omega), h.hg] at hb
      exact (Option.some.inj hb).symm
    subst hb48
    have eb : busB g i 48 = 48 := by unfold busB; split <;> rfl
    rw [e0, e1, eb, mid_drvS hbf, if_pos rfl, if_neg (by omega)]
    refine ⟨fun _ => hbf, fun q => by omega, ?_⟩
    rw [mid_body (by omega)]
    unfold Cl.body
    rw [if_pos, if_pos, mid_drop c h, mid_take hrg (by omega) h.hg]
    · obtain ⟨q1, q2, q3⟩ := midR_L c true ⟨(bitsF f).toArray⟩ i (rsOf ((bodyF f).take i)) (decide ((bodyF f).length ≤ i)) ((i - (bodyF f).length : Nat))
      show Cl.lostB (midR c true ⟨(bitsF f).toArray⟩ i (rsOf ((bodyF f).take i)) (decide ((bodyF f).length ≤ i)) ((i - (bodyF f).length : Nat))) 48 = true
      unfold Cl.lostB
      rw [q2, q3]
      show (decide ((48 : UInt8) = 48) && (decide ((rsOf ((bodyF f).take i)).got.length ≤ (fieldF c.f).length) && decide ((rsOf ((bodyF f).take i)).n < 5))) = true
      rw [hcf, decide_eq_true h.le, decide_eq_true h.n5]
      rfl
    · refine ⟨rfl, ?_⟩
      rw [mid_out, hbf]
      decide
  · have e0 : lzS c f g d i = rcvS c g i := if_neg (by omega)
    have e1 : lzS c f g d (i + 1) = rcvS c g (i + 1) := if_neg (by omega)
    have st := rcv_on (c := c) hrg (i := i) (by omega) hi hb
    rw [e0, e1, st.1, st.2, if_neg (show ¬ i = d by omega)]
    exact ⟨fun q => by omega, fun _ q => if_neg (by omega), rfl⟩
theorem lz_ok {c : Cl} {f g : Fr} (hc : c.Ok) (hrf : FP.rightB f = true) (hrg : FP.rightB g = true) {d : Nat} (h : Lz f g d) (h1 : c.st = 1) (hh : c.has = true) (hcf : c.f = f) : ∀ i, i ≤ (bitsF g).length → (lzS c f g d i).Ok
  | 0, _ => by rw [show lzS c f g d 0 = c from if_pos (Nat.zero_le _)]; exact hc
  | i + 1, hi => by
    obtain ⟨b, hb, hbit⟩ := bits_some g (i := i) (by omega)
    have s := lz_step hrf hrg h h1 hh hcf (i := i) (by omega) hb
    have := (lz_ok hc hrf hrg h h1 hh hcf i (by omega)).samp (busB g i b) (busB_bit hbit)
    rw [s.2.2] at this
    exact this
theorem lz_end {f g : Fr} {d : Nat} (h : Lz f g d) : (lzS (idleC.give f) f g d (bitsF g).length).has = true ∧ (lzS (idleC.give f) f g d (bitsF g).length).f = f ∧ (lzS (idleC.give f) f g d (bitsF g).length).tc = 0 ∧ (lzS (idleC.give f) f g d (bitsF g).length).rc = 0 ∧ (lzS (idleC.give f) f g d (bitsF g).length).off = false ∧ (lzS (idleC.give f) f g d (bitsF g).length).rs = 0 := by
  have hl := FP.body_len g
  have h_g := h.lg
  have e : lzS (idleC.give f) f g d (bitsF g).length = (mid ((idleC.give f).count 2) false g ((bodyF g).length + 9)).to 6 := by
    unfold lzS rcvS
    rw [if_neg (by omega), if_neg (by omega), if_neg (by omega), if_neg (by omega)]
  rw [e]
  exact ⟨rfl, rfl, rfl, rfl, rfl, rfl⟩
/-- Up to the bit at which the one loses the bits of both are the same. -/
theorem lz_same {f g : Fr} {d : Nat} (h : Lz f g d) : (bitsF f).take d = (toldF g).take d ∧ (bitsF f)[d]? = some 49 ∧ (toldF g)[d]? = some 48 := by
  have h_f := h.lf
  have h_g := h.lg
  have hlg := FP.body_len g
  have hgd : (bitsF g)[d]? = some 48 := by rw [FP.body_get g d (by omega)]; exact h.hg
  refine ⟨?_, by rw [FP.body_get f d (by omega)]; exact h.hf, ?_⟩
  · rw [FP.body_take f d (by omega), h.same, ← FP.body_take g d (by omega)]
    unfold toldF
    rw [List.take_append_of_le_length (by rw [List.length_take]; omega), List.take_take, Nat.min_eq_left (by omega)]
  · rw [told_at g hgd]
    unfold busB
    rw [if_neg (by omega)]
end Go.Proofs.YthkilodnghiocaaGreatDoor

/- few of package 05: the first ten frames, their data cut. -/
namespace Go.Proofs.YthkilodnghiocaaGreatDoor
open Go.ChangeShapes Go.WideShapes Go.ChangeAt Go.RowKit
open FP (Fr)

def cutL (l : List Fr) : List Fr := (l.take 10).map cutF

theorem frc_len (f : Fr) : (frc f).length = 5 := rfl
theorem frc_rows (l : List Fr) : ∀ r ∈ l.map frc, r.length = 5 := by intro r hr; obtain ⟨x, _, rfl⟩ := List.mem_map.1 hr; rfl
theorem frc_ones (l : List Fr) : ∀ r ∈ l.map frc, ∀ u ∈ r, u.oneCell' = true := by
  intro r hr u hu
  obtain ⟨x, _, rfl⟩ := List.mem_map.1 hr
  simp only [frc, List.mem_cons, List.not_mem_nil, or_false] at hu
  rcases hu with rfl | rfl | rfl | rfl | rfl <;> rfl

/-- The first k frames' data have been cut. -/
def cutK (l : List Fr) (k : Nat) : List Fr := (l.take k).map cutF ++ l.drop k
theorem cutK_zero (l : List Fr) : cutK l 0 = l := by simp [cutK]
theorem cutK_full (l : List Fr) : cutK l l.length = l.map cutF := by simp [cutK]
theorem cutK_len (l : List Fr) (k : Nat) (h : k ≤ l.length) : (cutK l k).length = l.length := by simp [cutK]; omega
theorem cutK_at (l : List Fr) (k : Nat) (h : k < l.length) : (cutK l k)[k]? = some l[k] := by
  unfold cutK
  rw [List.getElem?_append_right (by simp; omega)]
  simp only [List.length_map, List.length_take, List.getElem?_drop]
  rw [show k + (k - min k l.length) = k by omega, List.getElem?_eq_getElem h]
theorem cutK_succ (l : List Fr) (k : Nat) (h : k < l.length) : cutK l (k + 1) = (cutK l k).set k (cutF l[k]) := by
  unfold cutK
  rw [List.take_succ_eq_append_getElem h, List.map_append, List.set_append_right _ _ (by simp; omega)]
  simp only [List.length_map, List.length_take, List.map_cons, List.map_nil]
  rw [show k - min k l.length = 0 by omega, List.drop_eq_getElem_cons h, List.set_cons_zero, List.append_assoc]
  rfl
theorem cutK_rows (l : List Fr) (k : Nat) (h : k < l.length) : ((cutK l (k + 1)).map frc).flatten = ((cutK l k).map frc).flatten.set (k * 5 + 4) (.string (l[k].data.extract 0 (min l[k].data.size 12))) := by
  have hk : ((cutK l k).map frc)[k]? = some (frc l[k]) := by rw [List.getElem?_map, cutK_at l k h]; rfl
  rw [flatten_set _ 5 (frc_rows _) k 4 _ _ hk (by omega), cutK_succ l k h, List.map_set]
  rfl

def FewV (l : List Fr) (w : World) (e : Ending) (w' : World) : Prop :=
  ∃ A' c', e = .returned (.slice A' (cutL l).length c') ∧ FrR w' w'.heap.size A' (cutL l) ∧ (cutL l).length ≤ c' ∧ Below w.heap.size w w'

end Go.Proofs.YthkilodnghiocaaGreatDoor

/- The reference's Order, as a function. -/
namespace Go.Proofs.YthkilodnghiocaaGreatDoor
open Go.ChangeShapes Go.WideShapes Go.ChangeAt Go.RowKit
open FP (Fr)

namespace OP
def atF (l : List Fr) (k : Nat) : Fr := (l[k]?).getD ⟨0, false, false, 0, ⟨#[]⟩⟩
theorem atF_lt {l : List Fr} {k : Nat} (h : k < l.length) : atF l k = l[k] := by unfold atF; rw [List.getElem?_eq_getElem h]; rfl
/-- The place of the best one of the first j. -/
def bestTo (l : List Fr) : Nat → Nat
  | 0 => 0
  | j + 1 => if lessB (atF l j) (atF l (bestTo l j)) = true then j else bestTo l j
theorem bestTo_lt (l : List Fr) : ∀ j, 0 < j → bestTo l j < j
  | 0, h => absurd h (by omega)
  | 1, _ => by unfold bestTo; split <;> simp [bestTo]
  | j + 2, _ => by
    unfold bestTo
    have := bestTo_lt l (j + 1) (by omega)
    split <;> omega
/-- The best one, again and again. -/
def ordN : Nat → List Fr → List Fr
  | 0, _ => []
  | n + 1, l => if l = [] then [] else atF l (bestTo l l.length) :: ordN n (l.take (bestTo l l.length) ++ l.drop (bestTo l l.length + 1))
def orderF (l : List Fr) : List Fr := ordN l.length l
theorem rest_len {l : List Fr} {k : Nat} (h : k < l.length) : (l.take k ++ l.drop (k + 1)).length = l.length - 1 := by
  simp; omega
theorem orderF_nil : orderF [] = [] := rfl
theorem orderF_step {l : List Fr} (h : 0 < l.length) : orderF l = atF l (bestTo l l.length) :: orderF (l.take (bestTo l l.length) ++ l.drop (bestTo l l.length + 1)) := by
  unfold orderF
  obtain ⟨n, hn⟩ : ∃ n, l.length = n + 1 := ⟨l.length - 1, by omega⟩
  have hb := bestTo_lt l l.length h
  have hr := rest_len hb
  conv => lhs; rw [hn]
  rw [ordN, if_neg (by intro e; rw [e] at h; simp at h), hr, show l.length - 1 = n by omega]
theorem ordN_len : ∀ (n : Nat) (l : List Fr), l.length = n → (ordN n l).length = n
  | 0, _, _ => rfl
  | n + 1, l, h => by
    rw [ordN, if_neg (by intro e; rw [e] at h; simp at h), List.length_cons, ordN_len n _ (by rw [rest_len (bestTo_lt l _ (by omega))]; omega)]
theorem orderF_len (l : List Fr) : (orderF l).length = l.length := ordN_len _ l rfl
theorem rest_perm {l : List Fr} {k : Nat} (h : k < l.length) : (l[k] :: (l.take k ++ l.drop (k + 1))).Perm l := by
  have e : l.take k ++ l[k] :: l.drop (k + 1) = l := by rw [← List.drop_eq_getElem_cons h, List.take_append_drop]
  have := (List.perm_middle (a := l[k]) (l₁ := l.take k) (l₂ := l.drop (k + 1))).symm
  rwa [e] at this
theorem ordN_perm : ∀ (n : Nat) (l : List Fr), l.length = n → (ordN n l).Perm l
  | 0, l, h => by rw [List.length_eq_zero_iff.1 h]; exact List.Perm.refl _
  | n + 1, l, h => by
    have hb := bestTo_lt l l.length (by omega)
    rw [ordN, if_neg (by intro e; rw [e] at h; simp at h), atF_lt hb]
    exact (List.Perm.cons _ (ordN_perm n _ (by rw [rest_len hb]; omega))).trans (rest_perm hb)
theorem orderF_perm (l : List Fr) : (orderF l).Perm l := ordN_perm _ l rfl
end OP
end Go.Proofs.YthkilodnghiocaaGreatDoor
