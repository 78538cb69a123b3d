/- Plain: another one's frame comes, and is told to have come. -/
import Derived.Test.YtjfgapljfbkfiaaDoorMgCsR
import Derived.Test.YtjfgapljfbkfiaaDoorCsM
namespace Go.Proofs.YtjfgapljfbkfiaaDoor
open Go.ChangeShapes Go.WideShapes Go.ChangeAt Go.RowKit
open FP (Fr bitsF bodyF tenF)

/-- The receiver behind i bits. -/
def rcvS (c : Cl) (f : Fr) (i : Nat) : Cl :=
  if i = 0 then c else if i ≤ (bodyF f).length + 8 then mid c false f i else if i = (bodyF f).length + 9 then mid (c.count 2) false f i else (mid (c.count 2) false f ((bodyF f).length + 9)).to 6
theorem rcv_step {c : Cl} {f : Fr} (hr : FP.rightB f = true) (h1 : c.st = 1) (hh : c.has = false) {i : Nat} (hi : i < (bitsF f).length) {b : UInt8} (hb : (bitsF f)[i]? = some b) :
    (rcvS c f i).drv = (if i = (bodyF f).length + 1 then 48 else 49) ∧ (rcvS c f i).samp (busB f i b) = ⟨rcvS c f (i + 1), if i = (bodyF f).length + 8 then 2 else 0, if i = (bodyF f).length + 8 then f else zFr, 0⟩ := by
  have hl := FP.body_len f
  have hge := FP.body_ge hr
  by_cases h0 : i = 0
  · subst h0
    have hb0 : b = 48 := by rw [bits_zero] at hb; exact (Option.some.inj hb).symm
    subst hb0
    have e0 : rcvS c f 0 = c := if_pos rfl
    have e1 : rcvS c f 1 = mid c false f 1 := by unfold rcvS; rw [if_neg (by decide), if_pos (by omega)]
    have eb : busB f 0 48 = 48 := by unfold busB; split <;> rfl
    rw [e0, eb, if_neg (by omega), if_neg (by omega), if_neg (by omega)]
    refine ⟨by unfold Cl.drv; rw [if_pos h1, if_neg (by rw [hh]; decide)], ?_⟩
    show _ = (⟨rcvS c f 1, 0, zFr, 0⟩ : Mc)
    unfold Cl.samp
    rw [if_neg (by omega), if_pos h1, if_pos rfl, if_neg (by rw [hh]; decide), e1, mid_begin0 c f]
    rfl
  · by_cases h9 : i = (bodyF f).length + 9
    · have hb1 : b = 49 := by rw [bits_tail f (by omega) hi] at hb; exact (Option.some.inj hb).symm
      have eb : busB f i b = 49 := by unfold busB; rw [if_neg (by omega)]; exact hb1
      have e0 : rcvS c f i = mid (c.count 2) false f i := by unfold rcvS; rw [if_neg h0, if_neg (by omega), if_pos h9]
      have e1 : rcvS c f (i + 1) = (mid (c.count 2) false f i).to 6 := by unfold rcvS; rw [if_neg (by omega), if_neg (by omega), if_neg (by omega), h9]
      rw [e0, eb, e1, if_neg (by omega), if_neg (by omega), if_neg (by omega)]
      refine ⟨by rw [mid_drvR, if_neg (by omega)], ?_⟩
      rw [mid_endR h9 (by decide)]; rfl
    · have e0 : rcvS c f i = mid c false f i := by unfold rcvS; rw [if_neg h0, if_pos (by omega)]
      rw [e0]
      refine ⟨mid_drvR, ?_⟩
      by_cases h8 : i = (bodyF f).length + 8
      · have hb1 : b = 49 := by rw [bits_tail f (by omega) hi] at hb; exact (Option.some.inj hb).symm
        have eb : busB f i b = 49 := by unfold busB; rw [if_neg (by omega)]; exact hb1
        have e1 : rcvS c f (i + 1) = mid (c.count 2) false f (i + 1) := by unfold rcvS; rw [if_neg (by omega), if_neg (by omega), if_pos (by omega)]
        rw [eb, e1, if_pos h8, if_pos h8]
        exact mid_came hr h8 (by decide)
      · have e1 : rcvS c f (i + 1) = mid c false f (i + 1) := by unfold rcvS; rw [if_neg (by omega), if_pos (by omega)]
        rw [e1, if_neg h8, if_neg h8]
        by_cases hlt : i < (bodyF f).length
        · have eb : busB f i b = b := by unfold busB; rw [if_neg (by omega)]
          rw [eb]
          exact mid_step hr hlt (by rw [← FP.body_get f i hlt]; exact hb)
        · have hb1 : b = 49 := by rw [bits_tail f (by omega) hi] at hb; exact (Option.some.inj hb).symm
          refine mid_next (by omega) (by omega) (fun _ => h8) ?_
          by_cases h1 : i = (bodyF f).length + 1
          · rw [if_pos h1]; intro _; unfold busB; rw [if_pos h1]
          · rw [if_neg h1]; unfold busB; rw [if_neg h1, hb1]; decide
theorem rcv_ok {c : Cl} {f : Fr} (hg : c.Ok) (hr : FP.rightB f = true) (h1 : c.st = 1) (hh : c.has = false) : ∀ i, i ≤ (bitsF f).length → (rcvS c f i).Ok
  | 0, _ => by rw [show rcvS c f 0 = c from if_pos rfl]; exact hg
  | i + 1, hi => by
    obtain ⟨b, hb, hbit⟩ := bits_some f (i := i) (by omega)
    have h := rcv_step hr h1 hh (i := i) (by omega) hb
    have := (rcv_ok hg hr h1 hh i (by omega)).samp (busB f i b) (busB_bit hbit)
    rw [h.2] at this
    exact this
theorem rcv_end (f : Fr) : rcvS idleC f (bitsF f).length = (mid (idleC.count 2) false f ((bodyF f).length + 9)).to 6 := by
  have hl := FP.body_len f
  unfold rcvS; rw [if_neg (by omega), if_neg (by omega), if_neg (by omega)]
theorem rcv_idle (f : Fr) (i : Nat) : ((mid (idleC.count 2) false f i).to 6).run [49, 49, 49] = idleC := by rfl

/-- The bits on the bus, where one is told that they came. -/
def toldF (f : Fr) : List UInt8 := (bitsF f).take ((bitsF f).length - 9) ++ 48 :: (bitsF f).drop ((bitsF f).length - 8)
theorem told_len (f : Fr) : (toldF f).length = (bitsF f).length := by
  have := FP.body_len f
  unfold toldF
  rw [List.length_append, List.length_take, List.length_cons, List.length_drop]
  omega
theorem told_at (f : Fr) {i : Nat} {b : UInt8} (hb : (bitsF f)[i]? = some b) : (toldF f)[i]? = some (busB f i b) := by
  have hl := FP.body_len f
  have hi : i < (bitsF f).length := (List.getElem?_eq_some_iff.1 hb).1
  have ht : ((bitsF f).take ((bitsF f).length - 9)).length = (bodyF f).length + 1 := by rw [List.length_take]; omega
  unfold toldF busB
  by_cases h1 : i < (bodyF f).length + 1
  · rw [List.getElem?_append_left (by omega), if_neg (by omega), List.getElem?_take_of_lt (by omega)]; exact hb
  · rw [List.getElem?_append_right (by omega), ht]
    by_cases h2 : i = (bodyF f).length + 1
    · rw [if_pos h2, h2, Nat.sub_self]; rfl
    · rw [if_neg h2, show i - ((bodyF f).length + 1) = (i - ((bodyF f).length + 2)) + 1 by omega, List.getElem?_cons_succ, List.getElem?_drop, show (bitsF f).length - 8 + (i - ((bodyF f).length + 2)) = i by omega]
      exact hb
end Go.Proofs.YtjfgapljfbkfiaaDoor
