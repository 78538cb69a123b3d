/- Plain: a frame that loses to another one. -/
import Derived.Test.YtpfbobcilphncaaGreatDoorMgIfP
import Derived.Test.YtpfbobcilphncaaGreatDoorMgCsCP
import Derived.Test.YtpfbobcilphncaaGreatDoorRfB
import Derived.Test.YtpfbobcilphncaaGreatDoorMgPrF
import Derived.Test.YtpfbobcilphncaaGreatDoorCtG
import Derived.Test.YtpfbobcilphncaaGreatDoorMgFrR
namespace Go.Proofs.YtpfbobcilphncaaGreatDoor
open Go.ChangeShapes Go.WideShapes Go.ChangeAt Go.RowKit
open FP (Fr uN uK doneB sizeE sizeV readV headOf headF sumF bitsF bodyF RS rsStep rs0 rsOf goodB stuffF stuffS)

theorem take_split {l : List UInt8} {k : Nat} {a : UInt8} (h : l[k]? = some a) : l = l.take k ++ a :: l.drop (k + 1) := by
  obtain ⟨h1, h2⟩ := List.getElem?_eq_some_iff.1 h
  rw [← h2, ← List.drop_eq_getElem_cons h1, List.take_append_drop]
/-- Where the stuffed bits of two are unlike first. -/
theorem lose_at {f g : Fr} (hf : FP.rightB f = true) (hg : FP.rightB g = true) (hl : lessB g f = true) :
    ∃ d last n p t u, bodyF f = d ++ 49 :: t ∧ bodyF g = d ++ 48 :: u ∧ rsOf d = ⟨last, n, p⟩ ∧ n < 5 ∧ p.length ≤ (fieldF f).length ∧ 1 ≤ d.length := by
  rw [PP.lessB_bl hg hf] at hl
  rcases PP.fld_or (PP.fld_of g) (PP.fld_of f) with h | ⟨k, a, b, h1, h2, h3, h4⟩
  · rw [h, PP.bl_irrefl] at hl; cases hl
  · rw [PP.bl_first k _ _ h1 a b h2 h3 h4] at hl
    have hab : a = 48 ∧ b = 49 := by
      rcases (PP.fld_of g).bits a (List.mem_of_getElem? h2) with rfl | rfl <;> rcases (PP.fld_of f).bits b (List.mem_of_getElem? h3) with rfl | rfl
      · exact absurd rfl h4
      · exact ⟨rfl, rfl⟩
      · exact absurd hl (by decide)
      · exact absurd rfl h4
    obtain ⟨rfl, rfl⟩ := hab
    have key : ∀ x : Fr, ∃ r, sumF (headF x) = 48 :: (fieldF x ++ r) := fun x => by
      unfold sumF
      rw [head_field]
      exact ⟨_, by simp only [List.cons_append, List.append_assoc]; rfl⟩
    obtain ⟨rf, ef⟩ := key f
    obtain ⟨rg, eg⟩ := key g
    have hkf : k < (fieldF f).length := (List.getElem?_eq_some_iff.1 h3).1
    have hkg : k < (fieldF g).length := (List.getElem?_eq_some_iff.1 h2).1
    have tf : sumF (headF f) = (48 :: (fieldF f).take k) ++ 49 :: ((fieldF f).drop (k + 1) ++ rf) := by
      rw [ef]
      conv => lhs; rw [take_split h3]
      simp
    have tg : sumF (headF g) = (48 :: (fieldF f).take k) ++ 48 :: ((fieldF g).drop (k + 1) ++ rg) := by
      rw [eg, ← h1]
      conv => lhs; rw [take_split h2]
      simp
    have hp : ∀ c ∈ 48 :: (fieldF f).take k, c = 48 ∨ c = 49 := fun c hc => by
      rw [List.mem_cons] at hc
      rcases hc with rfl | hc
      · exact .inl rfl
      · exact (PP.fld_of f).bits c (List.mem_of_mem_take hc)
    obtain ⟨t, ht⟩ := FP.stuff_split (48 :: (fieldF f).take k) 49 ((fieldF f).drop (k + 1) ++ rf)
    obtain ⟨u, hu⟩ := FP.stuff_split (48 :: (fieldF f).take k) 48 ((fieldF g).drop (k + 1) ++ rg)
    obtain ⟨r1, r2⟩ := FP.rs_of_stuff _ hp
    refine ⟨(stuffS (48 :: (fieldF f).take k)).out, _, _, _, t, u, ?_, ?_, r1, r2, ?_, ?_⟩
    · unfold bodyF; rw [tf]; exact ht
    · unfold bodyF; rw [tg]; exact hu
    · rw [List.length_cons, List.length_take]; omega
    · have := (FP.stuff_len _ hp).1
      unfold stuffF at this
      rw [List.length_cons] at this
      omega

/-- In another one's frame, behind its first bit. -/
theorem rcv_on {c : Cl} {f : Fr} (hr : FP.rightB f = true) {i : Nat} (h0 : i ≠ 0) (hi : i < (bitsF f).length) {b : UInt8} (hb : (bitsF f)[i]? = some b) :
    (rcvS c f i).drv = (if i = (bodyF f).length + 1 then 48 else 49) ∧ (rcvS c f i).samp (busB f i b) = ⟨rcvS c f (i + 1), if i = (bodyF f).length + 8 then 2 else 0, if i = (bodyF f).length + 8 then f else zFr, 0⟩ := by
  have hl := FP.body_len f
  have hge := FP.body_ge hr
  by_cases h9 : i = (bodyF f).length + 9
  · have hb1 : b = 49 := by rw [bits_tail f (by omega) hi] at hb; exact (Option.some.inj hb).symm
    have eb : busB f i b = 49 := by unfold busB; rw [if_neg (by omega)]; exact hb1
    have e0 : rcvS c f i = mid (c.count 2) false f i := by unfold rcvS; rw [if_neg h0, if_neg (by omega), if_pos h9]
    have e1 : rcvS c f (i + 1) = (mid (c.count 2) false f i).to 6 := by unfold rcvS; rw [if_neg (by omega), if_neg (by omega), if_neg (by omega), h9]
    rw [e0, eb, e1, if_neg (by omega), if_neg (by omega), if_neg (by omega)]
    refine ⟨by rw [mid_drvR, if_neg (by omega)], ?_⟩
    rw [mid_endR h9 (by decide)]; rfl
  · have e0 : rcvS c f i = mid c false f i := by unfold rcvS; rw [if_neg h0, if_pos (by omega)]
    rw [e0]
    refine ⟨mid_drvR, ?_⟩
    by_cases h8 : i = (bodyF f).length + 8
    · have hb1 : b = 49 := by rw [bits_tail f (by omega) hi] at hb; exact (Option.some.inj hb).symm
      have eb : busB f i b = 49 := by unfold busB; rw [if_neg (by omega)]; exact hb1
      have e1 : rcvS c f (i + 1) = mid (c.count 2) false f (i + 1) := by unfold rcvS; rw [if_neg (by omega), if_neg (by omega), if_pos (by omega)]
      rw [eb, e1, if_pos h8, if_pos h8]
      exact mid_came hr h8 (by decide)
    · have e1 : rcvS c f (i + 1) = mid c false f (i + 1) := by unfold rcvS; rw [if_neg (by omega), if_pos (by omega)]
      rw [e1, if_neg h8, if_neg h8]
      by_cases hlt : i < (bodyF f).length
      · have eb : busB f i b = b := by unfold busB; rw [if_neg (by omega)]
        rw [eb]
        exact mid_step hr hlt (by rw [← FP.body_get f i hlt]; exact hb)
      · have hb1 : b = 49 := by rw [bits_tail f (by omega) hi] at hb; exact (Option.some.inj hb).symm
        refine mid_next (by omega) (by omega) (fun _ => h8) ?_
        by_cases h1 : i = (bodyF f).length + 1
        · rw [if_pos h1]; intro _; unfold busB; rw [if_pos h1]
        · rw [if_neg h1]; unfold busB; rw [if_neg h1, hb1]; decide

/-- Behind i bits, the one at d lost. -/
def lzS (c : Cl) (f g : Fr) (d i : Nat) : Cl := if i ≤ d then sndS c f i else rcvS c g i
/-- What is told of two frames, the one wins at d. -/
structure Lz (f g : Fr) (d : Nat) : Prop where
  one : 1 ≤ d
  lf : d < (bodyF f).length
  lg : d < (bodyF g).length
  same : (bodyF f).take d = (bodyF g).take d
  hf : (bodyF f)[d]? = some 49
  hg : (bodyF g)[d]? = some 48
  n5 : (rsOf ((bodyF f).take d)).n < 5
  le : (rsOf ((bodyF f).take d)).got.length ≤ (fieldF f).length
theorem lz_of {f g : Fr} (hf : FP.rightB f = true) (hg : FP.rightB g = true) (hl : lessB g f = true) : ∃ d, Lz f g d := by
  obtain ⟨x, last, n, p, t, u, h1, h2, h3, h4, h5, h6⟩ := lose_at hf hg hl
  have t1 : (bodyF f).take x.length = x := by rw [h1, List.take_left']; rfl
  have t2 : (bodyF g).take x.length = x := by rw [h2, List.take_left']; rfl
  refine ⟨x.length, h6, by rw [h1]; simp, by rw [h2]; simp, by rw [t1, t2], by rw [h1]; simp, by rw [h2]; simp, ?_, ?_⟩
  · rw [t1, h3]; exact h4
  · rw [t1, h3]; exact h5
theorem mid_drop (c : Cl) {f g : Fr} {d : Nat} (h : Lz f g d) : (mid c true f d).drop = mid c false g d := by
  unfold mid
  rw [h.same, decide_eq_false (show ¬ (bodyF f).length ≤ d by have := h.lf; omega), decide_eq_false (show ¬ (bodyF g).length ≤ d by have := h.lg; omega), show d - (bodyF f).length = 0 by have := h.lf; omega, show d - (bodyF g).length = 0 by have := h.lg; omega]
  rfl
theorem lz_step {c : Cl} {f g : Fr} (hrf : FP.rightB f = true) (hrg : FP.rightB g = true) {d : Nat} (h : Lz f g d) (h1 : c.st = 1) (hh : c.has = true) (hcf : c.f = f) {i : Nat} (hi : i < (bitsF g).length) {b : UInt8} (hb : (bitsF g)[i]? = some b) :
    (i ≤ d → (bitsF f)[i]? = some (lzS c f g d i).drv) ∧ (d < i → i ≠ (bitsF g).length - 9 → (lzS c f g d i).drv = 49) ∧
    (lzS c f g d i).samp (busB g i b) = ⟨lzS c f g d (i + 1), if i = d then 4 else if i = (bodyF g).length + 8 then 2 else 0, if i = (bodyF g).length + 8 then g else zFr, 0⟩ := by
  have hl := FP.body_len f
  have hlg := FP.body_len g
  have h_f := h.lf
  have h_g := h.lg
  rcases Nat.lt_trichotomy i d with hlt | heq | hgt
  · have e0 : lzS c f g d i = sndS c f i := if_pos (by omega)
    have e1 : lzS c f g d (i + 1) = sndS c f (i + 1) := if_pos (by omega)
    have hbf : (bitsF f)[i]? = some b := by
      rw [FP.body_get f i (by omega)]
      rw [FP.body_get g i (by omega)] at hb
      have e2 : ((bodyF f).take d)[i]? = (bodyF f)[i]? := List.getElem?_take_of_lt hlt
      have e3 : ((bodyF g).take d)[i]? = (bodyF g)[i]? := List.getElem?_take_of_lt hlt
      rw [← e2, h.same, e3]
      exact hb
    have st := snd_step hrf h1 hh hcf (i := i) (by omega) hbf
    have eb : busB g i b = busB f i b := by unfold busB; rw [if_neg (by omega), if_neg (by omega)]
    rw [e0, e1, eb, st.1, st.2, if_neg (by omega), if_neg (by omega), if_neg (by omega), if_neg (by omega), if_neg (by omega)]
    exact ⟨fun _ => hbf, fun q => by omega, rfl⟩
  · subst heq
    have hone := h.one
    have e0 : lzS c f g i i = mid c true f i := by unfold lzS sndS; rw [if_pos (by omega), if_neg (by omega), if_pos (by omega)]
    have e1 : lzS c f g i (i + 1) = mid c false g (i + 1) := by unfold lzS rcvS; rw [if_neg (by omega), if_neg (by omega), if_pos (by omega)]
    have hbf : (bitsF f)[i]? = some 49 := by rw [FP.body_get f i (by omega)]; exact h.hf
    have hb48 : b = 48 := by
      rw [FP.body_get g i (by omega), h.hg] at hb
      exact (Option.some.inj hb).symm
    subst hb48
    have eb : busB g i 48 = 48 := by unfold busB; split <;> rfl
    rw [e0, e1, eb, mid_drvS hbf, if_pos rfl, if_neg (by omega)]
    refine ⟨fun _ => hbf, fun q => by omega, ?_⟩
    rw [mid_body (by omega)]
    unfold Cl.body
    rw [if_pos, if_pos, mid_drop c h, mid_take hrg (by omega) h.hg]
    · obtain ⟨q1, q2, q3⟩ := midR_L c true ⟨(bitsF f).toArray⟩ i (rsOf ((bodyF f).take i)) (decide ((bodyF f).length ≤ i)) ((i - (bodyF f).length : Nat))
      show Cl.lostB (midR c true ⟨(bitsF f).toArray⟩ i (rsOf ((bodyF f).take i)) (decide ((bodyF f).length ≤ i)) ((i - (bodyF f).length : Nat))) 48 = true
      unfold Cl.lostB
      rw [q2, q3]
      show (decide ((48 : UInt8) = 48) && (decide ((rsOf ((bodyF f).take i)).got.length ≤ (fieldF c.f).length) && decide ((rsOf ((bodyF f).take i)).n < 5))) = true
      rw [hcf, decide_eq_true h.le, decide_eq_true h.n5]
      rfl
    · refine ⟨rfl, ?_⟩
      rw [mid_out, hbf]
      decide
  · have e0 : lzS c f g d i = rcvS c g i := if_neg (by omega)
    have e1 : lzS c f g d (i + 1) = rcvS c g (i + 1) := if_neg (by omega)
    have st := rcv_on (c := c) hrg (i := i) (by omega) hi hb
    rw [e0, e1, st.1, st.2, if_neg (show ¬ i = d by omega)]
    exact ⟨fun q => by omega, fun _ q => if_neg (by omega), rfl⟩
theorem lz_ok {c : Cl} {f g : Fr} (hc : c.Ok) (hrf : FP.rightB f = true) (hrg : FP.rightB g = true) {d : Nat} (h : Lz f g d) (h1 : c.st = 1) (hh : c.has = true) (hcf : c.f = f) : ∀ i, i ≤ (bitsF g).length → (lzS c f g d i).Ok
  | 0, _ => by rw [show lzS c f g d 0 = c from if_pos (Nat.zero_le _)]; exact hc
  | i + 1, hi => by
    obtain ⟨b, hb, hbit⟩ := bits_some g (i := i) (by omega)
    have s := lz_step hrf hrg h h1 hh hcf (i := i) (by omega) hb
    have := (lz_ok hc hrf hrg h h1 hh hcf i (by omega)).samp (busB g i b) (busB_bit hbit)
    rw [s.2.2] at this
    exact this
theorem lz_end {f g : Fr} {d : Nat} (h : Lz f g d) : (lzS (idleC.give f) f g d (bitsF g).length).has = true ∧ (lzS (idleC.give f) f g d (bitsF g).length).f = f ∧ (lzS (idleC.give f) f g d (bitsF g).length).tc = 0 ∧ (lzS (idleC.give f) f g d (bitsF g).length).rc = 0 ∧ (lzS (idleC.give f) f g d (bitsF g).length).off = false ∧ (lzS (idleC.give f) f g d (bitsF g).length).rs = 0 := by
  have hl := FP.body_len g
  have h_g := h.lg
  have e : lzS (idleC.give f) f g d (bitsF g).length = (mid ((idleC.give f).count 2) false g ((bodyF g).length + 9)).to 6 := by
    unfold lzS rcvS
    rw [if_neg (by omega), if_neg (by omega), if_neg (by omega), if_neg (by omega)]
  rw [e]
  exact ⟨rfl, rfl, rfl, rfl, rfl, rfl⟩
/-- Up to the bit at which the one loses the bits of both are the same. -/
theorem lz_same {f g : Fr} {d : Nat} (h : Lz f g d) : (bitsF f).take d = (toldF g).take d ∧ (bitsF f)[d]? = some 49 ∧ (toldF g)[d]? = some 48 := by
  have h_f := h.lf
  have h_g := h.lg
  have hlg := FP.body_len g
  have hgd : (bitsF g)[d]? = some 48 := by rw [FP.body_get g d (by omega)]; exact h.hg
  refine ⟨?_, by rw [FP.body_get f d (by omega)]; exact h.hf, ?_⟩
  · rw [FP.body_take f d (by omega), h.same, ← FP.body_take g d (by omega)]
    unfold toldF
    rw [List.take_append_of_le_length (by rw [List.length_take]; omega), List.take_take, Nat.min_eq_left (by omega)]
  · rw [told_at g hgd]
    unfold busB
    rw [if_neg (by omega)]
end Go.Proofs.YtpfbobcilphncaaGreatDoor

/- campanilelaw07: alive, few. -/
namespace Go.Proofs.YtpfbobcilphncaaGreatDoor
open Go.ChangeShapes Go.WideShapes Go.ChangeAt Go.RowKit
open FP (Fr)

def cut7 (f : Fr) : Fr := { f with data := f.data.extract 0 (min f.data.size 12) }

set_option maxRecDepth 100000 in
set_option maxHeartbeats 1000000 in
theorem few07_any (f : Fr) (w : World) (hs : f.data.size ≤ maxLen) :
    Calls Tryz.prog 6 #[.agg (frc f).toArray] w fun e w' => e = .returned (.agg (frc (cut7 f)).toArray) ∧ Below w.heap.size w w' := by
  obtain ⟨id, ext, rem, dlc, data⟩ := f
  unfold frc cut7
  dsimp only at *
  unfold maxLen at hs
  obtain ⟨m, em, hm⟩ := run_min (P := Tryz.prog) (data.size : Int) 12
  obtain ⟨k, hk⟩ : ∃ k : Nat, k = min data.size 12 := ⟨_, rfl⟩
  have hmk : m = k := by omega
  subst hmk
  have hkl : k ≤ data.size := by omega
  rw [← hk]
  clear hk em
  go_enter Tryz.func6, Tryz.ntmps6
  go_wp2
  refine bodyPost_ret (v := .agg #[.int .u32 id, .bool ext, .bool rem, .int .i64 dlc, .string (data.extract 0 k)]) (by simp [results, Tryz.results6, go_sem]) rfl ⟨rfl, ?_⟩
  exact ((Below.refl _ _).alloc (Nat.le_refl _) _).alloc (by simp) _

/-- A controller that has counted nothing, in a state. -/
def qCl (f : Fr) (hh : Bool) (st n : Int) : Cl := ⟨0, 0, false, 0, st, n, false, false, hh, f, false, ⟨#[]⟩, 0, 0, 0, ⟨#[]⟩, false, 0, false⟩
theorem q_join (f : Fr) (hh : Bool) {n : Int} (h : ¬ n = 10) : (qCl f hh 0 n).one = qCl f hh 0 (n + 1) := by
  unfold Cl.one Cl.join1
  rw [if_pos (show (qCl f hh 0 n).st = 0 from rfl), if_neg (show ¬ (qCl f hh 0 n).n = 10 from h)]
  rfl
theorem q_joins (f : Fr) (hh : Bool) : (qCl f hh 0 10).one = qCl f hh 1 0 := rfl
theorem q_idle (f : Fr) (hh : Bool) : (qCl f hh 1 0).one = qCl f hh 1 0 := rfl
/-- Behind so many recessive bits. -/
def stQ (k : Nat) : Int := if k < 11 then 0 else 1
def nQ (k : Nat) : Int := if k < 11 then k else 0
theorem q_next (f : Fr) (hh : Bool) (k : Nat) : (qCl f hh (stQ k) (nQ k)).one = qCl f hh (stQ (k + 1)) (nQ (k + 1)) := by
  unfold stQ nQ
  by_cases h : k < 11
  · by_cases e : k = 10
    · subst e
      exact q_joins f hh
    · rw [if_pos h, if_pos h, if_pos (show k + 1 < 11 by omega), if_pos (show k + 1 < 11 by omega), q_join f hh (by omega)]
      rfl
  · rw [if_neg h, if_neg h, if_neg (show ¬ k + 1 < 11 by omega), if_neg (show ¬ k + 1 < 11 by omega), q_idle]
theorem ones_q0 (f : Fr) (hh : Bool) : ∀ k : Nat, ones (qCl f hh 0 0) k = qCl f hh (stQ k) (nQ k)
  | 0 => rfl
  | k + 1 => by
    show (ones _ k).one = _
    rw [ones_q0 f hh k, q_next]

def s11 : ByteArray := ⟨#[49, 49, 49, 49, 49, 49, 49, 49, 49, 49, 49]⟩
theorem s11_at (k : Nat) (h : k < s11.size) (W : World) : (Instr.index 9 (.string s11) (.int .i64 k)).run Tryz.prog W = .ok (.int .u8 49) W := by
  have hk : k < 11 := h
  rw [run_index_string _ _ _ _ _ Tryz.underlying9]
  have h1 : (0 : Int) ≤ k ∧ (k : Int) < s11.size := ⟨by omega, by show (k : Int) < 11; omega⟩
  rw [dif_pos h1]
  have e : ∀ j (hj : j < s11.size), (s11[j]'hj) = 49 := by
    intro j hj
    have hj' : j < 11 := hj
    match j, hj' with
    | 0, _ => rfl
    | 1, _ => rfl
    | 2, _ => rfl
    | 3, _ => rfl
    | 4, _ => rfl
    | 5, _ => rfl
    | 6, _ => rfl
    | 7, _ => rfl
    | 8, _ => rfl
    | 9, _ => rfl
    | 10, _ => rfl
    | j + 11, h => exact absurd h (by omega)
  simp only [Int.toNat_natCast]
  rw [e k h]
  rfl

set_option maxRecDepth 100000 in
set_option maxHeartbeats 4000000 in
theorem alive07_any (w : World) : Calls Tryz.prog 9 #[] w fun e w' => e = .returned (.bool true) ∧ Below w.heap.size w w' := by
  have NW := hide (ctlNew_any w)
  have FE := hide (fun W => feed_ones zCl s11 W zCl_q (by decide) s11_at)
  have RT := hide (fun W => ctlRight_q (ones zCl s11.size) W (ones_q zCl_q _))
  have HS := hide (show (ones zCl s11.size).st = 1 by
    have : ones zCl s11.size = qCl zFr false 1 0 := ones_q0 zFr false 11
    rw [this]
    rfl)
  generalize ones zCl s11.size = d at *
  go_enter Tryz.func9, Tryz.ntmps9
  go_wp2_with fail
  (with_reducible refine (NW.out).mono ?_)
  rintro e1 w1 ⟨rfl, q1⟩
  have F1 := hide (FE.out w1)
  unfold s11 at F1
  go_wp2_with fail
  (with_reducible refine (F1.out).mono ?_)
  rintro e2 w2 ⟨rfl, q2⟩
  have Q2 := hide (below_next q1 q1.size q2)
  have q3 : Below w2.heap.size w2 (w2.alloc (.cells zCl.cs.toArray 31)) := (Below.refl _ _).alloc (Nat.le_refl _) _
  have g3 := World.alloc_heap_new w2 (.cells zCl.cs.toArray 31)
  have TH := hide (show (w2.alloc (.cells zCl.cs.toArray 31)).there w2.heap.size 0 23 from there_heap (cs := zCl.cs) g3)
  clear q1 q2 F1 FE NW
  go_wp2_with (refine wpList_store_hid (by rfl) 31 (.tmp 1) (.tmp 6) (by rfl) w2.heap.size 0 d.cs (by rfl) (by rfl) (by exact TH.out) (by kernel_rfl) (by simp [Value.oneCell', Cl.cs]) ?_)
  intro w4 e4
  have X4 := hide (show w4.heap[w2.heap.size]? = some (.cells d.cs.toArray 31 (0, 0)) by rw [e4.out]; exact whole_heap d.cs (xs := zCl.cs) g3 rfl)
  have Q4 := hide (show Below w.heap.size w w4 by rw [e4.out]; exact Q2.out.trans (q3.mono Q2.out.size |>.trans (below_setCells _ _ _ Q2.out.size)))
  obtain ⟨_, ⟨c4, _⟩, _⟩ := cl_cells X4.out
  rw [HS.out] at c4
  clear e4 TH g3 q3 Q2
  have R4 := hide (RT.out w4)
  go_wp2_with (refine wpList_load_rowG (by kernel_rfl) 31 (.tmp 1) (by rfl) w2.heap.size (by rfl) 31 d.cs.toArray (0, 0) _ (by exact X4.out) Tryz.underlying31 (by rfl) (by kernel_rfl) ?_)
  (with_reducible refine (R4.out).mono ?_)
  rintro e5 w5 ⟨rfl, q5⟩
  have Q5 := hide (below_next Q4.out Q4.out.size q5)
  go_wp2_with fail
  go_ret
  exact ⟨rfl, Q5.out⟩
end Go.Proofs.YtpfbobcilphncaaGreatDoor
