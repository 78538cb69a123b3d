/- Plain: a controller alone on a bus; and one that comes to it. -/
import Derived.Test.YtkfedgjepiljiaaGreatDoorMgBuP
namespace Go.Proofs.YtkfedgjepiljiaaGreatDoor
open Go.ChangeShapes Go.WideShapes Go.ChangeAt Go.RowKit
open FP (Fr uN uK doneB bitsF bodyF tenF RS rsStep rs0 rsOf)

def aloneP (f : Fr) : Nat := (bodyF f).length + 1
/-- Alone on a bus: behind so many errors, at a place of its round. -/
structure Aln (x : Fr) (c : Cl) (e p : Nat) : Prop where
  rc : c.rc = 0
  off : c.off = false
  rs : c.rs = 0
  has : c.has = true
  f : c.f = x
  tc : c.tc = (min (8 * e) 128 : Nat)
  st : (c.st = 1 ∧ p = 0) ∨ (c.st = 2 ∧ 1 ≤ p ∧ p ≤ aloneP x ∧ c = mid c true x p) ∨ (c.st = 3 ∧ (p : Int) = aloneP x + 1 + c.n ∧ c.was = true ∧ c.hard = (stOf c.tc c.rc c.off == 1)) ∨ (c.st = 4 ∧ p = aloneP x + 7 ∧ c.was = true) ∨
    (c.st = 5 ∧ (p : Int) = aloneP x + 7 + c.n ∧ c.was = true) ∨ (c.st = 6 ∧ (p : Int) = aloneP x + 15 + c.n ∧ c.was = true) ∨ (c.st = 7 ∧ (p : Int) = aloneP x + 18 + c.n ∧ 16 ≤ e)
/-- Where a round goes on. -/
def nextP (x : Fr) (e p : Nat) : Nat := if p = aloneP x + 25 ∨ (p = aloneP x + 17 ∧ e < 16) then 0 else p + 1

theorem aln_fail {x : Fr} {c : Cl} {e p : Nat} (h : Aln x c e p) (i : Nat) : Aln x ((mid c true x i).fail 14) (e + 1) (aloneP x + 1) := by
  obtain ⟨tc, rc, off, rs, st, n, was, hard, has, f', sends, out, at_, last, sn, got, en, tail, good⟩ := c
  obtain ⟨h1, h2, h3, h4, h5, h6, h8⟩ := h
  dsimp only at h1 h2 h3 h4 h5 h6
  subst h1 h2 h3 h4 h5
  clear h8
  by_cases hp : stOf tc 0 false = 2
  · have h128 : (min (8 * e) 128 : Nat) = 128 := by
      unfold stOf at hp
      rw [if_neg (by decide)] at hp
      split at hp
      · omega
      · cases hp
    have e1 : (mid ⟨tc, 0, false, 0, st, n, was, hard, true, f', sends, out, at_, last, sn, got, en, tail, good⟩ true f' i).failC 14 = { (mid ⟨tc, 0, false, 0, st, n, was, hard, true, f', sends, out, at_, last, sn, got, en, tail, good⟩ true f' i) with was := true } := by
      unfold Cl.failC
      rw [if_pos ⟨rfl, hp⟩]
      rfl
    unfold Cl.fail
    rw [e1]
    unfold Cl.failS
    rw [if_neg (by show ¬ stOf tc 0 false = 3; rw [hp]; decide)]
    refine ⟨rfl, rfl, rfl, rfl, rfl, ?_, .inr (.inr (.inl ⟨rfl, by show ((aloneP f' + 1 : Nat) : Int) = aloneP f' + 1 + 0; omega, rfl, rfl⟩))⟩
    show tc = _
    omega
  · have h127 : 8 * e ≤ 127 := by
      unfold stOf at hp
      rw [if_neg (by decide)] at hp
      by_cases q : 127 < tc ∨ 127 < (0 : Int)
      · rw [if_pos q] at hp; exact absurd rfl hp
      · clear hp
        have q1 : ¬ 127 < tc := fun e => q (.inl e)
        clear q
        have hmm : (min (8 * e) 128 : Nat) ≤ 127 := by omega
        omega
    have h16 : e + 1 ≤ 16 := by clear hp h6; omega
    have hmm : (min (8 * e) 128 : Nat) = 8 * e := Nat.min_eq_left (by clear hp h6; omega)
    have htc : tc = ((8 * e : Nat) : Int) := by rw [h6, hmm]
    subst htc
    have e2 : cntTc 3 ((8 * e : Nat) : Int) = ((8 * (e + 1) : Nat) : Int) := by unfold cntTc; rw [if_neg (by decide), if_pos (.inl rfl)]; omega
    have e1 : (mid ⟨((8 * e : Nat) : Int), 0, false, 0, st, n, was, hard, true, f', sends, out, at_, last, sn, got, en, tail, good⟩ true f' i).failC 14 = { (mid ⟨((8 * e : Nat) : Int), 0, false, 0, st, n, was, hard, true, f', sends, out, at_, last, sn, got, en, tail, good⟩ true f' i) with was := true, tc := ((8 * (e + 1) : Nat) : Int), rc := 0 } := by
      unfold Cl.failC
      rw [if_neg (by intro q; exact hp q.2)]
      show ({ (mid ⟨((8 * e : Nat) : Int), 0, false, 0, st, n, was, hard, true, f', sends, out, at_, last, sn, got, en, tail, good⟩ true f' i) with was := true } : Cl).count 3 = _
      unfold Cl.count
      rw [if_neg (by show ¬ 255 < cntTc 3 ((8 * e : Nat) : Int); rw [e2]; omega)]
      show ({ (mid ⟨((8 * e : Nat) : Int), 0, false, 0, st, n, was, hard, true, f', sends, out, at_, last, sn, got, en, tail, good⟩ true f' i) with was := true, tc := cntTc 3 ((8 * e : Nat) : Int), rc := cntRc 3 0 } : Cl) = _
      rw [e2]
      rfl
    unfold Cl.fail
    rw [e1]
    unfold Cl.failS
    rw [if_neg (by show ¬ stOf ((8 * (e + 1) : Nat) : Int) 0 false = 3; unfold stOf; rw [if_neg (by decide)]; split <;> decide)]
    refine ⟨rfl, rfl, rfl, rfl, rfl, ?_, .inr (.inr (.inl ⟨rfl, by show ((aloneP f' + 1 : Nat) : Int) = aloneP f' + 1 + 0; omega, rfl, rfl⟩))⟩
    show ((8 * (e + 1) : Nat) : Int) = _
    congr 1
    omega

theorem aln_st {x : Fr} {c d : Cl} {e p p' : Nat} (h : Aln x c e p) (h1 : d.rc = c.rc) (h2 : d.off = c.off) (h3 : d.rs = c.rs) (h4 : d.has = c.has) (h5 : d.f = c.f) (h6 : d.tc = c.tc)
    (hs : (d.st = 1 ∧ p' = 0) ∨ (d.st = 2 ∧ 1 ≤ p' ∧ p' ≤ aloneP x ∧ d = mid d true x p') ∨ (d.st = 3 ∧ (p' : Int) = aloneP x + 1 + d.n ∧ d.was = true ∧ d.hard = (stOf d.tc d.rc d.off == 1)) ∨ (d.st = 4 ∧ p' = aloneP x + 7 ∧ d.was = true) ∨
    (d.st = 5 ∧ (p' : Int) = aloneP x + 7 + d.n ∧ d.was = true) ∨ (d.st = 6 ∧ (p' : Int) = aloneP x + 15 + d.n ∧ d.was = true) ∨ (d.st = 7 ∧ (p' : Int) = aloneP x + 18 + d.n ∧ 16 ≤ e)) : Aln x d e p' :=
  ⟨h1.trans h.rc, h2.trans h.off, h3.trans h.rs, h4.trans h.has, h5.trans h.f, h6.trans h.tc, hs⟩
theorem aln_le {x : Fr} {c : Cl} {e p : Nat} (hk : c.Ok) (h : Aln x c e p) : p ≤ aloneP x + 25 ∧ (p = aloneP x + 17 → c.st = 6 ∨ True) := by
  have hn := hk.n9
  refine ⟨?_, fun _ => .inr trivial⟩
  rcases h.st with ⟨h1, h2⟩ | ⟨h1, h2, h3, h4⟩ | ⟨h1, h2, h3, h4⟩ | ⟨h1, h2, h3⟩ | ⟨h1, h2, h3⟩ | ⟨h1, h2, h3⟩ | ⟨h1, h2, h3⟩
  · omega
  · omega
  · rw [h1] at hn; have hn' : c.n ≤ 5 := hn; omega
  · omega
  · rw [h1] at hn; have hn' : c.n ≤ 7 := hn; omega
  · rw [h1] at hn; have hn' : c.n ≤ 2 := hn; omega
  · rw [h1] at hn; have hn' : c.n ≤ 7 := hn; omega
theorem aln_stOf {x : Fr} {c : Cl} {e p : Nat} (h : Aln x c e p) : stOf c.tc c.rc c.off = if e < 16 then 1 else 2 := by
  rw [h.rc, h.off, h.tc]
  unfold stOf
  rw [if_neg (by decide)]
  by_cases h16 : e < 16
  · rw [if_neg (by omega), if_pos h16]
  · rw [if_pos (by omega), if_neg h16]

/-- A bit more, as it drives it itself. -/
theorem aln_step {x : Fr} (hr : FP.rightB x = true) {c : Cl} {e p : Nat} (hk : c.Ok) (h : Aln x c e p) :
    (p = aloneP x ∧ (c.samp c.drv).kind = 3 ∧ (c.samp c.drv).bad = 14 ∧ Aln x (c.samp c.drv).c (e + 1) (p + 1)) ∨ (p ≠ aloneP x ∧ (c.samp c.drv).kind = 0 ∧ Aln x (c.samp c.drv).c e (nextP x e p)) := by
  have hm := FP.body_le hr
  have hge := FP.body_ge hr
  have hl := FP.body_len x
  have hn9 := hk.n9
  have hn0 := hk.n0
  have sim : ∀ d : Cl, p ≠ aloneP x → c.samp c.drv = ev0 d → Aln x d e (nextP x e p) → (p = aloneP x ∧ (c.samp c.drv).kind = 3 ∧ (c.samp c.drv).bad = 14 ∧ Aln x (c.samp c.drv).c (e + 1) (p + 1)) ∨ (p ≠ aloneP x ∧ (c.samp c.drv).kind = 0 ∧ Aln x (c.samp c.drv).c e (nextP x e p)) := fun d hp hd hb => by
    rw [hd]
    exact .inr ⟨hp, rfl, hb⟩
  have nx : p < aloneP x + 17 → nextP x e p = p + 1 := fun q => if_neg (by omega)
  rcases h.st with ⟨h1, h2⟩ | ⟨h1, h2, h3, h4⟩ | ⟨h1, h2, h3, h4⟩ | ⟨h1, h2, h3⟩ | ⟨h1, h2, h3⟩ | ⟨h1, h2, h3⟩ | ⟨h1, h2, h3⟩
  · have hd : c.drv = 48 := by unfold Cl.drv; rw [if_pos h1, if_pos h.has]
    have hP : aloneP x = (bodyF x).length + 1 := rfl
    refine sim c.begin1 (by omega) ?_ ?_
    · rw [hd]
      unfold Cl.samp
      rw [if_neg (by omega), if_pos h1, if_pos rfl, if_pos h.has]
    · rw [nx (by omega), mid_begin1, h.f, h2]
      exact aln_st h rfl rfl rfl rfl rfl rfl (.inr (.inl ⟨rfl, by omega, by omega, rfl⟩))
  · have hP : aloneP x = (bodyF x).length + 1 := rfl
    by_cases hlt : p < (bodyF x).length
    · have hb : (bitsF x)[p]? = some (bitsF x)[p] := List.getElem?_eq_getElem (by omega)
      have hd : c.drv = (bitsF x)[p] := by rw [h4, mid_drvS hb]
      refine sim (mid c true x (p + 1)) (by omega) ?_ ?_
      · rw [hd]
        conv => lhs; rw [h4]
        exact mid_step hr hlt (by rw [← FP.body_get x p hlt]; exact hb)
      · rw [nx (by omega)]
        exact aln_st h rfl rfl rfl rfl rfl rfl (.inr (.inl ⟨rfl, by omega, by omega, rfl⟩))
    · have hb : (bitsF x)[p]? = some 49 := bits_tail x (by omega) (by omega)
      have hd : c.drv = 49 := by rw [h4, mid_drvS hb]
      by_cases hi : p = (bodyF x).length
      · refine sim (mid c true x (p + 1)) (by omega) ?_ ?_
        · rw [hd]
          conv => lhs; rw [h4]
          exact mid_next (b := 49) (by omega) (by omega) (fun q => by cases q) (by rw [if_neg (by omega)]; decide)
        · rw [nx (by omega)]
          exact aln_st h rfl rfl rfl rfl rfl rfl (.inr (.inl ⟨rfl, by omega, by omega, rfl⟩))
      · have es : c.samp c.drv = ⟨(mid c true x p).fail 14, 3, zFr, 14⟩ := by
          rw [hd]
          conv => lhs; rw [h4]
          exact mid_ack (b := 49) (by omega) (by decide)
        left
        rw [es]
        have hpp : p = aloneP x := by omega
        refine ⟨hpp, rfl, rfl, ?_⟩
        rw [hpp]
        have := aln_fail h p
        rw [hpp] at this
        exact this
  · rw [h1] at hn9
    have hn9' : c.n ≤ 5 := hn9
    refine sim c.flag1 (by omega) ?_ ?_
    · unfold Cl.samp
      rw [if_neg (by omega), if_neg (by omega), if_neg (by omega), if_pos h1]
    · rw [nx (by omega)]
      unfold Cl.flag1
      split
      · exact aln_st h rfl rfl rfl rfl rfl rfl (.inr (.inr (.inr (.inl ⟨rfl, by omega, h3⟩))))
      · refine aln_st h rfl rfl rfl rfl rfl rfl (.inr (.inr (.inl ⟨h1, ?_, h3, h4⟩)))
        show ((p + 1 : Nat) : Int) = aloneP x + 1 + (c.n + 1)
        omega
  · have hd : c.drv = 49 := by unfold Cl.drv; rw [if_neg (by omega), if_neg (by omega), if_neg (by omega)]
    refine sim { c.to 5 with n := 1 } (by omega) ?_ ?_
    · rw [hd]
      unfold Cl.samp
      rw [if_neg (by omega), if_neg (by omega), if_neg (by omega), if_neg (by omega), if_pos h1, if_neg (by decide)]
    · rw [nx (by omega)]
      refine aln_st h rfl rfl rfl rfl rfl rfl (.inr (.inr (.inr (.inr (.inl ⟨rfl, ?_, h3⟩)))))
      show ((p + 1 : Nat) : Int) = aloneP x + 7 + 1
      omega
  · have hd : c.drv = 49 := by unfold Cl.drv; rw [if_neg (by omega), if_neg (by omega), if_neg (by omega)]
    rw [h1] at hn9
    have hn9' : c.n ≤ 7 := hn9
    refine sim (c.delim1 false) (by omega) ?_ ?_
    · rw [hd]
      unfold Cl.samp
      rw [if_neg (by omega), if_neg (by omega), if_neg (by omega), if_neg (by omega), if_neg (by omega), if_pos h1]
      rfl
    · rw [nx (by omega)]
      unfold Cl.delim1
      rw [if_neg (by decide)]
      split
      · refine aln_st h rfl rfl rfl rfl rfl rfl (.inr (.inr (.inr (.inr (.inr (.inl ⟨rfl, ?_, h3⟩))))))
        show ((p + 1 : Nat) : Int) = aloneP x + 15 + 0
        omega
      · refine aln_st h rfl rfl rfl rfl rfl rfl (.inr (.inr (.inr (.inr (.inl ⟨h1, ?_, h3⟩)))))
        show ((p + 1 : Nat) : Int) = aloneP x + 7 + (c.n + 1)
        omega
  · have hd : c.drv = 49 := by unfold Cl.drv; rw [if_neg (by omega), if_neg (by omega), if_neg (by omega)]
    rw [h1] at hn9
    have hn9' : c.n ≤ 2 := hn9
    refine sim c.gap1 (by omega) ?_ ?_
    · rw [hd]
      unfold Cl.samp
      rw [if_neg (by omega), if_neg (by omega), if_neg (by omega), if_neg (by omega), if_neg (by omega), if_neg (by omega), if_pos h1, if_neg (by decide)]
    · have hso := aln_stOf h
      unfold Cl.gap1
      split
      · by_cases h16 : e < 16
        · rw [if_pos h16] at hso
          rw [if_neg (by rw [hso]; exact fun q => absurd q.2 (by decide))]
          have en : nextP x e p = 0 := if_pos (by omega)
          rw [en]
          exact aln_st h rfl rfl rfl rfl rfl rfl (.inl ⟨rfl, rfl⟩)
        · rw [if_neg h16] at hso
          rw [if_pos ⟨h3, hso⟩]
          have en : nextP x e p = p + 1 := if_neg (by omega)
          rw [en]
          refine aln_st h rfl rfl rfl rfl rfl rfl (.inr (.inr (.inr (.inr (.inr (.inr ⟨rfl, ?_, by omega⟩))))))
          show ((p + 1 : Nat) : Int) = aloneP x + 18 + 0
          omega
      · rw [nx (by omega)]
        refine aln_st h rfl rfl rfl rfl rfl rfl (.inr (.inr (.inr (.inr (.inr (.inl ⟨h1, ?_, h3⟩))))))
        show ((p + 1 : Nat) : Int) = aloneP x + 15 + (c.n + 1)
        omega
  · have hd : c.drv = 49 := by unfold Cl.drv; rw [if_neg (by omega), if_neg (by omega), if_neg (by omega)]
    rw [h1] at hn9
    have hn9' : c.n ≤ 7 := hn9
    refine sim c.hold1 (by omega) ?_ ?_
    · rw [hd]
      unfold Cl.samp
      rw [if_neg (by omega), if_neg (by omega), if_neg (by omega), if_neg (by omega), if_neg (by omega), if_neg (by omega), if_neg (by omega), if_pos h1, if_neg (by decide)]
    · unfold Cl.hold1
      split
      · have en : nextP x e p = 0 := if_pos (by omega)
        rw [en]
        exact aln_st h rfl rfl rfl rfl rfl rfl (.inl ⟨rfl, rfl⟩)
      · have en : nextP x e p = p + 1 := if_neg (by omega)
        rw [en]
        refine aln_st h rfl rfl rfl rfl rfl rfl (.inr (.inr (.inr (.inr (.inr (.inr ⟨h1, ?_, h3⟩))))))
        show ((p + 1 : Nat) : Int) = aloneP x + 18 + (c.n + 1)
        omega
end Go.Proofs.YtkfedgjepiljiaaGreatDoor
