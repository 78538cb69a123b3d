/- Plain: a controller that may be stays one at any bit. -/
import Derived.Test.YthkilodnghiocaaGreatDoorMgRdD
namespace Go.Proofs.YthkilodnghiocaaGreatDoor
open Go.ChangeShapes Go.WideShapes Go.ChangeAt Go.RowKit
open FP (Fr uN uK doneB sizeE sizeV readV headOf bitsF bodyF RS rsStep rs0 rsOf goodB)

theorem ok_n {c : Cl} (h : c.Ok) (h2 : c.st ≠ 2) (k : Int) (h0 : 0 ≤ k) (h9 : k ≤ topN c.st) (h5 : c.st = 5 → 1 ≤ k) : ({ c with n := k } : Cl).Ok :=
  ⟨h.cnt, h.offs, h.has, h.hasn, h.s0, h.s8, h0, h9, h5, fun e => h.out e, fun e => absurd e h2⟩
theorem base_n {c : Cl} (h : c.Base) (k : Int) : ({ c with n := k } : Cl).Base := ⟨h.cnt, h.has, h.hasn⟩
theorem base_tk {c : Cl} (h : c.Base) (b : UInt8) : (c.tk b).Base := ⟨h.cnt, h.has, h.hasn⟩
theorem tk_L (c : Cl) (b : UInt8) : (c.tk b).L = b := u8_back b
theorem tk_N (c : Cl) (b : UInt8) : (c.tk b).N = uN c.L c.N b := Int.toNat_natCast _
theorem tk_g (c : Cl) (b : UInt8) : (c.tk b).g = if uK c.L c.N b = 1 then c.g ++ [b] else c.g := by
  unfold Cl.g Cl.tk
  dsimp only
  split
  · rw [ByteArray.data_append, Array.toList_append]
  · rfl
theorem tk_rs (c : Cl) (b : UInt8) : (⟨(c.tk b).L, (c.tk b).N, (c.tk b).g⟩ : RS) = rsStep ⟨c.L, c.N, c.g⟩ b := by
  rw [tk_L, tk_N, tk_g]
  rfl
theorem whole_eq {c : Cl} (he : c.en = false) (hg : c.good = false) : c.whole = { c with en := doneB c.g c.N, good := doneB c.g c.N && goodB c.g } := by
  unfold Cl.whole
  cases hd : doneB c.g c.N
  · rw [if_neg (by decide)]
    obtain ⟨tc, rc, off, rs, st, n, was, hard, has, f, sends, out, at_, last, sn, got, en, tail, good⟩ := c
    dsimp only at he hg
    subst he hg
    rfl
  · rw [if_pos rfl]; rfl
theorem adv_same (c : Cl) : c.adv.en = c.en ∧ c.adv.good = c.good ∧ c.adv.g = c.g ∧ c.adv.N = c.N ∧ c.adv.L = c.L ∧ c.adv.sends = c.sends ∧ c.adv.has = c.has ∧ c.adv.f = c.f ∧ c.adv.out = c.out ∧ c.adv.tail = c.tail ∧ c.adv.last = c.last ∧ c.adv.sn = c.sn := by
  unfold Cl.adv
  split <;> exact ⟨rfl, rfl, rfl, rfl, rfl, rfl, rfl, rfl, rfl, rfl, rfl, rfl⟩
theorem adv_base (c : Cl) : c.adv.tc = c.tc ∧ c.adv.rc = c.rc ∧ c.adv.off = c.off ∧ c.adv.rs = c.rs ∧ c.adv.st = c.st ∧ c.adv.n = c.n := by
  unfold Cl.adv
  split <;> exact ⟨rfl, rfl, rfl, rfl, rfl, rfl⟩
theorem adv_at (c : Cl) : c.adv.at_ = if c.sends = true then c.at_ + 1 else c.at_ := by
  unfold Cl.adv
  split <;> rfl
theorem list_one {α : Type} {l : List α} {a : α} (h : l[0]? = some a) (b : α) : (l ++ [b])[0]? = some a := by
  rw [List.getElem?_append_left]
  · exact h
  · rcases l with _ | ⟨x, l⟩
    · simp at h
    · simp
theorem out_at {c : Cl} (hi : c.In) (hs : c.sends = true) (he : c.en = false) : c.outAt = (bodyF c.f)[c.at_.toNat]? ∧ c.at_.toNat < (bodyF c.f).length := by
  obtain ⟨_, h2, _, h4, _⟩ := hi.yes hs
  have := h4 he
  have hl : c.at_.toNat < (bodyF c.f).length := by omega
  refine ⟨?_, hl⟩
  unfold Cl.outAt
  rw [h2]
  exact FP.body_get c.f _ hl

theorem in_take {c : Cl} (hi : c.In) (hr : c.sends = true → FP.rightB c.f = true) (he : c.en = false) (b : UInt8) (hb : b = 48 ∨ b = 49) (ha : c.sends = true → c.outAt = some b) (h3 : uK c.L c.N b ≠ 3) (hf : ¬ (uK c.L c.N b = 1 ∧ sizeE (c.tk b).g = 12)) : (c.tk b).adv.whole.In := by
  have hgo : c.good = false := by rw [hi.good, he]; rfl
  obtain ⟨q1, q2, q3, q4, q5, q6, q7, q8, q9, q10, q11, q12⟩ := adv_same (c.tk b)
  have hW := whole_eq (c := (c.tk b).adv) (by rw [q1]; exact he) (by rw [q2]; exact hgo)
  rw [hW]
  rw [q3, q4]
  have ht : c.tail = 0 := hi.tn he
  have hx : (c.tk b).adv.tail = 0 := by rw [q10]; exact ht
  have hle := hi.stk.le
  have hd : doneB c.g c.N = false := by rw [← hi.en]; exact he
  refine ⟨?_, ?_, ?_, ?_, ?_, ?_, ?_, ?_, ?_, ?_, ?_, ?_, ?_, ?_, ?_⟩
  · show (c.tk b).adv.last = ((c.tk b).adv.L.toNat : Int)
    rw [q11, q5, tk_L]; rfl
  · show (c.tk b).adv.sn = ((c.tk b).adv.N : Int)
    rw [q12, q4, tk_N]; rfl
  · show StK (c.tk b).adv.L (c.tk b).adv.N
    rw [q5, q4, tk_L, tk_N]
    exact hi.stk.step hb
  · show 1 ≤ (c.tk b).adv.N
    rw [q4, tk_N]
    exact (FP.uN_le hle b).1
  · show ∀ x ∈ (c.tk b).adv.g, x = 48 ∨ x = 49
    rw [q3, tk_g]
    intro x hx
    split at hx
    · rw [List.mem_append, List.mem_singleton] at hx
      rcases hx with hx | rfl
      · exact hi.bits x hx
      · exact hb
    · exact hi.bits x hx
  · show (c.tk b).adv.g[0]? = some 48
    rw [q3, tk_g]
    split
    · exact list_one hi.first b
    · exact hi.first
  · show sizeE (c.tk b).adv.g ≠ 12
    rw [q3]
    intro h12
    by_cases h1 : uK c.L c.N b = 1
    · exact hf ⟨h1, h12⟩
    · rw [tk_g, if_neg h1] at h12
      exact hi.size h12
  · show sizeE (c.tk b).adv.g = 0 → (c.tk b).adv.g.length ≤ sizeV (c.tk b).adv.g + 15
    rw [q3, tk_g]
    by_cases h1 : uK c.L c.N b = 1
    · rw [if_pos h1]
      exact FP.le_snoc hi.size hi.le hd (FP.uK1_lt hle h1)
    · rw [if_neg h1]
      exact hi.le
  · show doneB (c.tk b).g (c.tk b).N = doneB (c.tk b).adv.g (c.tk b).adv.N
    rw [q3, q4]
  · show (doneB (c.tk b).g (c.tk b).N && goodB (c.tk b).g) = (doneB (c.tk b).g (c.tk b).N && goodB (c.tk b).adv.g)
    rw [q3]
  · show 0 ≤ (c.tk b).adv.tail
    rw [hx]; decide
  · show (c.tk b).adv.tail ≤ 9
    rw [hx]; decide
  · exact fun _ => hx
  · intro h
    have h' : (c.tk b).adv.sends = false := h
    rw [q6] at h'
    have hs' : c.sends = false := h'
    have := hi.no hs'
    refine ⟨?_, ?_⟩
    · show (c.tk b).adv.out = _
      rw [q9]; exact this.1
    · show (c.tk b).adv.at_ = _
      rw [adv_at, if_neg (by rw [h']; decide)]
      exact this.2
  · intro h
    have h' : (c.tk b).adv.sends = true := h
    rw [q6] at h'
    have hs' : c.sends = true := h'
    obtain ⟨y1, y2, y3, y4, y5⟩ := hi.yes hs'
    have y4 := y4 he
    obtain ⟨o1, o2⟩ := out_at hi hs' he
    have o3 := ha hs'
    rw [o1] at o3
    have hat : (c.tk b).adv.at_ = c.at_ + 1 := by rw [adv_at, if_pos h']; rfl
    have htk : (bodyF c.f).take (c.at_ + 1).toNat = (bodyF c.f).take c.at_.toNat ++ [b] := by
      rw [show (c.at_ + 1).toNat = c.at_.toNat + 1 by omega, List.take_add_one, o3]
      rfl
    have hrs : rsOf ((bodyF c.f).take (c.at_ + 1).toNat) = ⟨(c.tk b).L, (c.tk b).N, (c.tk b).g⟩ := by
      rw [htk, FP.rsOf_snoc, y5, tk_rs]
    have F := FP.fol_body (hr hs') (j := (c.at_ + 1).toNat) (by omega)
    rw [hrs] at F
    have hdone := F.done
    refine ⟨?_, ?_, ?_, ?_, ?_⟩
    · show (c.tk b).adv.has = true
      rw [q7]; exact y1
    · show (c.tk b).adv.out = ⟨(bitsF (c.tk b).adv.f).toArray⟩
      rw [q9, q8]; exact y2
    · intro hd1
      have hd1' : doneB (c.tk b).g (c.tk b).N = true := hd1
      have := hdone.1 hd1'
      rw [List.getElem?_eq_none_iff] at this
      show (c.tk b).adv.at_ = ((bodyF (c.tk b).adv.f).length : Int) + (c.tk b).adv.tail
      rw [hat, hx, q8]
      show c.at_ + 1 = ((bodyF c.f).length : Int) + 0
      omega
    · intro hd1
      have hd1' : doneB (c.tk b).g (c.tk b).N = false := hd1
      show 1 ≤ (c.tk b).adv.at_ ∧ (c.tk b).adv.at_ < ((bodyF (c.tk b).adv.f).length : Int)
      rw [hat, q8]
      show 1 ≤ c.at_ + 1 ∧ c.at_ + 1 < ((bodyF c.f).length : Int)
      refine ⟨by omega, ?_⟩
      by_cases hlt : (c.at_ + 1).toNat < (bodyF c.f).length
      · omega
      · have := hdone.2 (List.getElem?_eq_none (by omega))
        rw [hd1'] at this
        cases this
    · show rsOf ((bodyF (c.tk b).adv.f).take (c.tk b).adv.at_.toNat) = ⟨(c.tk b).adv.L, (c.tk b).adv.N, (c.tk b).adv.g⟩
      rw [hat, q8, q5, q4, q3]
      exact hrs

theorem ok_take {c : Cl} (h : c.Ok) (hst : c.st = 2) (he : c.en = false) (k : Int) (b : UInt8) (hb : b = 48 ∨ b = 49) (ha : c.sends = true → c.outAt = some b) : (c.take k b).c.Ok := by
  have ho : c.off = false := h.on (by omega)
  have hi := h.inn hst
  unfold Cl.take
  by_cases h3 : uK c.L c.N b = 3
  · rw [if_pos h3]
    exact ok_fail (base_tk h.base b) ho 10
  · rw [if_neg h3]
    by_cases hf : uK c.L c.N b = 1 ∧ sizeE (c.tk b).g = 12
    · rw [if_pos hf]
      exact ok_fail (base_tk h.base b) ho 12
    · rw [if_neg hf]
      have hin := in_take hi (fun hs => h.has (hi.yes hs).1) he b hb ha h3 hf
      have hgo : c.good = false := by rw [hi.good, he]; rfl
      obtain ⟨q1, q2, q3, q4, q5, q6, q7, q8, q9, q10, q11, q12⟩ := adv_same (c.tk b)
      obtain ⟨p1, p2, p3, p4, p5, p6⟩ := adv_base (c.tk b)
      have hW := whole_eq (c := (c.tk b).adv) (by rw [q1]; exact he) (by rw [q2]; exact hgo)
      show (c.tk b).adv.whole.Ok
      have hst' : (c.tk b).adv.whole.st = 2 := by rw [hW]; exact p5.trans hst
      refine ⟨?_, ?_, ?_, ?_, by omega, by omega, ?_, ?_, fun e => by omega, fun e => absurd hst' e, fun _ => hin⟩
      · rw [hW]
        show cntB (c.tk b).adv.tc (c.tk b).adv.rc (c.tk b).adv.off (c.tk b).adv.rs = true
        rw [p1, p2, p3, p4]; exact h.cnt
      · rw [hst', hW]
        show (c.tk b).adv.off = _
        rw [p3]
        exact ho
      · rw [hW]
        show (c.tk b).adv.has = true → FP.rightB (c.tk b).adv.f = true
        rw [q7, q8]; exact h.has
      · rw [hW]
        show (c.tk b).adv.has = false → (c.tk b).adv.f = zFr
        rw [q7, q8]; exact h.hasn
      · rw [hW]
        show 0 ≤ (c.tk b).adv.n
        rw [p6]; exact h.n0
      · rw [hst', hW]
        show (c.tk b).adv.n ≤ topN 2
        rw [p6]
        have := h.n9
        rw [hst] at this
        exact this

theorem ok_drop {c : Cl} (h : c.Ok) (hst : c.st = 2) : c.drop.Ok := by
  have hi := h.inn hst
  obtain ⟨a1, a2, a3, a4, a5, a6, a7, a8, a9, b1, b2, b3, b4, b6, b7⟩ := hi
  exact ⟨h.cnt, h.offs, h.has, h.hasn, h.s0, h.s8, h.n0, h.n9, h.n5, fun e => absurd hst e, fun _ => ⟨a1, a2, a3, a4, a5, a6, a7, a8, a9, b1, b2, b3, b4, fun _ => ⟨rfl, rfl⟩, (fun e => by cases e)⟩⟩
theorem ok_body {c : Cl} (h : c.Ok) (hst : c.st = 2) (he : c.en = false) (b : UInt8) (hb : b = 48 ∨ b = 49) : (c.body b).c.Ok := by
  unfold Cl.body
  by_cases hx : c.sends = true ∧ c.outAt ≠ some b
  · rw [if_pos hx]
    split
    · exact ok_take (ok_drop h hst) hst he 4 b hb (fun e => by cases e)
    · exact ok_fail h.base (h.on (by omega)) 13
  · rw [if_neg hx]
    exact ok_take h hst he 0 b hb (fun e => Classical.not_not.1 (fun e2 => hx ⟨e, e2⟩))

theorem in_on {c : Cl} (hi : c.In) (he : c.en = true) (ht : c.tail < 9) : c.on.In := by
  obtain ⟨a1, a2, a3, a4, a5, a6, a7, a8, a9, b1, b2, b3, b4, b6, b7⟩ := hi
  have hf : ¬ c.on.en = false := by show ¬ c.en = false; rw [he]; decide
  refine ⟨a1, a2, a3, a4, a5, a6, a7, a8, a9, b1, by show 0 ≤ c.tail + 1; omega, by show c.tail + 1 ≤ 9; omega, fun e => absurd e hf, fun e => ?_, fun e => ?_⟩
  · have := b6 e
    refine ⟨this.1, ?_⟩
    show (if c.sends = true then c.at_ + 1 else c.at_) = 0
    rw [if_neg (by rw [show c.sends = false from e]; decide)]
    exact this.2
  · obtain ⟨y1, y2, y3, y4, y5⟩ := b7 e
    have y3 := y3 he
    have hat : c.on.at_ = c.at_ + 1 := if_pos e
    refine ⟨y1, y2, fun _ => ?_, fun e => absurd e hf, ?_⟩
    · rw [hat]
      show c.at_ + 1 = ((bodyF c.f).length : Int) + (c.tail + 1)
      omega
    · rw [hat]
      show rsOf ((bodyF c.f).take (c.at_ + 1).toNat) = ⟨c.L, c.N, c.g⟩
      rw [← y5, List.take_of_length_le (by omega), List.take_of_length_le (by omega)]
theorem in_count {c : Cl} (hi : c.In) (what : Int) : (c.count what).In := by
  obtain ⟨a1, a2, a3, a4, a5, a6, a7, a8, a9, b1, b2, b3, b4, b6, b7⟩ := hi
  unfold Cl.count
  split <;> exact ⟨a1, a2, a3, a4, a5, a6, a7, a8, a9, b1, b2, b3, b4, b6, b7⟩
theorem out_count {c : Cl} (ho : c.Out) (what : Int) : (c.count what).Out := by
  unfold Cl.count
  split <;> exact ho
theorem count_low {c : Cl} (what : Int) (h : cntTc what c.tc ≤ 255) : c.count what = { c with tc := cntTc what c.tc, rc := cntRc what c.rc } := by
  unfold Cl.count
  rw [if_neg (by omega)]
theorem tc_le {c : Cl} (h : c.Base) (ho : c.off = false) {what : Int} (hw : what ≠ 3 ∧ what ≠ 5) : cntTc what c.tc ≤ 255 := by
  obtain ⟨_, _, h0, h1, _⟩ := cnt_on h.cnt ho
  unfold cntTc
  split
  · omega
  · rw [if_neg (by omega)]; exact h1
theorem ok_count {c : Cl} (h : c.Ok) (ho : c.off = false) (what : Int) (hw : what ≠ 3 ∧ what ≠ 5) : (c.count what).Ok ∧ (c.count what).st = c.st ∧ (c.count what).off = false := by
  have hb := (count_ok what h.base ho).1
  have e := count_low (c := c) what (tc_le h.base ho hw)
  have hst : (c.count what).st = c.st := by rw [e]
  have hoff : (c.count what).off = c.off := by rw [e]
  have hn : (c.count what).n = c.n := by rw [e]
  refine ⟨⟨hb.cnt, by rw [hst, hoff]; exact h.offs, hb.has, hb.hasn, by rw [hst]; exact h.s0, by rw [hst]; exact h.s8, by rw [hn]; exact h.n0, by rw [hn, hst]; exact h.n9, by rw [hn, hst]; exact h.n5, fun e2 => out_count (h.out (by rw [← hst]; exact e2)) what, fun e2 => in_count (h.inn (by rw [← hst]; exact e2)) what⟩, hst, by rw [hoff]; exact ho⟩
theorem ok_on {c : Cl} (h : c.Ok) (hst : c.st = 2) (he : c.en = true) (ht : c.tail < 9) : c.on.Ok :=
  ⟨h.cnt, h.offs, h.has, h.hasn, h.s0, h.s8, h.n0, h.n9, h.n5, fun e => absurd hst e, fun _ => in_on (h.inn hst) he ht⟩
theorem ok_sent {c : Cl} (h : c.Ok) (ho : c.off = false) : c.sent.Ok := by
  have h6 := ok_to h.base 6 (by decide) (by decide) (by decide) (by decide) ho
  obtain ⟨h1, h2, h3⟩ := ok_count h6 ho 1 (by decide)
  exact ⟨h1.cnt, h1.offs, (fun e => by cases e), fun _ => rfl, h1.s0, h1.s8, h1.n0, h1.n9, h1.n5, fun e => h1.out e, fun e => absurd (h2.symm.trans e : (6 : Int) = 2) (by decide : ¬ (6 : Int) = 2)⟩
theorem ok_ends {c : Cl} (h : c.Ok) (ho : c.off = false) (b : UInt8) : (c.ends b).c.Ok := by
  unfold Cl.ends
  split
  · exact ok_hard true (ok_to h.base 3 (by decide) (by decide) (by decide) (by decide) ho)
  · split
    · exact ok_sent h ho
    · exact ok_to h.base 6 (by decide) (by decide) (by decide) (by decide) ho
theorem ok_behind {c : Cl} (h : c.Ok) (hst : c.st = 2) (he : c.en = true) (b : UInt8) : (c.behind b).c.Ok := by
  have ho : c.off = false := h.on (by omega)
  have hi := h.inn hst
  unfold Cl.behind
  split
  · exact ok_fail h.base ho 14
  · split
    · exact ok_fail h.base ho 12
    · split
      · exact ok_fail h.base ho 11
      · split
        · exact ok_ends h ho b
        · rename_i h9
          have ht9 := hi.t9
          split
          · rename_i h8
            obtain ⟨g1, g2, g3⟩ := ok_count h ho 2 (by decide)
            have e := count_low (c := c) 2 (tc_le h.base ho (by decide))
            refine ok_on g1 (by rw [g2]; exact hst) (by rw [e]; exact he) (by rw [e]; show c.tail < 9; omega)
          · exact ok_on h hst he (by omega)

theorem base_rest {c : Cl} (h : c.Base) (ho : c.off = true) : (c.rest 7).Base := by
  obtain ⟨h1, h2, h3, h4⟩ := cnt_off h.cnt ho
  refine ⟨?_, h.has, h.hasn⟩
  show cntB c.tc c.rc (!(c.rs - 1 == 0)) (c.rs - 1) = true
  rw [h1, h2]
  by_cases e : c.rs - 1 = 0
  · rw [e]; decide
  · rw [show (c.rs - 1 == 0) = false by simpa using e]
    unfold cntB
    rw [if_pos (by rfl)]
    exact decide_eq_true ⟨rfl, rfl, by omega, by omega⟩

theorem base_echo {c : Cl} (h : c.Base) (ho : c.off = false) : c.echoN.echoC.Base ∧ (c.Out → c.echoN.echoC.Out) ∧ c.echoN.echoC.st = c.st ∧ c.echoN.echoC.n = min (c.n + 1) 1000000000 := by
  have hN : c.echoN.Base := ⟨h.cnt, h.has, h.hasn⟩
  unfold Cl.echoC
  split
  · obtain ⟨g1, g2, g3⟩ := count_ok 6 hN ho
    exact ⟨g1, fun o => out_count (c := c.echoN) o 6, g2, g3⟩
  · split
    · obtain ⟨g1, g2, g3⟩ := count_ok (if c.echoN.was = true then 5 else 6) hN ho
      exact ⟨g1, fun o => out_count (c := c.echoN) o _, g2, g3⟩
    · exact ⟨hN, fun o => o, rfl, rfl⟩

theorem Cl.Ok.samp {c : Cl} (h : c.Ok) (b : UInt8) (hb : b = 48 ∨ b = 49) : (c.samp b).c.Ok := by
  have hn0 := h.n0
  have hn9 := h.n9
  unfold Cl.samp
  split
  · rename_i hs
    rw [hs] at hn9
    have hn9 : c.n ≤ 10 := hn9
    have ho : c.off = false := h.on (by omega)
    show Cl.Ok (if b = 48 then { c with n := 0 } else c.join1)
    split
    · exact ok_n h (by omega) 0 (by decide) (by rw [hs]; decide) (fun e => by omega)
    · unfold Cl.join1
      split
      · exact ok_to (base_n h.base 11) 1 (by decide) (by decide) (by decide) (by decide) ho
      · exact ok_n h (by omega) (c.n + 1) (by omega) (by rw [hs]; show c.n + 1 ≤ 10; omega) (fun e => by omega)
  · split
    · rename_i hs
      have ho : c.off = false := h.on (by omega)
      show Cl.Ok (if b = 48 then (if c.has = true then c.begin1 else c.begin0) else c)
      split
      · split
        · exact ok_begin1 h.base ho (by assumption)
        · exact ok_begin0 h.base ho
      · exact h
    · split
      · rename_i hs
        unfold Cl.frame
        split
        · exact ok_behind h hs (by assumption) b
        · rename_i he
          exact ok_body h hs (by simpa using he) b hb
      · split
        · rename_i hs
          rw [hs] at hn9
          have hn9 : c.n ≤ 5 := hn9
          have ho : c.off = false := h.on (by omega)
          show c.flag1.Ok
          unfold Cl.flag1
          split
          · exact ok_to h.base 4 (by decide) (by decide) (by decide) (by decide) ho
          · exact ok_n h (by omega) (c.n + 1) (by omega) (by rw [hs]; show c.n + 1 ≤ 5; omega) (fun e => by omega)
        · split
          · rename_i hs
            have ho : c.off = false := h.on (by omega)
            show Cl.Ok (if b = 48 then c.echo0 else { c.to 5 with n := 1 })
            split
            · obtain ⟨g1, g2, g3, g4⟩ := base_echo h.base ho
              unfold Cl.echo0
              split
              · rename_i hof
                exact ok_to g1 8 (by decide) (by decide) (by decide) (by decide) (by rw [hof]; rfl)
              · rename_i hof
                refine ⟨g1.cnt, ?_, g1.has, g1.hasn, by rw [g3]; exact h.s0, by rw [g3]; exact h.s8, by rw [g4]; omega, ?_, fun e => by rw [g3] at e; omega, fun _ => g2 (h.out (by omega)), fun e => by rw [g3] at e; omega⟩
                · rw [g3, hs]; simpa using hof
                · rw [g4, g3, hs]; show min (c.n + 1) 1000000000 ≤ 1000000000; omega
            · exact ⟨h.cnt, ho, h.has, h.hasn, (by decide : (0 : Int) ≤ 5), (by decide : (5 : Int) ≤ 8), (by decide : (0 : Int) ≤ 1), (by decide : (1 : Int) ≤ topN 5), fun _ => Int.le_refl 1, fun _ => to_out c 5, (fun e => by cases e)⟩
          · split
            · rename_i hs
              rw [hs] at hn9
              have hn9 : c.n ≤ 7 := hn9
              have ho : c.off = false := h.on (by omega)
              show (c.delim1 (decide (b = 48))).Ok
              unfold Cl.delim1
              split
              · exact ok_to h.base 3 (by decide) (by decide) (by decide) (by decide) ho
              · split
                · exact ok_to h.base 6 (by decide) (by decide) (by decide) (by decide) ho
                · exact ok_n h (by omega) (c.n + 1) (by omega) (by rw [hs]; show c.n + 1 ≤ 7; omega) (fun e => by omega)
            · split
              · rename_i hs
                rw [hs] at hn9
                have hn9 : c.n ≤ 2 := hn9
                have ho : c.off = false := h.on (by omega)
                show Cl.Ok (if b = 48 then (if c.n = 2 then c.begin0 else { c.to 3 with hard := true }) else c.gap1)
                split
                · split
                  · exact ok_begin0 h.base ho
                  · exact ok_hard true (ok_to h.base 3 (by decide) (by decide) (by decide) (by decide) ho)
                · unfold Cl.gap1
                  split
                  · split
                    · exact ok_to h.base 7 (by decide) (by decide) (by decide) (by decide) ho
                    · exact ok_to h.base 1 (by decide) (by decide) (by decide) (by decide) ho
                  · exact ok_n h (by omega) (c.n + 1) (by omega) (by rw [hs]; show c.n + 1 ≤ 2; omega) (fun e => by omega)
              · split
                · rename_i hs
                  rw [hs] at hn9
                  have hn9 : c.n ≤ 7 := hn9
                  have ho : c.off = false := h.on (by omega)
                  show Cl.Ok (if b = 48 then c.begin0 else c.hold1)
                  split
                  · exact ok_begin0 h.base ho
                  · unfold Cl.hold1
                    split
                    · exact ok_to h.base 1 (by decide) (by decide) (by decide) (by decide) ho
                    · exact ok_n h (by omega) (c.n + 1) (by omega) (by rw [hs]; show c.n + 1 ≤ 7; omega) (fun e => by omega)
                · have hs : c.st = 8 := by have := h.s0; have := h.s8; omega
                  rw [hs] at hn9
                  have hn9 : c.n ≤ 10 := hn9
                  have ho : c.off = true := by rw [h.offs, hs]; rfl
                  show Cl.Ok (if b = 48 then { c with n := 0 } else c.off1)
                  split
                  · exact ok_n h (by omega) 0 (by decide) (by rw [hs]; decide) (fun e => by omega)
                  · unfold Cl.off1
                    split
                    · have hb := base_rest (base_n h.base 0) ho
                      unfold Cl.offIdle
                      split
                      · rename_i hof
                        have hof := stOf_off.1 hof
                        refine ⟨hb.cnt, ?_, hb.has, hb.hasn, h.s0, h.s8, Int.le_refl 0, ?_, fun e => ?_, fun e => h.out (by omega), fun e => ?_⟩
                        · rw [hof]; show true = (c.st == 8); rw [hs]; rfl
                        · show 0 ≤ topN c.st; rw [hs]; decide
                        · have e' : c.st = 5 := e; omega
                        · have e' : c.st = 2 := e; omega
                      · rename_i hof
                        refine ok_to hb 1 (by decide) (by decide) (by decide) (by decide) ?_
                        cases hoo : (({ c with n := 0 } : Cl).rest 7).off
                        · rfl
                        · exact absurd (stOf_off.2 hoo) hof
                    · exact ok_n h (by omega) (c.n + 1) (by omega) (by rw [hs]; show c.n + 1 ≤ 10; omega) (fun e => by omega)
theorem zCl_ok : zCl.Ok := ⟨rfl, rfl, (fun e => by cases e), fun _ => rfl, by decide, by decide, by decide, by decide, (fun e => by cases e), fun _ => ⟨rfl, rfl, rfl, rfl, rfl, rfl, rfl, rfl, rfl⟩, (fun e => by cases e)⟩
end Go.Proofs.YthkilodnghiocaaGreatDoor
