/- Plain: a controller whose frames all end in errors. -/
import Derived.Test.YthkilodnghiocaaGreatDoorMgCsL
namespace Go.Proofs.YthkilodnghiocaaGreatDoor
open Go.ChangeShapes Go.WideShapes Go.ChangeAt Go.RowKit
open FP (Fr bitsF bodyF tenF)

theorem ok_drv {c : Cl} (h : c.Ok) : c.drv = 48 ∨ c.drv = 49 := by
  unfold Cl.drv
  by_cases h2 : c.st = 2
  · rw [if_neg (by omega), if_pos h2]
    by_cases hs : c.sends = true
    · rw [if_pos hs]
      have := ((h.inn h2).yes hs).2.1
      unfold Cl.outAt
      rw [this]
      show ((bitsF c.f)[c.at_.toNat]?).getD 49 = 48 ∨ ((bitsF c.f)[c.at_.toNat]?).getD 49 = 49
      rcases hx : (bitsF c.f)[c.at_.toNat]? with _ | x
      · exact .inr rfl
      · exact FP.bits_bits c.f x (List.mem_of_getElem? hx)
    · rw [if_neg hs]
      split
      · exact .inl rfl
      · exact .inr rfl
  · by_cases h1 : c.st = 1
    · rw [if_pos h1]
      split
      · exact .inl rfl
      · exact .inr rfl
    · rw [if_neg h1, if_neg h2]
      split
      · split
        · exact .inl rfl
        · exact .inr rfl
      · exact .inr rfl

/-- The place of the error. -/
def badP (f : Fr) (a : Bool) : Nat := if a = true then (bodyF f).length else (bodyF f).length + 1
/-- The bit that the bus has. -/
def offB (a : Bool) (c : Cl) : UInt8 := if a = true ∧ c.st = 2 ∧ c.en = true then 48 else c.drv
/-- Off, behind so many recessive bits. -/
def offC (c : Cl) (k : Nat) : Cl := { c with tc := 0, rc := 0, off := true, rs := (128 - k / 11 : Nat), st := 8, n := (k % 11 : Nat) }
structure Bad (x : Fr) (a : Bool) (c : Cl) (e r : Nat) : Prop where
  rc : c.rc = 0
  off : c.off = false
  rs : c.rs = 0
  has : c.has = true
  f : c.f = x
  tc : c.tc = if a = true then (8 * e : Nat) else (min (8 * e) 128 : Nat)
  e32 : a = true → e < 32
  st : (c.st = 1 ∧ r ≤ 180 * e) ∨ (c.st = 2 ∧ ∃ i, 1 ≤ i ∧ i ≤ badP x a ∧ c = mid c true x i ∧ r ≤ 180 * e + i) ∨ (c.st = 3 ∧ (r : Int) + 180 ≤ 180 * e + 149 + c.n) ∨ (c.st = 4 ∧ r + 180 ≤ 180 * e + 155) ∨
    (c.st = 5 ∧ (r : Int) + 180 ≤ 180 * e + 155 + c.n) ∨ (c.st = 6 ∧ (r : Int) + 180 ≤ 180 * e + 163 + c.n) ∨ (c.st = 7 ∧ (r : Int) + 180 ≤ 180 * e + 166 + c.n)
theorem bad_lt {f : Fr} (hr : FP.rightB f = true) {a : Bool} {c : Cl} {e r : Nat} (hk : c.Ok) (h : Bad f a c e r) : r ≤ 180 * e + 180 := by
  have hm := FP.body_le hr
  have hn := hk.n9
  have hp : badP f a ≤ 148 := by unfold badP; split <;> omega
  rcases h.st with ⟨h1, h2⟩ | ⟨h1, i, h2, h3, h4, h5⟩ | ⟨h1, h2⟩ | ⟨h1, h2⟩ | ⟨h1, h2⟩ | ⟨h1, h2⟩ | ⟨h1, h2⟩
  all_goals (try (rw [h1] at hn; have hn' : c.n ≤ 10 := Int.le_trans hn (by decide)))
  all_goals omega
/-- Off. -/
structure IsOff (x : Fr) (c : Cl) : Prop where
  eq : c = offC c 0
  has : c.has = true
  f : c.f = x

theorem fail_tc {f : Fr} {a : Bool} {c : Cl} {e r i : Nat} (h : Bad f a c e r) (bad : Int) (hb : bad = if a = true then 12 else 14) :
    (Bad f a ((mid c true f i).fail bad) (e + 1) (r + 1) ∨ (r + 1 + 180 ≤ 180 * (e + 1) + 149 → Bad f a ((mid c true f i).fail bad) (e + 1) (r + 1))) ∨ (a = true ∧ e + 1 = 32 ∧ IsOff f ((mid c true f i).fail bad)) := by
  obtain ⟨tc, rc, off, rs, st, n, was, hard, has, f', sends, out, at_, last, sn, got, en, tail, good⟩ := c
  obtain ⟨h1, h2, h3, h4, h5, h6, h7, h8⟩ := h
  dsimp only at h1 h2 h3 h4 h5 h6 h8
  subst h1 h2 h3 h4 h5
  cases a with
  | true =>
    rw [if_pos rfl] at hb h6
    subst hb h6
    have e32 := h7 rfl
    have e1 : (mid ⟨((8 * e : Nat) : Int), 0, false, 0, st, n, was, hard, true, f', sends, out, at_, last, sn, got, en, tail, good⟩ true f' i).failC 12 = ({ (mid ⟨((8 * e : Nat) : Int), 0, false, 0, st, n, was, hard, true, f', sends, out, at_, last, sn, got, en, tail, good⟩ true f' i) with was := true } : Cl).count 3 := by
      unfold Cl.failC
      rw [if_neg (by intro q; exact absurd q.1 (by decide))]
      rfl
    have e2 : cntTc 3 ((8 * e : Nat) : Int) = ((8 * (e + 1) : Nat) : Int) := by unfold cntTc; rw [if_neg (by decide), if_pos (.inl rfl)]; omega
    unfold Cl.fail
    rw [e1]
    by_cases h31 : e + 1 = 32
    · right
      refine ⟨rfl, h31, ?_⟩
      have e3 : ({ (mid ⟨((8 * e : Nat) : Int), 0, false, 0, st, n, was, hard, true, f', sends, out, at_, last, sn, got, en, tail, good⟩ true f' i) with was := true } : Cl).count 3 = { (mid ⟨((8 * e : Nat) : Int), 0, false, 0, st, n, was, hard, true, f', sends, out, at_, last, sn, got, en, tail, good⟩ true f' i) with was := true, tc := 0, rc := 0, off := true, rs := 128 } := by
        unfold Cl.count
        rw [if_pos (by show 255 < cntTc 3 ((8 * e : Nat) : Int); rw [e2]; omega)]
      rw [e3]
      exact ⟨rfl, rfl, rfl⟩
    · left; right
      intro hle
      have e3 : ({ (mid ⟨((8 * e : Nat) : Int), 0, false, 0, st, n, was, hard, true, f', sends, out, at_, last, sn, got, en, tail, good⟩ true f' i) with was := true } : Cl).count 3 = { (mid ⟨((8 * e : Nat) : Int), 0, false, 0, st, n, was, hard, true, f', sends, out, at_, last, sn, got, en, tail, good⟩ true f' i) with was := true, tc := ((8 * (e + 1) : Nat) : Int), rc := 0 } := by
        unfold Cl.count
        rw [if_neg (by show ¬ 255 < cntTc 3 ((8 * e : Nat) : Int); rw [e2]; omega)]
        show ({ (mid ⟨((8 * e : Nat) : Int), 0, false, 0, st, n, was, hard, true, f', sends, out, at_, last, sn, got, en, tail, good⟩ true f' i) with was := true, tc := cntTc 3 ((8 * e : Nat) : Int), rc := cntRc 3 0 } : Cl) = _
        rw [e2]
        rfl
      rw [e3]
      unfold Cl.failS
      rw [if_neg (by show ¬ stOf ((8 * (e + 1) : Nat) : Int) 0 false = 3; unfold stOf; rw [if_neg (by decide)]; split <;> decide)]
      exact ⟨rfl, rfl, rfl, rfl, rfl, by rw [if_pos rfl]; rfl, fun _ => by omega, .inr (.inr (.inl ⟨rfl, by show ((r + 1 : Nat) : Int) + 180 ≤ 180 * ((e + 1 : Nat) : Int) + 149 + 0; omega⟩))⟩
  | false =>
    left; right
    intro hle
    rw [if_neg (by decide)] at hb h6
    subst hb
    by_cases hp : stOf tc 0 false = 2
    · have h128 : (min (8 * e) 128 : Nat) = 128 := by
        unfold stOf at hp
        rw [if_neg (by decide)] at hp
        split at hp
        · omega
        · cases hp
      have e1 : (mid ⟨tc, 0, false, 0, st, n, was, hard, true, f', sends, out, at_, last, sn, got, en, tail, good⟩ true f' i).failC 14 = { (mid ⟨tc, 0, false, 0, st, n, was, hard, true, f', sends, out, at_, last, sn, got, en, tail, good⟩ true f' i) with was := true } := by
        unfold Cl.failC
        rw [if_pos ⟨rfl, hp⟩]
        rfl
      unfold Cl.fail
      rw [e1]
      unfold Cl.failS
      rw [if_neg (by show ¬ stOf tc 0 false = 3; rw [hp]; decide)]
      refine ⟨rfl, rfl, rfl, rfl, rfl, ?_, (fun q => by cases q), .inr (.inr (.inl ⟨rfl, by show ((r + 1 : Nat) : Int) + 180 ≤ 180 * ((e + 1 : Nat) : Int) + 149 + 0; omega⟩))⟩
      rw [if_neg (by decide)]
      show tc = _
      omega
    · have h127 : 8 * e ≤ 127 := by
        unfold stOf at hp
        rw [if_neg (by decide)] at hp
        by_cases q : 127 < tc ∨ 127 < (0 : Int)
        · rw [if_pos q] at hp; exact absurd rfl hp
        · clear hp h8 hle h7
          have q1 : ¬ 127 < tc := fun e => q (.inl e)
          clear q
          have hmm : (min (8 * e) 128 : Nat) ≤ 127 := by omega
          omega
      have h16 : e + 1 ≤ 16 := by clear h8 hle h7 hp h6; omega
      have hmm : (min (8 * e) 128 : Nat) = 8 * e := Nat.min_eq_left (by clear h8 hle h7 hp h6; omega)
      have htc : tc = ((8 * e : Nat) : Int) := by rw [h6, hmm]
      subst htc
      have e2 : cntTc 3 ((8 * e : Nat) : Int) = ((8 * (e + 1) : Nat) : Int) := by unfold cntTc; rw [if_neg (by decide), if_pos (.inl rfl)]; omega
      have e1 : (mid ⟨((8 * e : Nat) : Int), 0, false, 0, st, n, was, hard, true, f', sends, out, at_, last, sn, got, en, tail, good⟩ true f' i).failC 14 = { (mid ⟨((8 * e : Nat) : Int), 0, false, 0, st, n, was, hard, true, f', sends, out, at_, last, sn, got, en, tail, good⟩ true f' i) with was := true, tc := ((8 * (e + 1) : Nat) : Int), rc := 0 } := by
        unfold Cl.failC
        rw [if_neg (by intro q; exact hp q.2)]
        show ({ (mid ⟨((8 * e : Nat) : Int), 0, false, 0, st, n, was, hard, true, f', sends, out, at_, last, sn, got, en, tail, good⟩ true f' i) with was := true } : Cl).count 3 = _
        unfold Cl.count
        rw [if_neg (by show ¬ 255 < cntTc 3 ((8 * e : Nat) : Int); rw [e2]; omega)]
        show ({ (mid ⟨((8 * e : Nat) : Int), 0, false, 0, st, n, was, hard, true, f', sends, out, at_, last, sn, got, en, tail, good⟩ true f' i) with was := true, tc := cntTc 3 ((8 * e : Nat) : Int), rc := cntRc 3 0 } : Cl) = _
        rw [e2]
        rfl
      unfold Cl.fail
      rw [e1]
      unfold Cl.failS
      rw [if_neg (by show ¬ stOf ((8 * (e + 1) : Nat) : Int) 0 false = 3; unfold stOf; rw [if_neg (by decide)]; split <;> decide)]
      refine ⟨rfl, rfl, rfl, rfl, rfl, ?_, (fun q => by cases q), .inr (.inr (.inl ⟨rfl, by show ((r + 1 : Nat) : Int) + 180 ≤ 180 * ((e + 1 : Nat) : Int) + 149 + 0; omega⟩))⟩
      rw [if_neg (by decide)]
      show ((8 * (e + 1) : Nat) : Int) = _
      congr 1
      omega

theorem mid_mid (c : Cl) (f : Fr) (i j : Nat) : mid c true f j = mid (mid c true f i) true f j := rfl
theorem bad_st {f : Fr} {a : Bool} {c d : Cl} {e r r' : Nat} (h : Bad f a c e r) (h1 : d.rc = c.rc) (h2 : d.off = c.off) (h3 : d.rs = c.rs) (h4 : d.has = c.has) (h5 : d.f = c.f) (h6 : d.tc = c.tc)
    (hs : (d.st = 1 ∧ r' ≤ 180 * e) ∨ (d.st = 2 ∧ ∃ i, 1 ≤ i ∧ i ≤ badP f a ∧ d = mid d true f i ∧ r' ≤ 180 * e + i) ∨ (d.st = 3 ∧ (r' : Int) + 180 ≤ 180 * e + 149 + d.n) ∨ (d.st = 4 ∧ r' + 180 ≤ 180 * e + 155) ∨
    (d.st = 5 ∧ (r' : Int) + 180 ≤ 180 * e + 155 + d.n) ∨ (d.st = 6 ∧ (r' : Int) + 180 ≤ 180 * e + 163 + d.n) ∨ (d.st = 7 ∧ (r' : Int) + 180 ≤ 180 * e + 166 + d.n)) : Bad f a d e r' :=
  ⟨h1.trans h.rc, h2.trans h.off, h3.trans h.rs, h4.trans h.has, h5.trans h.f, h6.trans h.tc, h.e32, hs⟩

/-- A bit more. -/
theorem bad_step {f : Fr} (hr : FP.rightB f = true) {a : Bool} {c : Cl} {e r : Nat} (hk : c.Ok) (h : Bad f a c e r) :
    ∃ e', ((c.samp (offB a c)).kind = 3 ∧ e' = e + 1 ∨ (c.samp (offB a c)).kind = 0 ∧ e' = e) ∧ ((Bad f a (c.samp (offB a c)).c e' (r + 1) ∧ (c.samp (offB a c)).c.st ≠ 8) ∨ (a = true ∧ e' = 32 ∧ (c.samp (offB a c)).c.st = 8 ∧ IsOff f (c.samp (offB a c)).c)) := by
  have hm := FP.body_le hr
  have hge := FP.body_ge hr
  have hl := FP.body_len f
  have hn9 := hk.n9
  have ob : c.st ≠ 2 → offB a c = c.drv := fun q => if_neg (fun w => q w.2.1)
  have sim : ∀ d : Cl, c.samp (offB a c) = ev0 d → Bad f a d e (r + 1) → ∃ e', ((c.samp (offB a c)).kind = 3 ∧ e' = e + 1 ∨ (c.samp (offB a c)).kind = 0 ∧ e' = e) ∧ ((Bad f a (c.samp (offB a c)).c e' (r + 1) ∧ (c.samp (offB a c)).c.st ≠ 8) ∨ (a = true ∧ e' = 32 ∧ (c.samp (offB a c)).c.st = 8 ∧ IsOff f (c.samp (offB a c)).c)) := fun d hd hb => by
    rw [hd]
    refine ⟨e, .inr ⟨rfl, rfl⟩, .inl ⟨hb, fun q => ?_⟩⟩
    have q' : d.st = 8 := q
    rcases hb.st with ⟨h1, _⟩ | ⟨h1, _⟩ | ⟨h1, _⟩ | ⟨h1, _⟩ | ⟨h1, _⟩ | ⟨h1, _⟩ | ⟨h1, _⟩ <;> rw [q'] at h1 <;> cases h1
  have err : ∀ (i : Nat) (bad : Int), (bad = if a = true then 12 else 14) → c.samp (offB a c) = ⟨(mid c true f i).fail bad, 3, zFr, bad⟩ → r + 1 + 180 ≤ 180 * (e + 1) + 149 → ∃ e', ((c.samp (offB a c)).kind = 3 ∧ e' = e + 1 ∨ (c.samp (offB a c)).kind = 0 ∧ e' = e) ∧ ((Bad f a (c.samp (offB a c)).c e' (r + 1) ∧ (c.samp (offB a c)).c.st ≠ 8) ∨ (a = true ∧ e' = 32 ∧ (c.samp (offB a c)).c.st = 8 ∧ IsOff f (c.samp (offB a c)).c)) := fun i bad hbad hd hle => by
    rw [hd]
    refine ⟨e + 1, .inl ⟨rfl, rfl⟩, ?_⟩
    have fin : Bad f a ((mid c true f i).fail bad) (e + 1) (r + 1) → (Bad f a ((mid c true f i).fail bad) (e + 1) (r + 1) ∧ ((mid c true f i).fail bad).st ≠ 8) := fun hb => ⟨hb, fun q => by
      rcases hb.st with ⟨h1, _⟩ | ⟨h1, _⟩ | ⟨h1, _⟩ | ⟨h1, _⟩ | ⟨h1, _⟩ | ⟨h1, _⟩ | ⟨h1, _⟩ <;> rw [q] at h1 <;> cases h1⟩
    rcases fail_tc (i := i) h bad hbad with (hb | hb) | ⟨h1, h2, h3⟩
    · exact .inl (fin hb)
    · exact .inl (fin (hb hle))
    · refine .inr ⟨h1, h2, ?_, h3⟩
      have : ((mid c true f i).fail bad).st = (offC ((mid c true f i).fail bad) 0).st := congrArg Cl.st h3.eq
      exact this
  rcases h.st with ⟨h1, h2⟩ | ⟨h1, i, h2, h3, h4, h5⟩ | ⟨h1, h2⟩ | ⟨h1, h2⟩ | ⟨h1, h2⟩ | ⟨h1, h2⟩ | ⟨h1, h2⟩
  · have hd : c.drv = 48 := by unfold Cl.drv; rw [if_pos h1, if_pos h.has]
    refine sim c.begin1 ?_ ?_
    · rw [ob (by omega), hd]
      unfold Cl.samp
      rw [if_neg (by omega), if_pos h1, if_pos rfl, if_pos h.has]
    · rw [mid_begin1, h.f]
      refine bad_st h rfl rfl rfl rfl rfl rfl (.inr (.inl ⟨rfl, 1, by omega, ?_, mid_mid c f 1 1, by omega⟩))
      unfold badP; split <;> omega
  · have hen : c.en = decide ((bodyF f).length ≤ i) := by rw [h4]; rfl
    by_cases hlt : i < (bodyF f).length
    · have hb : (bitsF f)[i]? = some (bitsF f)[i] := List.getElem?_eq_getElem (by omega)
      have hd : c.drv = (bitsF f)[i] := by rw [h4, mid_drvS hb]
      have hob : offB a c = (bitsF f)[i] := by
        unfold offB
        rw [if_neg (fun q => by rw [hen, decide_eq_true_eq] at q; omega), hd]
      refine sim (mid c true f (i + 1)) ?_ ?_
      · rw [hob]
        conv => lhs; rw [h4]
        exact mid_step hr hlt (by rw [← FP.body_get f i hlt]; exact hb)
      · refine bad_st h rfl rfl rfl rfl rfl rfl (.inr (.inl ⟨rfl, i + 1, by omega, ?_, mid_mid c f (i + 1) (i + 1), by omega⟩))
        unfold badP; split <;> omega
    · cases a with
      | true =>
        have hi : i = (bodyF f).length := by unfold badP at h3; rw [if_pos rfl] at h3; omega
        have hob : offB true c = 48 := if_pos ⟨rfl, h1, by rw [hen, decide_eq_true_eq]; omega⟩
        refine err i 12 rfl ?_ (by omega)
        rw [hob]
        conv => lhs; rw [h4]
        exact mid_form (by omega) (by omega)
      | false =>
        have hb : (bitsF f)[i]? = some 49 := bits_tail f (by omega) (by unfold badP at h3; rw [if_neg (by decide)] at h3; omega)
        have hd : c.drv = 49 := by rw [h4, mid_drvS hb]
        have hob : offB false c = 49 := by unfold offB; rw [if_neg (fun q => by cases q.1), hd]
        unfold badP at h3
        rw [if_neg (by decide)] at h3
        by_cases hi : i = (bodyF f).length
        · refine sim (mid c true f (i + 1)) ?_ ?_
          · rw [hob]
            conv => lhs; rw [h4]
            exact mid_next (b := 49) (by omega) (by omega) (fun q => by cases q) (by rw [if_neg (by omega)]; decide)
          · refine bad_st h rfl rfl rfl rfl rfl rfl (.inr (.inl ⟨rfl, i + 1, by omega, ?_, mid_mid c f (i + 1) (i + 1), by omega⟩))
            unfold badP; rw [if_neg (by decide)]; omega
        · refine err i 14 rfl ?_ (by omega)
          rw [hob]
          conv => lhs; rw [h4]
          exact mid_ack (b := 49) (by omega) (by decide)
  · refine sim c.flag1 ?_ ?_
    · unfold Cl.samp
      rw [if_neg (by omega), if_neg (by omega), if_neg (by omega), if_pos h1]
    · unfold Cl.flag1
      split
      · exact bad_st h rfl rfl rfl rfl rfl rfl (.inr (.inr (.inr (.inl ⟨rfl, by omega⟩))))
      · refine bad_st h rfl rfl rfl rfl rfl rfl (.inr (.inr (.inl ⟨h1, ?_⟩)))
        show ((r + 1 : Nat) : Int) + 180 ≤ 180 * e + 149 + (c.n + 1)
        omega
  · have hd : c.drv = 49 := by unfold Cl.drv; rw [if_neg (by omega), if_neg (by omega), if_neg (by omega)]
    refine sim { c.to 5 with n := 1 } ?_ ?_
    · rw [ob (by omega), hd]
      unfold Cl.samp
      rw [if_neg (by omega), if_neg (by omega), if_neg (by omega), if_neg (by omega), if_pos h1, if_neg (by decide)]
    · refine bad_st h rfl rfl rfl rfl rfl rfl (.inr (.inr (.inr (.inr (.inl ⟨rfl, ?_⟩)))))
      show ((r + 1 : Nat) : Int) + 180 ≤ 180 * e + 155 + 1
      omega
  · have hd : c.drv = 49 := by unfold Cl.drv; rw [if_neg (by omega), if_neg (by omega), if_neg (by omega)]
    refine sim (c.delim1 false) ?_ ?_
    · rw [ob (by omega), hd]
      unfold Cl.samp
      rw [if_neg (by omega), if_neg (by omega), if_neg (by omega), if_neg (by omega), if_neg (by omega), if_pos h1]
      rfl
    · unfold Cl.delim1
      rw [if_neg (by decide)]
      split
      · refine bad_st h rfl rfl rfl rfl rfl rfl (.inr (.inr (.inr (.inr (.inr (.inl ⟨rfl, ?_⟩))))))
        show ((r + 1 : Nat) : Int) + 180 ≤ 180 * e + 163 + 0
        omega
      · refine bad_st h rfl rfl rfl rfl rfl rfl (.inr (.inr (.inr (.inr (.inl ⟨h1, ?_⟩)))))
        show ((r + 1 : Nat) : Int) + 180 ≤ 180 * e + 155 + (c.n + 1)
        omega
  · have hd : c.drv = 49 := by unfold Cl.drv; rw [if_neg (by omega), if_neg (by omega), if_neg (by omega)]
    refine sim c.gap1 ?_ ?_
    · rw [ob (by omega), hd]
      unfold Cl.samp
      rw [if_neg (by omega), if_neg (by omega), if_neg (by omega), if_neg (by omega), if_neg (by omega), if_neg (by omega), if_pos h1, if_neg (by decide)]
    · unfold Cl.gap1
      split
      · split
        · refine bad_st h rfl rfl rfl rfl rfl rfl (.inr (.inr (.inr (.inr (.inr (.inr ⟨rfl, ?_⟩))))))
          show ((r + 1 : Nat) : Int) + 180 ≤ 180 * e + 166 + 0
          omega
        · exact bad_st h rfl rfl rfl rfl rfl rfl (.inl ⟨rfl, by omega⟩)
      · refine bad_st h rfl rfl rfl rfl rfl rfl (.inr (.inr (.inr (.inr (.inr (.inl ⟨h1, ?_⟩))))))
        show ((r + 1 : Nat) : Int) + 180 ≤ 180 * e + 163 + (c.n + 1)
        omega
  · have hd : c.drv = 49 := by unfold Cl.drv; rw [if_neg (by omega), if_neg (by omega), if_neg (by omega)]
    refine sim c.hold1 ?_ ?_
    · rw [ob (by omega), hd]
      unfold Cl.samp
      rw [if_neg (by omega), if_neg (by omega), if_neg (by omega), if_neg (by omega), if_neg (by omega), if_neg (by omega), if_neg (by omega), if_pos h1, if_neg (by decide)]
    · unfold Cl.hold1
      split
      · exact bad_st h rfl rfl rfl rfl rfl rfl (.inl ⟨rfl, by omega⟩)
      · refine bad_st h rfl rfl rfl rfl rfl rfl (.inr (.inr (.inr (.inr (.inr (.inr ⟨h1, ?_⟩))))))
        show ((r + 1 : Nat) : Int) + 180 ≤ 180 * e + 166 + (c.n + 1)
        omega
theorem bad_zero {f : Fr} (a : Bool) : Bad f a (idleC.give f) 0 0 := by
  refine ⟨rfl, rfl, rfl, rfl, rfl, ?_, fun _ => by omega, .inl ⟨rfl, by omega⟩⟩
  cases a <;> rfl

/-- Off: recessive bits go by. -/
def rstC (c : Cl) (k : Nat) : Cl := if k < 1408 then offC c k else ({ offC c 0 with off := false, rs := 0 } : Cl).to 1
theorem rst_step (c : Cl) {k : Nat} (hk : k < 1408) : (rstC c k).drv = 49 ∧ (rstC c k).samp 49 = ev0 (rstC c (k + 1)) ∧ (rstC c k).st = 8 := by
  have e0 : rstC c k = offC c k := if_pos hk
  rw [e0]
  refine ⟨rfl, ?_, rfl⟩
  have es : (offC c k).samp 49 = ev0 (offC c k).off1 := rfl
  rw [es]
  congr 1
  unfold Cl.off1
  by_cases h10 : k % 11 = 10
  · rw [if_pos (by show ((k % 11 : Nat) : Int) = 10; omega)]
    have hr : (({ offC c k with n := 0 } : Cl).rest 7) = { offC c k with n := 0, off := !((((128 - k / 11 : Nat) : Int) - 1) == 0), rs := ((128 - k / 11 : Nat) : Int) - 1 } := rfl
    rw [hr]
    by_cases hz : k + 1 = 1408
    · have e1 : rstC c (k + 1) = ({ offC c 0 with off := false, rs := 0 } : Cl).to 1 := if_neg (by omega)
      have e2 : ((128 - k / 11 : Nat) : Int) - 1 = 0 := by omega
      rw [e1, e2]
      rfl
    · have e1 : rstC c (k + 1) = offC c (k + 1) := if_pos (by omega)
      have e2 : ((((128 - k / 11 : Nat) : Int) - 1) == 0) = false := by rw [beq_eq_false_iff_ne]; omega
      have e3 : ((128 - k / 11 : Nat) : Int) - 1 = ((128 - (k + 1) / 11 : Nat) : Int) := by omega
      have e4 : ((k + 1) % 11 : Nat) = 0 := by omega
      rw [e1, e2, e3]
      unfold offC
      rw [e4]
      rfl
  · rw [if_neg (by show ¬ ((k % 11 : Nat) : Int) = 10; omega)]
    have e1 : rstC c (k + 1) = offC c (k + 1) := if_pos (by omega)
    have e2 : ((k + 1) % 11 : Nat) = k % 11 + 1 := by omega
    have e3 : (k + 1) / 11 = k / 11 := by omega
    rw [e1]
    unfold offC
    rw [e2, e3]
    dsimp only
    congr 1
theorem rst_ok {c : Cl} (h : c.Ok) (he : c = offC c 0) : ∀ k, k ≤ 1408 → (rstC c k).Ok
  | 0, _ => by rw [show rstC c 0 = offC c 0 from if_pos (by decide), ← he]; exact h
  | k + 1, hk => by
    have := (rst_ok h he k (by omega)).samp 49 (.inr rfl)
    rw [(rst_step c (by omega)).2.1] at this
    exact this
end Go.Proofs.YthkilodnghiocaaGreatDoor
