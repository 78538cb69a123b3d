/- Plain: what stuffing makes of a row, bit by bit, and back. -/
import Derived.Test.YtpfbobcilphncaaDoorMgIfP
import Derived.Test.YtpfbobcilphncaaDoorCsCP
import Derived.Test.YtpfbobcilphncaaDoorMgRdF
import Derived.Test.YtpfbobcilphncaaDoorMgRdR
namespace Go.Proofs.YtpfbobcilphncaaDoor.FP

/-- Bits without an error of stuffing, and what is known behind them. -/
structure Rst (x : List UInt8) (r : RS) : Prop where
  n5 : r.n ≤ 5
  bit : r.n = 0 ∨ r.last = 48 ∨ r.last = 49
  low : r.n < 5 → (stuffS r.got).out = x ∧ (stuffS r.got).last = r.last ∧ (stuffS r.got).n = r.n
  five : r.n = 5 → (stuffS r.got).out = x ++ [oth r.last] ∧ (stuffS r.got).last = oth r.last ∧ (stuffS r.got).n = 1
theorem Rst.nil : Rst [] rs0 := ⟨by decide, .inl rfl, fun _ => ⟨rfl, rfl, rfl⟩, fun h => absurd h (by decide)⟩
theorem oth_unlike {a b : UInt8} (ha : a = 48 ∨ a = 49) (hb : b = 48 ∨ b = 49) (h : b ≠ a) : oth a = b := by
  rcases ha with rfl | rfl <;> rcases hb with rfl | rfl <;> first | exact absurd rfl h | decide
theorem Rst.step {x : List UInt8} {r : RS} (h : Rst x r) {b : UInt8} (hb : b = 48 ∨ b = 49) (he : uK r.last r.n b ≠ 3) : Rst (x ++ [b]) (rsStep r b) := by
  by_cases hn : r.n = 5
  · have hne : b ≠ r.last := by
      intro e
      unfold uK at he
      rw [if_pos hn, if_pos e] at he
      exact he rfl
    have hl : r.last = 48 ∨ r.last = 49 := by
      rcases h.bit with h | h | h
      · omega
      · exact .inl h
      · exact .inr h
    have ho := oth_unlike hl hb hne
    have e : rsStep r b = ⟨b, 1, r.got⟩ := by
      unfold rsStep uN uK
      rw [if_pos hn, if_neg hne, if_pos hn, if_neg hne]
      rfl
    rw [e]
    obtain ⟨h1, h2, h3⟩ := h.five hn
    rw [ho] at h1 h2
    exact ⟨(by decide : 1 ≤ 5), .inr hb, fun _ => ⟨h1, h2, h3⟩, fun e => absurd e (by decide : ¬ (1 : Nat) = 5)⟩
  · have hlt : r.n < 5 := by have := h.n5; omega
    obtain ⟨u1, u2⟩ := uN_less (last := r.last) hlt b
    have e : rsStep r b = ⟨b, if b = r.last then r.n + 1 else 1, r.got ++ [b]⟩ := by
      unfold rsStep
      rw [u1, u2, if_pos rfl]
    obtain ⟨h1, h2, h3⟩ := h.low hlt
    have hs : ssN (stuffS r.got) b = if b = r.last then r.n + 1 else 1 := by unfold ssN; rw [h2, h3]
    rw [e]
    by_cases h5 : (if b = r.last then r.n + 1 else 1) = 5
    · obtain ⟨s1, s2, s3, _⟩ := ssStep_five (s := stuffS r.got) (c := b) (by rw [hs]; exact h5)
      refine ⟨by show (if b = r.last then r.n + 1 else 1) ≤ 5; omega, .inr hb, fun q => absurd q (by show ¬ (if b = r.last then r.n + 1 else 1) < 5; omega), fun _ => ?_⟩
      show (stuffS (r.got ++ [b])).out = x ++ [b] ++ [oth b] ∧ (stuffS (r.got ++ [b])).last = oth b ∧ (stuffS (r.got ++ [b])).n = 1
      rw [stuffS_snoc, s3, h1]
      exact ⟨rfl, s1, s2⟩
    · obtain ⟨s1, s2, s3, _⟩ := ssStep_less (s := stuffS r.got) (c := b) (by rw [hs]; exact h5)
      refine ⟨by show (if b = r.last then r.n + 1 else 1) ≤ 5; split <;> omega, .inr hb, fun _ => ?_, fun q => absurd q h5⟩
      show (stuffS (r.got ++ [b])).out = x ++ [b] ∧ (stuffS (r.got ++ [b])).last = b ∧ (stuffS (r.got ++ [b])).n = (if b = r.last then r.n + 1 else 1)
      rw [stuffS_snoc, s3, h1]
      exact ⟨rfl, s1, by rw [s2, hs]⟩
theorem Rst.body {x : List UInt8} {r : RS} (h : Rst x r) (hn : r.n < 5) : x = stuffF r.got := (h.low hn).1.symm
theorem Rst.one : Rst [48] ⟨48, 1, [48]⟩ := Rst.step Rst.nil (.inl rfl) (by decide)

/-- What is known behind a row that was stuffed. -/
theorem rs_of_stuff_rev : ∀ q p : List UInt8, p = q.reverse → (∀ c ∈ p, c = 48 ∨ c = 49) → rsOf (stuffS p).out = ⟨(stuffS p).last, (stuffS p).n, p⟩ ∧ (stuffS p).n < 5 := by
  intro q
  induction q with
  | nil => intro p hp _; rw [hp]; exact ⟨rfl, by decide⟩
  | cons c q ih =>
    intro p' hp hb
    rw [List.reverse_cons] at hp
    subst hp
    generalize hq : q.reverse = p at *
    have ih := ih p rfl
    obtain ⟨h1, h2⟩ := ih (fun d hd => hb d (by simp [hd]))
    clear ih
    have hc : c = 48 ∨ c = 49 := hb c (by simp)
    obtain ⟨u1, u2⟩ := uN_less (last := (stuffS p).last) h2 c
    have e : rsStep ⟨(stuffS p).last, (stuffS p).n, p⟩ c = ⟨c, ssN (stuffS p) c, p ++ [c]⟩ := by
      unfold rsStep
      rw [u1, u2, if_pos rfl]
      rfl
    rw [stuffS_snoc]
    by_cases h5 : ssN (stuffS p) c = 5
    · obtain ⟨s1, s2, s3, _⟩ := ssStep_five (s := stuffS p) (c := c) h5
      rw [s1, s2, s3, rsOf_snoc, rsOf_snoc, h1, e, h5]
      obtain ⟨v1, v2⟩ := uN_five hc
      refine ⟨?_, by decide⟩
      unfold rsStep
      rw [v1, v2, if_neg (by decide)]
    · obtain ⟨s1, s2, s3, _⟩ := ssStep_less (s := stuffS p) (c := c) h5
      rw [s1, s2, s3, rsOf_snoc, h1, e]
      refine ⟨rfl, ?_⟩
      exact ite_lt5 h2 h5
theorem rs_of_stuff (p : List UInt8) (h : ∀ c ∈ p, c = 48 ∨ c = 49) : rsOf (stuffS p).out = ⟨(stuffS p).last, (stuffS p).n, p⟩ ∧ (stuffS p).n < 5 :=
  rs_of_stuff_rev p.reverse p (by simp) h
/-- A row is stuffed bit by bit. -/
theorem stuff_split (p : List UInt8) (c : UInt8) (m : List UInt8) : ∃ t, stuffF (p ++ c :: m) = (stuffS p).out ++ c :: t := by
  have h : stuffF (p ++ c :: m) = (m.foldl ssStep (ssStep (stuffS p) c)).out := by
    unfold stuffF stuffS
    rw [List.foldl_append, List.foldl_cons]
  rw [h, stuff_tl]
  by_cases h5 : ssN (stuffS p) c = 5
  · obtain ⟨s1, s2, s3, _⟩ := ssStep_five (s := stuffS p) (c := c) h5
    rw [s3]
    exact ⟨oth c :: tlF (ssStep (stuffS p) c).last (ssStep (stuffS p) c).n m, by simp⟩
  · obtain ⟨s1, s2, s3, _⟩ := ssStep_less (s := stuffS p) (c := c) h5
    rw [s3]
    exact ⟨tlF (ssStep (stuffS p) c).last (ssStep (stuffS p) c).n m, by simp⟩
/-- A row that is a frame's, with its sum. -/
theorem good_only {l : List UInt8} (hb : ∀ c ∈ l, c = 48 ∨ c = 49) (hg : goodB l = true) : l = sumF (headF (readV (headOf l))) ∧ rightB (readV (headOf l)) = true := by
  unfold goodB at hg
  rw [Bool.and_eq_true, Bool.and_eq_true, decide_eq_true_eq, decide_eq_true_eq] at hg
  obtain ⟨⟨h15, hc⟩, hr⟩ := hg
  have h1 := (crc_law h15 hb).1 hc
  rw [(read_yes hr).1]
  unfold readB at hr
  rw [Bool.and_eq_true, Bool.and_eq_true, decide_eq_true_eq] at hr
  exact ⟨by rw [hr.2.2]; exact h1.symm, hr.2.1⟩
end Go.Proofs.YtpfbobcilphncaaDoor.FP

/- Plain: whatever bits come to a controller with nothing to send: what is VCame stands among them, and stands there since a frame could begin. -/
namespace Go.Proofs.YtpfbobcilphncaaDoor
open Go.ChangeShapes Go.WideShapes Go.ChangeAt Go.RowKit
open FP (Fr uN uK doneB sizeE sizeV readV headOf headF sumF bitsF bodyF RS rsStep rs0 rsOf goodB Rst stuffF)

/-- In a frame since a place p. -/
structure Since (l : List UInt8) (i : Nat) (c : Cl) (p : Nat) (x : List UInt8) : Prop where
  here : (l.drop p).take x.length = x
  at_ : ((p + x.length : Nat) : Int) + c.tail = (i : Int)
  one : 1 ≤ x.length
  st : Rst x ⟨c.L, c.N, c.g⟩
/-- Behind i bits; a frame may have begun at once, or behind thirteen of them. -/
structure Lone (l : List UInt8) (i : Nat) (c : Cl) : Prop where
  sends : c.sends = false
  has : c.has = false
  fr : c.st = 2 → ∃ p x, (p = 0 ∨ 13 ≤ p) ∧ Since l i c p x
  lt : c.st ≠ 2 → (c.st = 3 ∧ 1 + c.n ≤ i) ∨ (c.st = 4 ∧ 7 ≤ i) ∨ (c.st = 5 ∧ 7 + c.n ≤ i) ∨ (c.st = 6 ∧ 13 ≤ i) ∨ (c.st = 7 ∧ 13 ≤ i) ∨ (c.st = 1 ∧ (i = 0 ∨ 13 ≤ i)) ∨ (c.st = 8 ∧ 2 + c.n ≤ i)

theorem fail_low {d : Cl} (hh : d.has = false) (bad : Int) : (d.fail bad).sends = false ∧ (d.fail bad).has = false ∧ ((d.fail bad).st = 3 ∨ (d.fail bad).st = 8) ∧ (d.fail bad).n = 0 := by
  have h : (d.failC bad).has = false := by
    unfold Cl.failC
    split
    · exact hh
    · exact (count_rest (c := { d with was := d.sends }) _).2.2.1.trans hh
  unfold Cl.fail Cl.failS
  split
  · exact ⟨rfl, h, .inr rfl, rfl⟩
  · exact ⟨rfl, h, .inl rfl, rfl⟩
theorem lone_fail {l : List UInt8} {i : Nat} {d : Cl} (hh : d.has = false) (bad : Int) (hi : 1 ≤ i) : Lone l (i + 1) (d.fail bad) := by
  obtain ⟨h1, h2, h3, h4⟩ := fail_low hh bad
  refine ⟨h1, h2, fun e => ?_, fun _ => ?_⟩
  · rcases h3 with h | h <;> rw [h] at e <;> cases e
  · rw [h4]
    rcases h3 with h | h
    · exact .inl ⟨h, by omega⟩
    · exact .inr (.inr (.inr (.inr (.inr (.inr ⟨h, by omega⟩)))))
/-- A frame begins. -/
theorem lone_begin {l : List UInt8} {i : Nat} {c : Cl} (hh : c.has = false) (hi : i = 0 ∨ 13 ≤ i) (hb : l[i]? = some 48) : Lone l (i + 1) c.begin0 := by
  refine ⟨rfl, hh, fun _ => ⟨i, [48], hi, ?_, ?_, by decide, Rst.one⟩, fun e => absurd rfl e⟩
  · have h := List.getElem?_drop (xs := l) (i := i) (j := 0)
    rw [Nat.add_zero, hb] at h
    show (l.drop i).take 1 = [48]
    rw [List.take_add_one, h]
    rfl
  · show ((i + 1 : Nat) : Int) + 0 = ((i + 1 : Nat) : Int)
    omega
theorem take_more {l x : List UInt8} {p i : Nat} {b : UInt8} (h : (l.drop p).take x.length = x) (hi : p + x.length = i) (hb : l[i]? = some b) : (l.drop p).take (x ++ [b]).length = x ++ [b] := by
  rw [List.length_append, List.length_singleton, List.take_add_one, h, List.getElem?_drop, hi, hb]
  rfl
/-- What is VCame. -/
def CameP (l : List UInt8) (i : Nat) (f : Fr) : Prop := ∃ p, (p = 0 ∨ 13 ≤ p) ∧ (l.drop p).take (bodyF f).length = bodyF f ∧ p + (bodyF f).length + 8 = i ∧ FP.rightB f = true

theorem lone_body {l : List UInt8} {i : Nat} {c : Cl} (h : Lone l i c) (hk : c.Ok) (hst : c.st = 2) (he : c.en = false) {b : UInt8} (hb : b = 48 ∨ b = 49) (hl : l[i]? = some b) :
    Lone l (i + 1) (c.body b).c ∧ (c.body b).kind ≠ 2 := by
  obtain ⟨p, x, hp, S⟩ := h.fr hst
  have hi := hk.inn hst
  have ht : c.tail = 0 := hi.tn he
  have hat := S.at_
  rw [ht] at hat
  have h1 := S.one
  unfold Cl.body
  rw [if_neg (by rw [h.sends]; exact fun q => by cases q.1)]
  unfold Cl.take
  by_cases h3 : uK c.L c.N b = 3
  · rw [if_pos h3]
    exact ⟨lone_fail (d := c.tk b) h.has 10 (by omega), (by show ¬ (3 : Int) = 2; decide)⟩
  · rw [if_neg h3]
    by_cases hf : uK c.L c.N b = 1 ∧ sizeE (c.tk b).g = 12
    · rw [if_pos hf]
      exact ⟨lone_fail (d := c.tk b) h.has 12 (by omega), (by show ¬ (3 : Int) = 2; decide)⟩
    · rw [if_neg hf]
      refine ⟨?_, (by show ¬ (0 : Int) = 2; decide)⟩
      show Lone l (i + 1) (c.tk b).adv.whole
      have hgo : c.good = false := by rw [hi.good, he]; rfl
      obtain ⟨q1, q2, q3, q4, q5, q6, q7, q8, q9, q10, q11, q12⟩ := adv_same (c.tk b)
      obtain ⟨p1, p2, p3, p4, p5, p6⟩ := adv_base (c.tk b)
      have hW := whole_eq (c := (c.tk b).adv) (by rw [q1]; exact he) (by rw [q2]; exact hgo)
      have hst' : (c.tk b).adv.whole.st = 2 := by rw [hW]; exact p5.trans hst
      refine ⟨by rw [hW]; exact q6.trans h.sends, by rw [hW]; exact q7.trans h.has, fun _ => ⟨p, x ++ [b], hp, take_more S.here (by omega) hl, ?_, by simp, ?_⟩, fun e => absurd hst' e⟩
      · rw [hW]
        show ((p + (x ++ [b]).length : Nat) : Int) + (c.tk b).adv.tail = ((i + 1 : Nat) : Int)
        rw [q10, List.length_append, List.length_singleton]
        show ((p + (x.length + 1) : Nat) : Int) + c.tail = ((i + 1 : Nat) : Int)
        omega
      · have e : (⟨(c.tk b).adv.whole.L, (c.tk b).adv.whole.N, (c.tk b).adv.whole.g⟩ : RS) = rsStep ⟨c.L, c.N, c.g⟩ b := by
          rw [hW]
          show (⟨(c.tk b).adv.L, (c.tk b).adv.N, (c.tk b).adv.g⟩ : RS) = _
          rw [q3, q4, q5]
          exact tk_rs c b
        rw [e]
        exact S.st.step hb h3

theorem since_on {l : List UInt8} {i : Nat} {c d : Cl} {p : Nat} {x : List UInt8} (S : Since l i c p x) (ht : d.tail = c.tail + 1) (hL : d.L = c.L) (hN : d.N = c.N) (hg : d.g = c.g) : Since l (i + 1) d p x :=
  ⟨S.here, by have := S.at_; rw [ht]; omega, S.one, by rw [hL, hN, hg]; exact S.st⟩
theorem count_keeps (c : Cl) (what : Int) : (c.count what).tail = c.tail ∧ (c.count what).L = c.L ∧ (c.count what).N = c.N ∧ (c.count what).g = c.g ∧ (c.count what).st = c.st := by
  unfold Cl.count
  split <;> exact ⟨rfl, rfl, rfl, rfl, rfl⟩

theorem lone_behind {l : List UInt8} {i : Nat} {c : Cl} (h : Lone l i c) (hk : c.Ok) (hst : c.st = 2) (he : c.en = true) {b : UInt8} :
    Lone l (i + 1) (c.behind b).c ∧ ((c.behind b).kind = 2 → CameP l i (c.behind b).ef) := by
  obtain ⟨p, x, hp, S⟩ := h.fr hst
  have hi := hk.inn hst
  have hat := S.at_
  have h1 := S.one
  have ht0 := hi.t0
  have hs := h.sends
  have hd : doneB c.g c.N = true := by rw [← hi.en]; exact he
  have hN : c.N < 5 := by
    unfold doneB at hd
    rw [Bool.and_eq_true, Bool.and_eq_true, decide_eq_true_eq] at hd
    exact of_decide_eq_true hd.2.2
  have hx : x = stuffF c.g := S.st.body hN
  have hlen : 34 ≤ x.length := by
    have h2 := (FP.stuff_len c.g hi.bits).1
    unfold doneB at hd
    rw [Bool.and_eq_true, Bool.and_eq_true, decide_eq_true_eq, decide_eq_true_eq] at hd
    have h3 := (FP.sizeV_ge hd.1).1
    have h4 := FP.fxN_or c.g
    have h5 : x.length = (stuffF c.g).length := by rw [← hx]
    omega
  unfold Cl.behind
  split
  · exact ⟨lone_fail h.has 14 (by omega), fun e => absurd e (by show ¬ (3 : Int) = 2; decide)⟩
  · split
    · exact ⟨lone_fail h.has 12 (by omega), fun e => absurd e (by show ¬ (3 : Int) = 2; decide)⟩
    · split
      · exact ⟨lone_fail h.has 11 (by omega), fun e => absurd e (by show ¬ (3 : Int) = 2; decide)⟩
      · split
        · unfold Cl.ends
          split
          · refine ⟨⟨rfl, h.has, (fun e => by cases e), fun _ => .inl ⟨rfl, ?_⟩⟩, fun e => absurd e (by show ¬ (0 : Int) = 2; decide)⟩
            show (1 : Int) + 0 ≤ ((i + 1 : Nat) : Int)
            omega
          · rw [if_neg (by rw [hs]; decide)]
            exact ⟨⟨rfl, h.has, (fun e => by cases e), fun _ => .inr (.inr (.inr (.inl ⟨rfl, by omega⟩)))⟩, fun e => absurd e (by show ¬ (0 : Int) = 2; decide)⟩
        · split
          · rename_i h8
            obtain ⟨k1, k2, k3, k4, k5⟩ := count_keeps c 2
            obtain ⟨r1, r2, r3, r4⟩ := count_rest (c := c) 2
            refine ⟨⟨r1.trans hs, r3.trans h.has, fun _ => ⟨p, x, hp, since_on S (d := (c.count 2).on) ?_ k2 k3 k4⟩, fun e => absurd (k5.trans hst) e⟩, fun _ => ?_⟩
            · show (c.count 2).tail + 1 = c.tail + 1
              rw [k1]
            · have hg : goodB c.g = true := by
                have := hi.gd hs (by omega)
                rw [hi.good, Bool.and_eq_true] at this
                exact this.2
              obtain ⟨g1, g2⟩ := FP.good_only hi.bits hg
              show CameP l i (readV (headOf c.g))
              have hxb : x = bodyF (readV (headOf c.g)) := by
                rw [hx]
                unfold bodyF
                rw [← g1]
              refine ⟨p, hp, ?_, ?_, g2⟩
              · rw [← hxb]; exact S.here
              · rw [← hxb]; omega
          · refine ⟨⟨hs, h.has, fun _ => ⟨p, x, hp, since_on S (d := c.on) rfl rfl rfl rfl⟩, fun e => absurd hst e⟩, fun e => absurd e (by show ¬ (0 : Int) = 2; decide)⟩

theorem lone_low {l : List UInt8} {i : Nat} {c : Cl} (h1 : c.sends = false) (h2 : c.has = false) (h3 : c.st ≠ 2) (h4 : (c.st = 3 ∧ 1 + c.n ≤ i) ∨ (c.st = 4 ∧ 7 ≤ i) ∨ (c.st = 5 ∧ 7 + c.n ≤ i) ∨ (c.st = 6 ∧ 13 ≤ i) ∨ (c.st = 7 ∧ 13 ≤ i) ∨ (c.st = 1 ∧ (i = 0 ∨ 13 ≤ i)) ∨ (c.st = 8 ∧ 2 + c.n ≤ i)) : Lone l i c := ⟨h1, h2, fun e => absurd e h3, fun _ => h4⟩
theorem echoC_keeps (c : Cl) : c.echoN.echoC.sends = c.sends ∧ c.echoN.echoC.has = c.has ∧ c.echoN.echoC.st = c.st := by
  unfold Cl.echoC
  split
  · obtain ⟨r1, r2, r3, r4⟩ := count_rest (c := c.echoN) 6
    obtain ⟨k1, k2, k3, k4, k5⟩ := count_keeps c.echoN 6
    exact ⟨r1, r3, k5⟩
  · split
    · obtain ⟨r1, r2, r3, r4⟩ := count_rest (c := c.echoN) (if c.echoN.was = true then 5 else 6)
      obtain ⟨k1, k2, k3, k4, k5⟩ := count_keeps c.echoN (if c.echoN.was = true then 5 else 6)
      exact ⟨r1, r3, k5⟩
    · exact ⟨rfl, rfl, rfl⟩
/-- A bit more. -/
theorem lone_step {l : List UInt8} {i : Nat} {c : Cl} (h0 : l[0]? = some 48) (h : Lone l i c) (hk : c.Ok) {b : UInt8} (hb : b = 48 ∨ b = 49) (hl : l[i]? = some b) :
    Lone l (i + 1) (c.samp b).c ∧ ((c.samp b).kind = 2 → CameP l i (c.samp b).ef) := by
  have no : ∀ d : Cl, Lone l (i + 1) d → Lone l (i + 1) (ev0 d).c ∧ ((ev0 d).kind = 2 → CameP l i (ev0 d).ef) := fun d hd => ⟨hd, fun e => absurd e (by show ¬ (0 : Int) = 2; decide)⟩
  have hs := h.sends
  have hh := h.has
  have hn0 := hk.n0
  unfold Cl.samp
  by_cases e2 : c.st = 2
  · rw [if_neg (by omega), if_neg (by omega), if_pos e2]
    unfold Cl.frame
    split
    · exact lone_behind h hk e2 (by assumption)
    · rename_i he
      have := lone_body h hk e2 (by simpa using he) hb hl
      exact ⟨this.1, fun e => absurd e this.2⟩
  · have lt := h.lt e2
    rw [if_neg (by omega)]
    by_cases e1 : c.st = 1
    · rw [if_pos e1]
      have hi : i = 0 ∨ 13 ≤ i := by omega
      refine no _ ?_
      split
      · rename_i hb48
        rw [if_neg (by rw [hh]; decide)]
        exact lone_begin hh hi (by rw [hl, hb48])
      · rename_i hb48
        refine lone_low hs hh e2 (.inr (.inr (.inr (.inr (.inr (.inl ⟨e1, ?_⟩))))))
        rcases hi with hi | hi
        · rw [hi, h0] at hl
          exact absurd (Option.some.inj hl).symm hb48
        · omega
    · rw [if_neg e1, if_neg e2]
      by_cases e3 : c.st = 3
      · rw [if_pos e3]
        refine no _ ?_
        unfold Cl.flag1
        split
        · exact lone_low rfl hh (by show ¬ (4 : Int) = 2; decide) (.inr (.inl ⟨rfl, by omega⟩))
        · refine lone_low hs hh e2 (.inl ⟨e3, ?_⟩)
          show 1 + (c.n + 1) ≤ ((i + 1 : Nat) : Int)
          omega
      · rw [if_neg e3]
        by_cases e4 : c.st = 4
        · rw [if_pos e4]
          refine no _ ?_
          split
          · obtain ⟨k1, k2, k3⟩ := echoC_keeps c
            unfold Cl.echo0
            split
            · refine lone_low rfl (k2.trans hh) (by show ¬ (8 : Int) = 2; decide) (.inr (.inr (.inr (.inr (.inr (.inr ⟨rfl, ?_⟩))))))
              show (2 : Int) + 0 ≤ ((i + 1 : Nat) : Int)
              omega
            · exact lone_low (k1.trans hs) (k2.trans hh) (by rw [k3]; exact e2) (.inr (.inl ⟨k3.trans e4, by omega⟩))
          · refine lone_low rfl hh (by show ¬ (5 : Int) = 2; decide) (.inr (.inr (.inl ⟨rfl, ?_⟩)))
            show (7 : Int) + 1 ≤ ((i + 1 : Nat) : Int)
            omega
        · rw [if_neg e4]
          by_cases e5 : c.st = 5
          · rw [if_pos e5]
            refine no _ ?_
            unfold Cl.delim1
            split
            · refine lone_low rfl hh (by show ¬ (3 : Int) = 2; decide) (.inl ⟨rfl, ?_⟩)
              show (1 : Int) + 0 ≤ ((i + 1 : Nat) : Int)
              omega
            · split
              · exact lone_low rfl hh (by show ¬ (6 : Int) = 2; decide) (.inr (.inr (.inr (.inl ⟨rfl, by omega⟩))))
              · refine lone_low hs hh e2 (.inr (.inr (.inl ⟨e5, ?_⟩)))
                show 7 + (c.n + 1) ≤ ((i + 1 : Nat) : Int)
                omega
          · rw [if_neg e5]
            by_cases e6 : c.st = 6
            · rw [if_pos e6]
              refine no _ ?_
              split
              · rename_i hb48
                split
                · exact lone_begin hh (by omega) (by rw [hl, hb48])
                · refine lone_low rfl hh (by show ¬ (3 : Int) = 2; decide) (.inl ⟨rfl, ?_⟩)
                  show (1 : Int) + 0 ≤ ((i + 1 : Nat) : Int)
                  omega
              · unfold Cl.gap1
                split
                · split
                  · exact lone_low rfl hh (by show ¬ (7 : Int) = 2; decide) (.inr (.inr (.inr (.inr (.inl ⟨rfl, by omega⟩)))))
                  · exact lone_low rfl hh (by show ¬ (1 : Int) = 2; decide) (.inr (.inr (.inr (.inr (.inr (.inl ⟨rfl, by omega⟩))))))
                · exact lone_low hs hh e2 (.inr (.inr (.inr (.inl ⟨e6, by omega⟩))))
            · rw [if_neg e6]
              by_cases e7 : c.st = 7
              · rw [if_pos e7]
                refine no _ ?_
                split
                · rename_i hb48
                  exact lone_begin hh (by omega) (by rw [hl, hb48])
                · unfold Cl.hold1
                  split
                  · exact lone_low rfl hh (by show ¬ (1 : Int) = 2; decide) (.inr (.inr (.inr (.inr (.inr (.inl ⟨rfl, by omega⟩))))))
                  · exact lone_low hs hh e2 (.inr (.inr (.inr (.inr (.inl ⟨e7, by omega⟩)))))
              · rw [if_neg e7]
                have e8 : c.st = 8 := by omega
                refine no _ ?_
                split
                · refine lone_low hs hh e2 (.inr (.inr (.inr (.inr (.inr (.inr ⟨e8, ?_⟩))))))
                  show (2 : Int) + 0 ≤ ((i + 1 : Nat) : Int)
                  omega
                · unfold Cl.off1
                  split
                  · unfold Cl.offIdle
                    split
                    · refine lone_low hs hh e2 (.inr (.inr (.inr (.inr (.inr (.inr ⟨e8, ?_⟩))))))
                      show (2 : Int) + 0 ≤ ((i + 1 : Nat) : Int)
                      omega
                    · exact lone_low rfl hh (by show ¬ (1 : Int) = 2; decide) (.inr (.inr (.inr (.inr (.inr (.inl ⟨rfl, by omega⟩))))))
                  · refine lone_low hs hh e2 (.inr (.inr (.inr (.inr (.inr (.inr ⟨e8, ?_⟩))))))
                    show 2 + (c.n + 1) ≤ ((i + 1 : Nat) : Int)
                    omega
theorem lone_zero (l : List UInt8) : Lone l 0 idleC := lone_low rfl rfl (by decide) (.inr (.inr (.inr (.inr (.inr (.inl ⟨rfl, .inl rfl⟩))))))

/-- The bits on the bus: one of a frame's stuffed ones is turned. -/
def trnF (f : Fr) (a : Nat) : List UInt8 := FP.turnF (toldF f) a ++ List.replicate 11 49
theorem trn_len (f : Fr) (a : Nat) (ha : a < (bodyF f).length) : (trnF f a).length = (bodyF f).length + 21 := by
  have h := told_len f
  have hl := FP.body_len f
  unfold trnF
  rw [List.length_append, FP.turn_len (by omega), List.length_replicate]
  omega
theorem told_bits (f : Fr) : ∀ c ∈ toldF f, c = 48 ∨ c = 49 := by
  intro c hc
  unfold toldF at hc
  rw [List.mem_append, List.mem_cons] at hc
  rcases hc with hc | rfl | hc
  · exact FP.bits_bits f c (List.mem_of_mem_take hc)
  · exact .inl rfl
  · exact FP.bits_bits f c (List.mem_of_mem_drop hc)
theorem trn_bits (f : Fr) (a : Nat) : ∀ c ∈ trnF f a, c = 48 ∨ c = 49 := by
  intro c hc
  unfold trnF at hc
  rw [List.mem_append] at hc
  rcases hc with hc | hc
  · exact FP.turn_bits (told_bits f) c hc
  · exact .inr (List.eq_of_mem_replicate hc)
theorem told_body (f : Fr) {i : Nat} (hi : i < (bodyF f).length) : (toldF f)[i]? = (bodyF f)[i]? := by
  have hl := FP.body_len f
  have hg : (bitsF f)[i]? = some (bitsF f)[i] := List.getElem?_eq_getElem (by omega)
  rw [told_at f hg, ← FP.body_get f i hi, hg]
  unfold busB
  rw [if_neg (by omega)]
theorem trn_zero (f : Fr) {a : Nat} (h1 : 1 ≤ a) (ha : a < (bodyF f).length) : (trnF f a)[0]? = some 48 := by
  have h := told_len f
  have hl := FP.body_len f
  have hz : (toldF f)[0]? = some 48 := by rw [told_body f (by omega), ← FP.body_get f 0 (by omega), bits_zero]
  unfold trnF FP.turnF
  rw [List.append_assoc, List.getElem?_append_left (by rw [List.length_take]; omega), List.getElem?_take_of_lt (by omega)]
  exact hz
theorem trn_at (f : Fr) {a : Nat} (ha : a < (bodyF f).length) : (trnF f a)[a]? ≠ (bodyF f)[a]? := by
  have h := told_len f
  have hl := FP.body_len f
  unfold trnF
  rw [List.getElem?_append_left (by rw [FP.turn_len (by omega)]; omega), FP.turn_at (by omega), told_body f ha]
  have hg : (bodyF f)[a]? = some (bodyF f)[a] := List.getElem?_eq_getElem ha
  rw [hg]
  intro e
  split at e
  · rename_i h2
    rw [← e] at h2
    cases h2
  · rename_i h2
    rw [← e] at h2
    exact h2 rfl
/-- It never comes as that frame. -/
theorem trn_never {f : Fr} {a : Nat} (ha : a < (bodyF f).length) {i : Nat} (hi : i < (trnF f a).length) (h : CameP (trnF f a) i f) : False := by
  obtain ⟨p, hp, hx, hat, _⟩ := h
  rw [trn_len f a ha] at hi
  rcases hp with rfl | hp
  · rw [List.drop_zero] at hx
    have h1 : ((trnF f a).take (bodyF f).length)[a]? = (trnF f a)[a]? := List.getElem?_take_of_lt ha
    rw [hx] at h1
    exact trn_at f ha h1.symm
  · omega
end Go.Proofs.YtpfbobcilphncaaDoor

/- The walks of the reference's Turn and Right of rows. -/
namespace Go.Proofs.YtpfbobcilphncaaDoor
open Go.ChangeShapes Go.WideShapes Go.ChangeAt Go.RowKit
open FP (turnF)

theorem turn_str (s : ByteArray) (i k : Nat) (h : i < s.size) (hk : k = i + 1) (c : UInt8) (hc : (if s.data.toList[i]? = some 48 then (49 : UInt8) else 48) = c) :
    s.extract 0 i ++ ⟨#[c]⟩ ++ s.extract k s.size = ⟨(turnF s.data.toList i).toArray⟩ := by
  have LS : s.data.toList.length = s.size := Array.length_toList
  rw [ByteArray.ext_iff, ← Array.toList_inj]
  unfold turnF
  rw [hc, hk]
  simp only [ByteArray.data_append, Array.toList_append, toList_extract]
  rw [List.extract_eq_take_drop, List.extract_eq_take_drop, List.drop_zero, Nat.sub_zero, List.take_of_length_le (i := s.size - (i + 1)) (by rw [List.length_drop]; omega)]
  simp

set_option maxRecDepth 100000 in
set_option maxHeartbeats 1000000 in
theorem refTurn_any (s : ByteArray) (N : Int) (i : Nat) (w : World) (hN : N = i) (h : i < s.size) (hb : ∀ c ∈ s.data.toList, c = 48 ∨ c = 49) (hs : s.size ≤ 4000) :
    Calls Tryd.prog 22 #[.string s, .int .i64 N] w fun e w' => e = .returned (.string ⟨(turnF s.data.toList i).toArray⟩) ∧ Below w.heap.size w w' := by
  subst hN
  have hi' : (i : Int) < s.size := by omega
  obtain ⟨k, hk⟩ : ∃ k : Nat, (i : Int) + 1 = k := ⟨i + 1, by omega⟩
  have hki : k = i + 1 := by omega
  have hks : (k : Int) ≤ s.size := by omega
  have hkn : k ≤ s.size := by omega
  have g := get_some s i h
  have TS := hide (fun c hc => turn_str s i k h hki c hc)
  generalize turnF s.data.toList i = tl at *
  have LS : s.data.toList.length = s.size := Array.length_toList
  rcases hb _ (List.getElem_mem (l := s.data.toList) (n := i) (by omega)) with hc | hc
  · have hsi : s[i] = 48 := hc
    have e1 : ((s[i].toNat : Int) == 48) = true := by rw [hsi]; rfl
    have T := hide (TS.out 49 (by rw [g, hsi]; rfl))
    clear TS hc g hsi hki hb
    generalize hts : (⟨tl.toArray⟩ : ByteArray) = ts at *
    go_enter Tryd.func22, Tryd.ntmps22
    go_wp2_with fail
    refine wp_region_tame (by kernel_rfl) (by kernel_rfl) ?_
    repeat (go_big_quiet_step (fail))
    refine wpQuiet_nil ?_
    rintro _ ⟨sw, rfl⟩
    have q := sw.h
    go_wp2
    go_ret
    exact ⟨by rw [← T.out]; rfl, q⟩
  · have hsi : s[i] = 49 := hc
    have e1 : ((s[i].toNat : Int) == 48) = false := by rw [hsi]; rfl
    have T := hide (TS.out 48 (by rw [g, hsi]; rfl))
    clear TS hc g hsi hki hb
    generalize hts : (⟨tl.toArray⟩ : ByteArray) = ts at *
    go_enter Tryd.func22, Tryd.ntmps22
    go_wp2_with fail
    refine wp_region_tame (by kernel_rfl) (by kernel_rfl) ?_
    repeat (go_big_quiet_step (fail))
    refine wpQuiet_nil ?_
    rintro _ ⟨sw, rfl⟩
    have q := sw.h
    go_wp2
    go_ret
    exact ⟨by rw [← T.out]; rfl, q⟩

theorem bitRow_no {l : List UInt8} {j : Nat} {c : UInt8} (h : l[j]? = some c) (h0 : c ≠ 48) (h1 : c ≠ 49) : bitRow l = false := by
  have hm : c ∈ l := List.mem_of_getElem? h
  cases hb : bitRow l with
  | false => rfl
  | true => exact ((bitRow_iff.1 hb).2 c hm).elim (fun e => absurd e h0) (fun e => absurd e h1)

set_option maxRecDepth 100000 in
set_option maxHeartbeats 1000000 in
theorem refBits01_any (s : ByteArray) (w : World) (hs : s.size ≤ maxLen) :
    Calls Tryd.prog 17 #[.string s] w fun e w' => e = .returned (.bool (bitRow s.data.toList)) ∧ w = w' := by
  unfold maxLen at hs
  have LS := hide (show s.data.toList.length = s.size from Array.length_toList)
  have GS := hide (fun j (h : j < s.size) => get_some s j h)
  have NO := hide (fun j c h h0 h1 => bitRow_no (l := s.data.toList) (j := j) (c := c) h h0 h1)
  have YES := hide (fun (h : ∀ j, j < s.size → ∃ c, s.data.toList[j]? = some c ∧ (c = 48 ∨ c = 49)) => show bitRow s.data.toList = decide ((s.size : Int) ≤ 4000) from by
    have hall : ∀ c ∈ s.data.toList, c = 48 ∨ c = 49 := fun c hc => by
      obtain ⟨j, hj, rfl⟩ := List.getElem_of_mem hc
      obtain ⟨c, hc1, hc2⟩ := h j (by rw [← LS.out]; exact hj)
      rw [List.getElem?_eq_getElem hj, Option.some.injEq] at hc1
      rw [hc1]; exact hc2
    unfold bitRow
    rw [LS.out, List.all_eq_true.2 (fun c hc => by rcases hall c hc with rfl | rfl <;> rfl), Bool.and_true]
    congr 1
    rw [eq_iff_iff]; omega)
  generalize bitRow s.data.toList = br at *
  go_enter Tryd.func17, Tryd.ntmps17
  go_wp2
  go_loop [3] (fun vi => ∃ j : Nat, j ≤ s.size ∧ vi = .int .i64 j ∧ Hid (∀ k, k < j → ∃ c, s.data.toList[k]? = some c ∧ (c = 48 ∨ c = 49))) (fun vi => s.size - (intOf vi).toNat)
  case atStart => exact ⟨0, Nat.zero_le _, rfl, hide (fun k h => by omega)⟩
  case round =>
    obtain ⟨j, hj, rfl, H⟩ := hrel
    by_cases hlt : j < s.size
    · have hlt' : (j : Int) < s.size := by omega
      by_cases h8 : s[j] = 48
      · have e1 : ((s[j].toNat : Int) != 48) = false := by rw [h8]; rfl
        have H2 := hide (show ∀ k, k < j + 1 → ∃ c, s.data.toList[k]? = some c ∧ (c = 48 ∨ c = 49) from fun k hk => by
          by_cases e : k = j
          · subst e; exact ⟨_, GS.out k hlt, .inl h8⟩
          · exact H.out k (by omega))
        clear h8
        go_wp2
        go_round
        case rel => exact ⟨j + 1, by omega, by go_num, H2⟩
        case measure => simp [intOf]; omega
      · have e1 : ((s[j].toNat : Int) != 48) = true := by
          rw [bne_iff_ne]; intro e; exact h8 (UInt8.toNat_inj.1 (by show s[j].toNat = 48; omega))
        by_cases h9 : s[j] = 49
        · have e2 : ((s[j].toNat : Int) != 49) = false := by rw [h9]; rfl
          have H2 := hide (show ∀ k, k < j + 1 → ∃ c, s.data.toList[k]? = some c ∧ (c = 48 ∨ c = 49) from fun k hk => by
            by_cases e : k = j
            · subst e; exact ⟨_, GS.out k hlt, .inr h9⟩
            · exact H.out k (by omega))
          clear h8 h9
          go_wp2
          go_round
          case rel => exact ⟨j + 1, by omega, by go_num, H2⟩
          case measure => simp [intOf]; omega
        · have e2 : ((s[j].toNat : Int) != 49) = true := by
            rw [bne_iff_ne]; intro e; exact h9 (UInt8.toNat_inj.1 (by show s[j].toNat = 49; omega))
          have HN := hide (NO.out j _ (GS.out j hlt) h8 h9)
          clear h8 h9
          go_wp2
          go_ret
          exact ⟨by rw [HN.out]; rfl, rfl⟩
    · have HY := hide (YES.out (fun k hk => H.out k (by omega)))
      go_wp2
      all_goals
        go_ret
        exact ⟨by rw [HY.out]; first | rfl | (refine ret_bool ?_; simp; omega), rfl⟩
end Go.Proofs.YtpfbobcilphncaaDoor

/- The walks of FrameBreaks and FrameTurned. -/
namespace Go.Proofs.YtpfbobcilphncaaDoor
open Go.ChangeShapes Go.WideShapes Go.ChangeAt Go.RowKit
open FP (Fr headF bitsF turnF parseF PR fr0)

/-- A frame's block and its bits, behind the first two calls of the three laws: what they know of it. -/
theorem law_bits {f : Fr} (hr : FP.rightB f = true) : bitsV f = ⟨(bitsF f).toArray⟩ ∧ headE f = 0 ∧ 44 ≤ (bitsV f).size ∧ (bitsV f).size ≤ 157 ∧ (bitsV f).data.toList = bitsF f ∧ (bitsF f).length = (bitsV f).size := by
  have V : bitsV f = ⟨(bitsF f).toArray⟩ := by unfold bitsV; rw [hr]; rfl
  have h1 := FP.bits_len hr
  have h2 := FP.head_le hr
  have hs : (bitsV f).size = (bitsF f).length := by rw [V, size_of]
  refine ⟨V, by unfold headE; rw [hr]; rfl, by omega, by omega, by rw [V], hs.symm⟩

theorem rem8 (x : Int) : 0 ≤ (x.tmod 8 + 8) % 8 ∧ (x.tmod 8 + 8) % 8 < 8 ∧ 0 ≤ x.tmod 8 + 8 ∧ -8 < x.tmod 8 ∧ x.tmod 8 < 8 := by
  have h1 : -8 < x.tmod 8 := Int.lt_tmod_of_pos _ (by decide)
  have h2 : x.tmod 8 < 8 := Int.tmod_lt_of_pos _ (by decide)
  omega
theorem remN (x n : Int) (hn : 0 < n) : 0 ≤ (x.tmod n + n) % n ∧ (x.tmod n + n) % n < n ∧ 0 ≤ x.tmod n + n ∧ -n < x.tmod n ∧ x.tmod n < n := by
  have h1 : -n < x.tmod n := Int.lt_tmod_of_pos _ hn
  have h2 : x.tmod n < n := Int.tmod_lt_of_pos _ hn
  have h3 := Int.emod_nonneg (x.tmod n + n) (show n ≠ 0 by omega)
  have h4 := Int.emod_lt_of_pos (x.tmod n + n) hn
  omega

end Go.Proofs.YtpfbobcilphncaaDoor
