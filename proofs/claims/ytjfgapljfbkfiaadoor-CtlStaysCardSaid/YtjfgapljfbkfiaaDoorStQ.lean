/- Plain: what stuffing makes of a row, bit by bit, and back. -/
import Derived.Test.YtjfgapljfbkfiaaDoorMgIfP
namespace Go.Proofs.YtjfgapljfbkfiaaDoor.FP

/-- Bits without an error of stuffing, and what is known behind them. -/
structure Rst (x : List UInt8) (r : RS) : Prop where
  n5 : r.n ≤ 5
  bit : r.n = 0 ∨ r.last = 48 ∨ r.last = 49
  low : r.n < 5 → (stuffS r.got).out = x ∧ (stuffS r.got).last = r.last ∧ (stuffS r.got).n = r.n
  five : r.n = 5 → (stuffS r.got).out = x ++ [oth r.last] ∧ (stuffS r.got).last = oth r.last ∧ (stuffS r.got).n = 1
theorem Rst.nil : Rst [] rs0 := ⟨by decide, .inl rfl, fun _ => ⟨rfl, rfl, rfl⟩, fun h => absurd h (by decide)⟩
theorem oth_unlike {a b : UInt8} (ha : a = 48 ∨ a = 49) (hb : b = 48 ∨ b = 49) (h : b ≠ a) : oth a = b := by
  rcases ha with rfl | rfl <;> rcases hb with rfl | rfl <;> first | exact absurd rfl h | decide
theorem Rst.step {x : List UInt8} {r : RS} (h : Rst x r) {b : UInt8} (hb : b = 48 ∨ b = 49) (he : uK r.last r.n b ≠ 3) : Rst (x ++ [b]) (rsStep r b) := by
  by_cases hn : r.n = 5
  · have hne : b ≠ r.last := by
      intro e
      unfold uK at he
      rw [if_pos hn, if_pos e] at he
      exact he rfl
    have hl : r.last = 48 ∨ r.last = 49 := by
      rcases h.bit with h | h | h
      · omega
      · exact .inl h
      · exact .inr h
    have ho := oth_unlike hl hb hne
    have e : rsStep r b = ⟨b, 1, r.got⟩ := by
      unfold rsStep uN uK
      rw [if_pos hn, if_neg hne, if_pos hn, if_neg hne]
      rfl
    rw [e]
    obtain ⟨h1, h2, h3⟩ := h.five hn
    rw [ho] at h1 h2
    exact ⟨(by decide : 1 ≤ 5), .inr hb, fun _ => ⟨h1, h2, h3⟩, fun e => absurd e (by decide : ¬ (1 : Nat) = 5)⟩
  · have hlt : r.n < 5 := by have := h.n5; omega
    obtain ⟨u1, u2⟩ := uN_less (last := r.last) hlt b
    have e : rsStep r b = ⟨b, if b = r.last then r.n + 1 else 1, r.got ++ [b]⟩ := by
      unfold rsStep
      rw [u1, u2, if_pos rfl]
    obtain ⟨h1, h2, h3⟩ := h.low hlt
    have hs : ssN (stuffS r.got) b = if b = r.last then r.n + 1 else 1 := by unfold ssN; rw [h2, h3]
    rw [e]
    by_cases h5 : (if b = r.last then r.n + 1 else 1) = 5
    · obtain ⟨s1, s2, s3, _⟩ := ssStep_five (s := stuffS r.got) (c := b) (by rw [hs]; exact h5)
      refine ⟨by show (if b = r.last then r.n + 1 else 1) ≤ 5; omega, .inr hb, fun q => absurd q (by show ¬ (if b = r.last then r.n + 1 else 1) < 5; omega), fun _ => ?_⟩
      show (stuffS (r.got ++ [b])).out = x ++ [b] ++ [oth b] ∧ (stuffS (r.got ++ [b])).last = oth b ∧ (stuffS (r.got ++ [b])).n = 1
      rw [stuffS_snoc, s3, h1]
      exact ⟨rfl, s1, s2⟩
    · obtain ⟨s1, s2, s3, _⟩ := ssStep_less (s := stuffS r.got) (c := b) (by rw [hs]; exact h5)
      refine ⟨by show (if b = r.last then r.n + 1 else 1) ≤ 5; split <;> omega, .inr hb, fun _ => ?_, fun q => absurd q h5⟩
      show (stuffS (r.got ++ [b])).out = x ++ [b] ∧ (stuffS (r.got ++ [b])).last = b ∧ (stuffS (r.got ++ [b])).n = (if b = r.last then r.n + 1 else 1)
      rw [stuffS_snoc, s3, h1]
      exact ⟨rfl, s1, by rw [s2, hs]⟩
theorem Rst.body {x : List UInt8} {r : RS} (h : Rst x r) (hn : r.n < 5) : x = stuffF r.got := (h.low hn).1.symm
theorem Rst.one : Rst [48] ⟨48, 1, [48]⟩ := Rst.step Rst.nil (.inl rfl) (by decide)

/-- What is known behind a row that was stuffed. -/
theorem rs_of_stuff_rev : ∀ q p : List UInt8, p = q.reverse → (∀ c ∈ p, c = 48 ∨ c = 49) → rsOf (stuffS p).out = ⟨(stuffS p).last, (stuffS p).n, p⟩ ∧ (stuffS p).n < 5 := by
  intro q
  induction q with
  | nil => intro p hp _; rw [hp]; exact ⟨rfl, by decide⟩
  | cons c q ih =>
    intro p' hp hb
    rw [List.reverse_cons] at hp
    subst hp
    generalize hq : q.reverse = p at *
    have ih := ih p rfl
    obtain ⟨h1, h2⟩ := ih (fun d hd => hb d (by simp [hd]))
    clear ih
    have hc : c = 48 ∨ c = 49 := hb c (by simp)
    obtain ⟨u1, u2⟩ := uN_less (last := (stuffS p).last) h2 c
    have e : rsStep ⟨(stuffS p).last, (stuffS p).n, p⟩ c = ⟨c, ssN (stuffS p) c, p ++ [c]⟩ := by
      unfold rsStep
      rw [u1, u2, if_pos rfl]
      rfl
    rw [stuffS_snoc]
    by_cases h5 : ssN (stuffS p) c = 5
    · obtain ⟨s1, s2, s3, _⟩ := ssStep_five (s := stuffS p) (c := c) h5
      rw [s1, s2, s3, rsOf_snoc, rsOf_snoc, h1, e, h5]
      obtain ⟨v1, v2⟩ := uN_five hc
      refine ⟨?_, by decide⟩
      unfold rsStep
      rw [v1, v2, if_neg (by decide)]
    · obtain ⟨s1, s2, s3, _⟩ := ssStep_less (s := stuffS p) (c := c) h5
      rw [s1, s2, s3, rsOf_snoc, h1, e]
      refine ⟨rfl, ?_⟩
      exact ite_lt5 h2 h5
theorem rs_of_stuff (p : List UInt8) (h : ∀ c ∈ p, c = 48 ∨ c = 49) : rsOf (stuffS p).out = ⟨(stuffS p).last, (stuffS p).n, p⟩ ∧ (stuffS p).n < 5 :=
  rs_of_stuff_rev p.reverse p (by simp) h
/-- A row is stuffed bit by bit. -/
theorem stuff_split (p : List UInt8) (c : UInt8) (m : List UInt8) : ∃ t, stuffF (p ++ c :: m) = (stuffS p).out ++ c :: t := by
  have h : stuffF (p ++ c :: m) = (m.foldl ssStep (ssStep (stuffS p) c)).out := by
    unfold stuffF stuffS
    rw [List.foldl_append, List.foldl_cons]
  rw [h, stuff_tl]
  by_cases h5 : ssN (stuffS p) c = 5
  · obtain ⟨s1, s2, s3, _⟩ := ssStep_five (s := stuffS p) (c := c) h5
    rw [s3]
    exact ⟨oth c :: tlF (ssStep (stuffS p) c).last (ssStep (stuffS p) c).n m, by simp⟩
  · obtain ⟨s1, s2, s3, _⟩ := ssStep_less (s := stuffS p) (c := c) h5
    rw [s3]
    exact ⟨tlF (ssStep (stuffS p) c).last (ssStep (stuffS p) c).n m, by simp⟩
/-- A row that is a frame's, with its sum. -/
theorem good_only {l : List UInt8} (hb : ∀ c ∈ l, c = 48 ∨ c = 49) (hg : goodB l = true) : l = sumF (headF (readV (headOf l))) ∧ rightB (readV (headOf l)) = true := by
  unfold goodB at hg
  rw [Bool.and_eq_true, Bool.and_eq_true, decide_eq_true_eq, decide_eq_true_eq] at hg
  obtain ⟨⟨h15, hc⟩, hr⟩ := hg
  have h1 := (crc_law h15 hb).1 hc
  rw [(read_yes hr).1]
  unfold readB at hr
  rw [Bool.and_eq_true, Bool.and_eq_true, decide_eq_true_eq] at hr
  exact ⟨by rw [hr.2.2]; exact h1.symm, hr.2.1⟩
end Go.Proofs.YtjfgapljfbkfiaaDoor.FP
