/- Plain: what is known of a frame that comes, bit by bit; nothing of the program. -/
import Derived.Test.YtpfbobcilphncaaGreatDoorRdQ
namespace Go.Proofs.YtpfbobcilphncaaGreatDoor.FP

structure RS where
  last : UInt8
  n : Nat
  got : List UInt8
def rsStep (s : RS) (c : UInt8) : RS := ⟨c, uN s.last s.n c, if uK s.last s.n c = 1 then s.got ++ [c] else s.got⟩
def rs0 : RS := ⟨0, 0, []⟩
def rsOf (l : List UInt8) : RS := l.foldl rsStep rs0
theorem rsOf_snoc (l : List UInt8) (c : UInt8) : rsOf (l ++ [c]) = rsStep (rsOf l) c := by simp [rsOf]
/-- Whether bits are a frame's, with its sum. -/
def goodB (l : List UInt8) : Bool := decide (15 ≤ l.length) && decide (crcOf l = 0) && readB (headOf l)
/-- A frame's bits that are stuffed. -/
def bodyF (f : Fr) : List UInt8 := stuffF (sumF (headF f))

/-- Behind a beginning of the stuffed bits of a whole row: what is known, and the next bit. -/
structure Fol (l : List UInt8) (r : RS) (nx : Option UInt8) : Prop where
  pre : ∃ m, r.got ++ m = l
  done : doneB r.got r.n = true ↔ nx = none
  all : nx = none → r.got = l
  err : ∀ c, nx = some c → uK r.last r.n c ≠ 3
  form : ∀ c, nx = some c → uK r.last r.n c = 1 → badB (r.got ++ [c]) = false

theorem fol_tl {l : List UInt8} (H : Full l) : ∀ (m b : List UInt8) (last : UInt8) (n j : Nat), b ++ m = l → n < 5 → j ≤ (tlF last n m).length → Fol l (((tlF last n m).take j).foldl rsStep ⟨last, n, b⟩) (tlF last n m)[j]?
  | [], b, last, n, j, e, hn, hj => by
    rw [List.append_nil] at e
    subst e
    have : j = 0 := by simpa [tlF] using hj
    subst this
    simp only [tlF, List.take_nil, List.foldl_nil]
    exact ⟨⟨[], by simp⟩, ⟨fun _ => rfl, fun _ => H.done hn⟩, fun _ => rfl, (fun c h => by simp at h), (fun c h => by simp at h)⟩
  | c :: m, b, last, n, j, e, hn, hj => by
    obtain ⟨h1, h2⟩ := H.notYet e n
    obtain ⟨u1, u2⟩ := uN_less hn (last := last) c
    have hc : c = 48 ∨ c = 49 := H.bits c (by rw [← e]; simp)
    have e' : (b ++ [c]) ++ m = l := by rw [← e]; simp
    have st : rsStep ⟨last, n, b⟩ c = ⟨c, if c = last then n + 1 else 1, b ++ [c]⟩ := by
      unfold rsStep
      rw [u1, u2, if_pos rfl]
    match j with
    | 0 =>
      have hx : (tlF last n (c :: m))[0]? = some c := by
        by_cases h5 : (if c = last then n + 1 else 1) = 5
        · rw [tlF_five h5]; rfl
        · rw [tlF_less h5]; rfl
      rw [hx, List.take_zero, List.foldl_nil]
      refine ⟨⟨c :: m, e⟩, ⟨(fun h => by rw [h1] at h; cases h), (fun h => by cases h)⟩, (fun h => by cases h), fun d hd => ?_, fun d hd _ => ?_⟩
      · cases hd; rw [u2]; decide
      · cases hd; exact h2
    | j + 1 =>
      by_cases h5 : (if c = last then n + 1 else 1) = 5
      · rw [tlF_five h5] at hj ⊢
        rw [List.take_succ_cons, List.foldl_cons, st, h5]
        obtain ⟨v1, v2⟩ := uN_five hc
        have hd : doneB (b ++ [c]) 5 = false := by unfold doneB; simp
        match j with
        | 0 =>
          rw [List.take_zero, List.foldl_nil]
          refine ⟨⟨m, e'⟩, ⟨(fun h => by rw [hd] at h; cases h), (fun h => by cases h)⟩, (fun h => by cases h), fun d hd => ?_, fun d hd hk => ?_⟩
          · cases hd; rw [v2]; decide
          · cases hd; rw [v2] at hk; cases hk
        | j + 1 =>
          have st2 : rsStep ⟨c, 5, b ++ [c]⟩ (oth c) = ⟨oth c, 1, b ++ [c]⟩ := by
            unfold rsStep
            rw [v1, v2, if_neg (by decide)]
          rw [List.take_succ_cons, List.foldl_cons, st2]
          have := fol_tl H m (b ++ [c]) (oth c) 1 j e' (by omega) (by simp only [List.length_cons] at hj; omega)
          simpa using this
      · rw [tlF_less h5] at hj ⊢
        rw [List.take_succ_cons, List.foldl_cons, st]
        have := fol_tl H m (b ++ [c]) c _ j e' (ite_lt5 hn h5) (by simp only [List.length_cons] at hj; omega)
        simpa using this

theorem fol_body {f : Fr} (hr : rightB f = true) {j : Nat} (hj : j ≤ (bodyF f).length) : Fol (sumF (headF f)) (rsOf ((bodyF f).take j)) (bodyF f)[j]? := by
  have := fol_tl (full_of hr) (sumF (headF f)) [] 0 0 j rfl (by omega) (by unfold bodyF at hj; rw [stuffF_tl] at hj; exact hj)
  unfold bodyF rsOf rs0
  rw [stuffF_tl]
  exact this
theorem body_take (f : Fr) (j : Nat) (hj : j ≤ (bodyF f).length) : (bitsF f).take j = (bodyF f).take j := by
  show (bodyF f ++ tenF).take j = _
  rw [List.take_append_of_le_length hj]
theorem body_get (f : Fr) (j : Nat) (hj : j < (bodyF f).length) : (bitsF f)[j]? = (bodyF f)[j]? := by
  show (bodyF f ++ tenF)[j]? = _
  rw [List.getElem?_append_left hj]
theorem body_len (f : Fr) : (bitsF f).length = (bodyF f).length + 10 := by
  show (bodyF f ++ tenF).length = _
  simp [tenF]
theorem body_first (f : Fr) : ∃ m, bodyF f = 48 :: m := by
  have hh : sumF (headF f) = 48 :: (sumF (headF f)).tail := by unfold sumF headF; rfl
  unfold bodyF
  rw [stuffF_tl, hh, tlF_less (by decide)]
  exact ⟨_, rfl⟩
theorem bits_first (f : Fr) : (bitsF f).take 1 = [48] := by
  obtain ⟨m, h⟩ := body_first f
  show (bodyF f ++ tenF).take 1 = _
  rw [h]; rfl
theorem body_ge {f : Fr} (hr : rightB f = true) : 34 ≤ (bodyF f).length := (bits_len hr).1
theorem body_le {f : Fr} (hr : rightB f = true) : (bodyF f).length ≤ 147 := by
  have h1 := (bits_len hr).2.1
  have h2 := head_le hr
  show (stuffF (sumF (headF f))).length ≤ 147
  omega

theorem uK_not3 {last : UInt8} {n : Nat} {c : UInt8} (h : n < 5) : uK last n c = 1 := (uN_less h c).2
theorem uK1_lt {last : UInt8} {n : Nat} {c : UInt8} (hn : n ≤ 5) (h : uK last n c = 1) : n < 5 := by
  unfold uK at h
  by_cases e : n = 5
  · rw [if_pos e] at h; split at h <;> omega
  · omega
theorem sizeE_or' (l : List UInt8) : sizeE l = 0 ∨ sizeE l = 3 ∨ sizeE l = 12 := by unfold sizeE; split; simp; split; simp; split <;> simp
theorem size3_short {l : List UInt8} (h : sizeE l = 3) : l.length < 14 ∨ l.length < fxN l := by
  unfold sizeE at h
  split at h
  · left; assumption
  · split at h
    · right; assumption
    · split at h <;> omega
/-- A bit more: how long it may be, where its size is told. -/
theorem le_snoc {l : List UInt8} {c : UInt8} {n : Nat} (hs : sizeE l ≠ 12) (hl : sizeE l = 0 → l.length ≤ sizeV l + 15) (hd : doneB l n = false) (hn : n < 5) (h0 : sizeE (l ++ [c]) = 0) : (l ++ [c]).length ≤ sizeV (l ++ [c]) + 15 := by
  rcases sizeE_or' l with h | h | h
  · have h1 := hl h
    have h2 := (size_append [c] (.inl h)).2
    rw [h2, List.length_append, List.length_singleton]
    have : l.length ≠ sizeV l + 15 := by
      intro e
      unfold doneB at hd
      rw [decide_eq_true h, decide_eq_true e, decide_eq_true hn] at hd
      cases hd
    omega
  · have h1 := size3_short h
    have h2 := sizeV_ge h0
    have h3 := fxN_or (l ++ [c])
    have h4 := fxN_or l
    rw [List.length_append, List.length_singleton]
    rcases h1 with h1 | h1
    · omega
    · by_cases h14 : 14 ≤ l.length
      · have := fxN_append (r := [c]) h14
        omega
      · omega
  · exact absurd h hs
theorem got_most {l : List UInt8} (hs : sizeE l ≠ 12) (hl : sizeE l = 0 → l.length ≤ sizeV l + 15) : l.length ≤ 118 := by
  rcases sizeE_or' l with h | h | h
  · have := hl h
    have := sizeV_bd l
    omega
  · have h1 := size3_short h
    have h4 := fxN_or l
    omega
  · exact absurd h hs
theorem done_one : doneB [48] 1 = false := by decide
theorem size_one : sizeE [48] = 3 := by decide
theorem good_sum {f : Fr} (hr : rightB f = true) : goodB (sumF (headF f)) = true := by
  have F := full_of hr
  have h15 : 15 ≤ (sumF (headF f)).length := by rw [sum_length]; omega
  unfold goodB
  rw [decide_eq_true h15, headOf_sum, read_head hr, decide_eq_true ((crc_law h15 F.bits).2 (by rw [headOf_sum]))]
  rfl
end Go.Proofs.YtpfbobcilphncaaGreatDoor.FP

/- Plain: what stuffing makes of a row, bit by bit, and back. -/
namespace Go.Proofs.YtpfbobcilphncaaGreatDoor.FP

/-- Bits without an error of stuffing, and what is known behind them. -/
structure Rst (x : List UInt8) (r : RS) : Prop where
  n5 : r.n ≤ 5
  bit : r.n = 0 ∨ r.last = 48 ∨ r.last = 49
  low : r.n < 5 → (stuffS r.got).out = x ∧ (stuffS r.got).last = r.last ∧ (stuffS r.got).n = r.n
  five : r.n = 5 → (stuffS r.got).out = x ++ [oth r.last] ∧ (stuffS r.got).last = oth r.last ∧ (stuffS r.got).n = 1
theorem Rst.nil : Rst [] rs0 := ⟨by decide, .inl rfl, fun _ => ⟨rfl, rfl, rfl⟩, fun h => absurd h (by decide)⟩
theorem oth_unlike {a b : UInt8} (ha : a = 48 ∨ a = 49) (hb : b = 48 ∨ b = 49) (h : b ≠ a) : oth a = b := by
  rcases ha with rfl | rfl <;> rcases hb with rfl | rfl <;> first | exact absurd rfl h | decide
theorem Rst.step {x : List UInt8} {r : RS} (h : Rst x r) {b : UInt8} (hb : b = 48 ∨ b = 49) (he : uK r.last r.n b ≠ 3) : Rst (x ++ [b]) (rsStep r b) := by
  by_cases hn : r.n = 5
  · have hne : b ≠ r.last := by
      intro e
      unfold uK at he
      rw [if_pos hn, if_pos e] at he
      exact he rfl
    have hl : r.last = 48 ∨ r.last = 49 := by
      rcases h.bit with h | h | h
      · omega
      · exact .inl h
      · exact .inr h
    have ho := oth_unlike hl hb hne
    have e : rsStep r b = ⟨b, 1, r.got⟩ := by
      unfold rsStep uN uK
      rw [if_pos hn, if_neg hne, if_pos hn, if_neg hne]
      rfl
    rw [e]
    obtain ⟨h1, h2, h3⟩ := h.five hn
    rw [ho] at h1 h2
    exact ⟨(by decide : 1 ≤ 5), .inr hb, fun _ => ⟨h1, h2, h3⟩, fun e => absurd e (by decide : ¬ (1 : Nat) = 5)⟩
  · have hlt : r.n < 5 := by have := h.n5; omega
    obtain ⟨u1, u2⟩ := uN_less (last := r.last) hlt b
    have e : rsStep r b = ⟨b, if b = r.last then r.n + 1 else 1, r.got ++ [b]⟩ := by
      unfold rsStep
      rw [u1, u2, if_pos rfl]
    obtain ⟨h1, h2, h3⟩ := h.low hlt
    have hs : ssN (stuffS r.got) b = if b = r.last then r.n + 1 else 1 := by unfold ssN; rw [h2, h3]
    rw [e]
    by_cases h5 : (if b = r.last then r.n + 1 else 1) = 5
    · obtain ⟨s1, s2, s3, _⟩ := ssStep_five (s := stuffS r.got) (c := b) (by rw [hs]; exact h5)
      refine ⟨by show (if b = r.last then r.n + 1 else 1) ≤ 5; omega, .inr hb, fun q => absurd q (by show ¬ (if b = r.last then r.n + 1 else 1) < 5; omega), fun _ => ?_⟩
      show (stuffS (r.got ++ [b])).out = x ++ [b] ++ [oth b] ∧ (stuffS (r.got ++ [b])).last = oth b ∧ (stuffS (r.got ++ [b])).n = 1
      rw [stuffS_snoc, s3, h1]
      exact ⟨rfl, s1, s2⟩
    · obtain ⟨s1, s2, s3, _⟩ := ssStep_less (s := stuffS r.got) (c := b) (by rw [hs]; exact h5)
      refine ⟨by show (if b = r.last then r.n + 1 else 1) ≤ 5; split <;> omega, .inr hb, fun _ => ?_, fun q => absurd q h5⟩
      show (stuffS (r.got ++ [b])).out = x ++ [b] ∧ (stuffS (r.got ++ [b])).last = b ∧ (stuffS (r.got ++ [b])).n = (if b = r.last then r.n + 1 else 1)
      rw [stuffS_snoc, s3, h1]
      exact ⟨rfl, s1, by rw [s2, hs]⟩
theorem Rst.body {x : List UInt8} {r : RS} (h : Rst x r) (hn : r.n < 5) : x = stuffF r.got := (h.low hn).1.symm
theorem Rst.one : Rst [48] ⟨48, 1, [48]⟩ := Rst.step Rst.nil (.inl rfl) (by decide)

/-- What is known behind a row that was stuffed. -/
theorem rs_of_stuff_rev : ∀ q p : List UInt8, p = q.reverse → (∀ c ∈ p, c = 48 ∨ c = 49) → rsOf (stuffS p).out = ⟨(stuffS p).last, (stuffS p).n, p⟩ ∧ (stuffS p).n < 5 := by
  intro q
  induction q with
  | nil => intro p hp _; rw [hp]; exact ⟨rfl, by decide⟩
  | cons c q ih =>
    intro p' hp hb
    rw [List.reverse_cons] at hp
    subst hp
    generalize hq : q.reverse = p at *
    have ih := ih p rfl
    obtain ⟨h1, h2⟩ := ih (fun d hd => hb d (by simp [hd]))
    clear ih
    have hc : c = 48 ∨ c = 49 := hb c (by simp)
    obtain ⟨u1, u2⟩ := uN_less (last := (stuffS p).last) h2 c
    have e : rsStep ⟨(stuffS p).last, (stuffS p).n, p⟩ c = ⟨c, ssN (stuffS p) c, p ++ [c]⟩ := by
      unfold rsStep
      rw [u1, u2, if_pos rfl]
      rfl
    rw [stuffS_snoc]
    by_cases h5 : ssN (stuffS p) c = 5
    · obtain ⟨s1, s2, s3, _⟩ := ssStep_five (s := stuffS p) (c := c) h5
      rw [s1, s2, s3, rsOf_snoc, rsOf_snoc, h1, e, h5]
      obtain ⟨v1, v2⟩ := uN_five hc
      refine ⟨?_, by decide⟩
      unfold rsStep
      rw [v1, v2, if_neg (by decide)]
    · obtain ⟨s1, s2, s3, _⟩ := ssStep_less (s := stuffS p) (c := c) h5
      rw [s1, s2, s3, rsOf_snoc, h1, e]
      refine ⟨rfl, ?_⟩
      exact ite_lt5 h2 h5
theorem rs_of_stuff (p : List UInt8) (h : ∀ c ∈ p, c = 48 ∨ c = 49) : rsOf (stuffS p).out = ⟨(stuffS p).last, (stuffS p).n, p⟩ ∧ (stuffS p).n < 5 :=
  rs_of_stuff_rev p.reverse p (by simp) h
/-- A row is stuffed bit by bit. -/
theorem stuff_split (p : List UInt8) (c : UInt8) (m : List UInt8) : ∃ t, stuffF (p ++ c :: m) = (stuffS p).out ++ c :: t := by
  have h : stuffF (p ++ c :: m) = (m.foldl ssStep (ssStep (stuffS p) c)).out := by
    unfold stuffF stuffS
    rw [List.foldl_append, List.foldl_cons]
  rw [h, stuff_tl]
  by_cases h5 : ssN (stuffS p) c = 5
  · obtain ⟨s1, s2, s3, _⟩ := ssStep_five (s := stuffS p) (c := c) h5
    rw [s3]
    exact ⟨oth c :: tlF (ssStep (stuffS p) c).last (ssStep (stuffS p) c).n m, by simp⟩
  · obtain ⟨s1, s2, s3, _⟩ := ssStep_less (s := stuffS p) (c := c) h5
    rw [s3]
    exact ⟨tlF (ssStep (stuffS p) c).last (ssStep (stuffS p) c).n m, by simp⟩
/-- A row that is a frame's, with its sum. -/
theorem good_only {l : List UInt8} (hb : ∀ c ∈ l, c = 48 ∨ c = 49) (hg : goodB l = true) : l = sumF (headF (readV (headOf l))) ∧ rightB (readV (headOf l)) = true := by
  unfold goodB at hg
  rw [Bool.and_eq_true, Bool.and_eq_true, decide_eq_true_eq, decide_eq_true_eq] at hg
  obtain ⟨⟨h15, hc⟩, hr⟩ := hg
  have h1 := (crc_law h15 hb).1 hc
  rw [(read_yes hr).1]
  unfold readB at hr
  rw [Bool.and_eq_true, Bool.and_eq_true, decide_eq_true_eq] at hr
  exact ⟨by rw [hr.2.2]; exact h1.symm, hr.2.1⟩
end Go.Proofs.YtpfbobcilphncaaGreatDoor.FP
