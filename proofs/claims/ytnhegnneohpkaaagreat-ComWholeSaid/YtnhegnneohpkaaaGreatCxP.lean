/- Plain: what is asked, switched, ticks; what is watched. -/
import Derived.Test.YtnhegnneohpkaaaGreatMgPdP
namespace Go.Proofs.YtnhegnneohpkaaaGreat
namespace CM
open SG PD

def Snd.begin (s : Snd) : Snd := { s with left := 0, gap := 0, asked := false, period := if perB s.way then max s.way.first 1 else 0 }
def Snd.ask (s : Snd) : Snd := if dirB s.way = true then { s with asked := true, left := s.way.reps, gap := if 0 < s.way.reps then s.way.gap else 0 } else s
def Snd.swap (s : Snd) (on : Bool) : Snd := if s.on = on then s else ({ s with on := on } : Snd).begin
/-- Does a period end? -/
def Snd.perE (s : Snd) : Bool := perB s.way && decide (s.period ≤ 1)
def Snd.perS (s : Snd) : Snd := if perB s.way = true then { s with period := if s.period ≤ 1 then s.way.period else s.period - 1 } else s
/-- Is a repetition due? -/
def Snd.agE (s : Snd) : Bool := decide (s.left ≠ 0) && decide (s.gap ≤ 1)
def Snd.agS (s : Snd) : Snd := if s.left = 0 then s else if 1 < s.gap then { s with gap := s.gap - 1 } else { s with left := s.left - 1, gap := if 1 < s.left then s.way.gap else s.gap - 1 }
def Snd.held (s : Snd) : Snd := { s with hold := max (s.hold - 1) 0 }
def Snd.due (s : Snd) : Bool := s.held.perS.agE || (s.held.perE || s.asked)
def Snd.tickE (s : Snd) : Bool := s.due && decide (max (s.hold - 1) 0 = 0)
def Snd.tick (s : Snd) : Snd := { s.held.perS.agS with asked := s.due && decide (0 < max (s.hold - 1) 0), hold := if s.tickE = true then s.delay else max (s.hold - 1) 0 }

theorem sndB_iff {s : Snd} : sndB s = true ↔ wayB s.yes = true ∧ wayB s.no = true ∧ (0 ≤ s.delay ∧ s.delay ≤ 1000000 ∧ 0 ≤ s.hold ∧ s.hold ≤ s.delay ∧
  (if perB s.way then 1 ≤ s.period ∧ s.period ≤ max (max s.way.first s.way.period) 1 else s.period = 0) ∧
  0 ≤ s.left ∧ s.left ≤ (if dirB s.way then s.way.reps else 0) ∧ (if 0 < s.left then 1 ≤ s.gap ∧ s.gap ≤ s.way.gap else s.gap = 0)) := by
  unfold sndB
  simp only [Bool.and_eq_true, decide_eq_true_eq]
theorem way_right {s : Snd} (h : sndB s = true) : wayB s.way = true := by
  obtain ⟨h1, h2, _⟩ := sndB_iff.1 h
  unfold Snd.way
  split
  · exact h1
  · exact h2
theorem begin_right {s : Snd} (h1 : wayB s.yes = true) (h2 : wayB s.no = true) (h3 : 0 ≤ s.delay ∧ s.delay ≤ 1000000) (h4 : 0 ≤ s.hold ∧ s.hold ≤ s.delay) : sndB s.begin = true := by
  have hw : wayB s.way = true := by unfold Snd.way; split; exact h1; exact h2
  have hw' := wayB_iff.1 hw
  refine sndB_iff.2 ⟨h1, h2, h3.1, h3.2, h4.1, h4.2, ?_, Int.le_refl 0, ?_, ?_⟩
  · show if perB s.way = true then 1 ≤ (if perB s.way = true then max s.way.first 1 else 0) ∧ (if perB s.way = true then max s.way.first 1 else 0) ≤ max (max s.way.first s.way.period) 1 else (if perB s.way = true then max s.way.first 1 else 0) = 0
    by_cases hp : perB s.way = true
    · rw [if_pos hp, if_pos hp]; omega
    · rw [if_neg hp, if_neg hp]
  · show (0 : Int) ≤ if dirB s.way = true then s.way.reps else 0
    split <;> omega
  · show if (0 : Int) < 0 then 1 ≤ (0 : Int) ∧ (0 : Int) ≤ s.way.gap else (0 : Int) = 0
    rw [if_neg (by decide)]
theorem ask_right {s : Snd} (h : sndB s = true) : sndB s.ask = true := by
  obtain ⟨h1, h2, h3, h4, h5, h6, h7, h8, h9, h10⟩ := sndB_iff.1 h
  have hw := wayB_iff.1 (way_right h)
  unfold Snd.ask
  by_cases hd : dirB s.way = true
  · rw [if_pos hd]
    refine sndB_iff.2 ⟨h1, h2, h3, h4, h5, h6, h7, ?_, ?_, ?_⟩
    · show 0 ≤ s.way.reps; omega
    · show s.way.reps ≤ if dirB s.way = true then s.way.reps else 0
      rw [if_pos hd]; exact Int.le_refl _
    · show if 0 < s.way.reps then 1 ≤ (if 0 < s.way.reps then s.way.gap else 0) ∧ (if 0 < s.way.reps then s.way.gap else 0) ≤ s.way.gap else (if 0 < s.way.reps then s.way.gap else 0) = 0
      by_cases hr : 0 < s.way.reps
      · rw [if_pos hr, if_pos hr]; omega
      · rw [if_neg hr, if_neg hr]
  · rw [if_neg hd]; exact h
theorem swap_right {s : Snd} (h : sndB s = true) (on : Bool) : sndB (s.swap on) = true := by
  obtain ⟨h1, h2, h3, h4, h5, h6, _⟩ := sndB_iff.1 h
  unfold Snd.swap
  split
  · exact h
  · exact begin_right (s := { s with on := on }) h1 h2 ⟨h3, h4⟩ ⟨h5, h6⟩
theorem tick_right {s : Snd} (h : sndB s = true) : sndB s.tick = true := by
  obtain ⟨h1, h2, h3, h4, h5, h6, h7, h8, h9, h10⟩ := sndB_iff.1 h
  have hw := wayB_iff.1 (way_right h)
  have hper : (perB s.way = true → 0 < s.way.period) := fun hp => hw.2.2.2.2.2.2.2.2.2.2.1 (by unfold perB at hp; exact of_decide_eq_true hp)
  -- the parts that a tick keeps
  have e1 : ∀ x : Snd, x.yes = s.yes → x.no = s.no → x.on = s.on → x.way = s.way := fun x a b c => by unfold Snd.way; rw [a, b, c]
  have p1 : s.held.perS.yes = s.yes ∧ s.held.perS.no = s.no ∧ s.held.perS.on = s.on ∧ s.held.perS.delay = s.delay ∧ s.held.perS.left = s.left ∧ s.held.perS.gap = s.gap := by
    unfold Snd.perS; split <;> exact ⟨rfl, rfl, rfl, rfl, rfl, rfl⟩
  have hway : s.held.perS.way = s.way := e1 _ p1.1 p1.2.1 p1.2.2.1
  have hh : s.held.way = s.way := rfl
  have p2 : s.held.perS.agS.yes = s.yes ∧ s.held.perS.agS.no = s.no ∧ s.held.perS.agS.on = s.on ∧ s.held.perS.agS.delay = s.delay ∧ s.held.perS.agS.period = s.held.perS.period := by
    unfold Snd.agS
    obtain ⟨a, b, c, d, _⟩ := p1
    split
    · exact ⟨a, b, c, d, rfl⟩
    · split <;> exact ⟨a, b, c, d, rfl⟩
  have hT : s.tick.way = s.way := e1 _ p2.1 p2.2.1 p2.2.2.1
  have hold : 0 ≤ s.tick.hold ∧ s.tick.hold ≤ s.delay := by
    show 0 ≤ (if s.tickE = true then s.delay else max (s.hold - 1) 0) ∧ (if s.tickE = true then s.delay else max (s.hold - 1) 0) ≤ s.delay
    split <;> omega
  refine sndB_iff.2 ⟨by rw [show s.tick.yes = s.yes from p2.1]; exact h1, by rw [show s.tick.no = s.no from p2.2.1]; exact h2, by rw [show s.tick.delay = s.delay from p2.2.2.2.1]; exact h3, by rw [show s.tick.delay = s.delay from p2.2.2.2.1]; exact h4, hold.1, by rw [show s.tick.delay = s.delay from p2.2.2.2.1]; exact hold.2, ?_, ?_, ?_, ?_⟩
  · rw [hT]
    have hp : s.tick.period = s.held.perS.period := p2.2.2.2.2
    rw [hp]
    by_cases q : perB s.way = true
    · rw [if_pos q] at h7 ⊢
      have := hper q
      have e : s.held.perS.period = if s.period ≤ 1 then s.way.period else s.period - 1 := by
        unfold Snd.perS; rw [hh, if_pos q]; rfl
      rw [e]
      split <;> omega
    · rw [if_neg q] at h7 ⊢
      have e : s.held.perS.period = s.period := by unfold Snd.perS; rw [hh, if_neg q]; rfl
      rw [e]; exact h7
  all_goals
    have el : s.tick.left = s.held.perS.agS.left := rfl
    have eg : s.tick.gap = s.held.perS.agS.gap := rfl
    obtain ⟨_, _, _, _, pl, pg⟩ := p1
    have al : s.held.perS.agS.left = if s.left = 0 then s.left else if 1 < s.gap then s.left else s.left - 1 := by
      unfold Snd.agS
      rw [pl, pg]
      split
      · exact pl
      · split <;> rfl
    have ag : s.held.perS.agS.gap = if s.left = 0 then s.gap else if 1 < s.gap then s.gap - 1 else (if 1 < s.left then s.way.gap else s.gap - 1) := by
      unfold Snd.agS
      rw [pl, pg, hway]
      split
      · exact pg
      · split <;> rfl
    try rw [hT]
    first
      | (rw [el, al, eg, ag])
      | (rw [el, al])
  · split
    · omega
    · split <;> omega
  · split
    · omega
    · split <;> omega
  · by_cases z : s.left = 0
    · rw [if_pos z, if_pos z, if_neg (by omega)]
      rw [if_neg (by omega)] at h10
      exact h10
    · rw [if_neg z, if_neg z]
      have hlr : 0 < s.left := by omega
      rw [if_pos hlr] at h10
      have hreps : s.way.reps = 0 ∨ 0 < s.way.gap := hw.2.2.2.2.2.2.2.2.2.2.2
      by_cases g1 : 1 < s.gap
      · rw [if_pos g1, if_pos g1, if_pos hlr]; omega
      · rw [if_neg g1, if_neg g1]
        by_cases l1 : 1 < s.left
        · rw [if_pos l1, if_pos (by omega)]
          omega
        · rw [if_neg l1, if_neg (by omega)]
          omega

def Wt.start (w : Wt) : Wt := { w with on := true, late := false, left := w.first }
def Wt.stop (w : Wt) : Wt := { w with on := false, late := false, left := 0 }
def Wt.got (w : Wt) : Wt := if w.on = true then { w with late := false, left := w.each } else w
def Wt.tick (w : Wt) : Wt := if w.left = 0 then w else { w with left := w.left - 1, late := w.left - 1 == 0 }
def Wt.tickE (w : Wt) : Bool := decide (w.left = 1)
theorem wtB_iff {w : Wt} : wtB w = true ↔ 0 ≤ w.first ∧ w.first ≤ 1000000 ∧ 0 ≤ w.each ∧ w.each ≤ 1000000 ∧ 0 ≤ w.left ∧ w.left ≤ max w.first w.each ∧ (w.on = true ∨ w.left = 0 ∧ w.late = false) ∧ (w.late = false ∨ w.left = 0) := by unfold wtB; rw [decide_eq_true_eq]
theorem wtStart_right {w : Wt} (h : wtB w = true) : wtB w.start = true := by
  obtain ⟨h1, h2, h3, h4, h5, h6, h7, h8⟩ := wtB_iff.1 h
  exact wtB_iff.2 ⟨h1, h2, h3, h4, h1, by show w.first ≤ max w.first w.each; omega, .inl rfl, .inl rfl⟩
theorem wtStop_right {w : Wt} (h : wtB w = true) : wtB w.stop = true := by
  obtain ⟨h1, h2, h3, h4, h5, h6, h7, h8⟩ := wtB_iff.1 h
  exact wtB_iff.2 ⟨h1, h2, h3, h4, Int.le_refl 0, by show 0 ≤ max w.first w.each; omega, .inr ⟨rfl, rfl⟩, .inl rfl⟩
theorem wtGot_right {w : Wt} (h : wtB w = true) : wtB w.got = true := by
  obtain ⟨h1, h2, h3, h4, h5, h6, h7, h8⟩ := wtB_iff.1 h
  unfold Wt.got
  split
  · rename_i ho
    exact wtB_iff.2 ⟨h1, h2, h3, h4, h3, by show w.each ≤ max w.first w.each; omega, .inl ho, .inl rfl⟩
  · exact h
theorem wtTick_right {w : Wt} (h : wtB w = true) : wtB w.tick = true := by
  obtain ⟨h1, h2, h3, h4, h5, h6, h7, h8⟩ := wtB_iff.1 h
  unfold Wt.tick
  split
  · exact h
  · rename_i hl
    have ho : w.on = true := by rcases h7 with h7 | h7; exact h7; exact absurd h7.1 hl
    refine wtB_iff.2 ⟨h1, h2, h3, h4, by show 0 ≤ w.left - 1; omega, by show w.left - 1 ≤ max w.first w.each; omega, .inl ho, ?_⟩
    show (w.left - 1 == 0) = false ∨ w.left - 1 = 0
    by_cases e : w.left - 1 = 0
    · exact .inr e
    · exact .inl (by simpa using e)
end CM
end Go.Proofs.YtnhegnneohpkaaaGreat
