/- Plain: BusAlone: alone for 4000 bits; then one more. -/
import Derived.Test.YtkfedgjepiljiaaGreatDoorBuA
import Derived.Test.YtkfedgjepiljiaaGreatDoorMgBuP
namespace Go.Proofs.YtkfedgjepiljiaaGreatDoor
open Go.ChangeShapes Go.WideShapes Go.ChangeAt Go.RowKit
open FP (Fr uN uK doneB bitsF bodyF tenF RS rsStep rs0 rsOf)

theorem lvl_one {c : Cl} (h : c.Ok) : lvlB [c] = c.drv := by
  unfold lvlB
  rcases ok_drv h with e | e <;> simp [e]
theorem lvl_two {c d : Cl} (h : c.Ok) (hd : d.drv = 49) : lvlB [c, d] = c.drv := by
  unfold lvlB
  rcases ok_drv h with e | e <;> simp [e, hd]
theorem lvl_low {c d : Cl} (hd : d.drv = 48) : lvlB [c, d] = 48 := by
  unfold lvlB
  simp [hd]
/-- One that waits, with a frame. -/
def waitC (x : Fr) (k : Nat) : Cl := { zCl.give x with n := k }
theorem wait_ok {x : Fr} (hr : FP.rightB x = true) {k : Nat} (hk : k ≤ 10) : (waitC x k).Ok :=
  ⟨rfl, rfl, fun _ => hr, (fun e => by cases e), (by decide : (0 : Int) ≤ 0), (by decide : (0 : Int) ≤ 8), by show (0 : Int) ≤ k; omega, by show (k : Int) ≤ 10; omega, (fun e => by cases e), fun _ => ⟨rfl, rfl, rfl, rfl, rfl, rfl, rfl, rfl, rfl⟩, (fun e => by cases e)⟩
theorem wait_step (x : Fr) {k : Nat} (hk : k ≤ 10) : (waitC x k).drv = 49 ∧ (waitC x k).samp 49 = ev0 (if k = 10 then idleC.give x else waitC x (k + 1)) := by
  refine ⟨rfl, ?_⟩
  show ev0 (waitC x k).join1 = _
  congr 1
  unfold Cl.join1
  by_cases h : k = 10
  · subst h
    rw [if_pos (by rfl), if_pos rfl]
    rfl
  · rw [if_neg (by show ¬ (k : Int) = 10; omega), if_neg h]
    rfl
/-- Behind k bits alone. -/
structure AlnR (x : Fr) (k : Nat) (l : List Cl) (s : List Sn) : Prop where
  st : (k ≤ 10 ∧ l = [waitC x k] ∧ s = []) ∨ (11 ≤ k ∧ ∃ c e p, l = [c] ∧ c.Ok ∧ Aln x c e p ∧ s.length = e ∧ (∀ y ∈ s, y.kind = 3 ∧ y.bad = 14) ∧ (p ≤ aloneP x → k ≤ 180 * e + p + 11) ∧ (aloneP x < p → k + 180 ≤ 180 * e + p + 11))
theorem aln_run {x : Fr} (hr : FP.rightB x = true) : ∀ k, AlnR x k (itB [waitC x 0] k) (snB [waitC x 0] 0 k)
  | 0 => ⟨.inl ⟨by omega, rfl, rfl⟩⟩
  | k + 1 => by
    have hm := FP.body_le hr
    have hP : aloneP x = (bodyF x).length + 1 := rfl
    rcases (aln_run hr k).st with ⟨h1, h2, h3⟩ | ⟨h1, c, e, p, h2, h3, h4, h5, h6, h7, h8⟩
    · have hl : lvlB [waitC x k] = 49 := (lvl_one (wait_ok hr h1)).trans (wait_step x h1).1
      have he : evB [waitC x k] = [ev0 (if k = 10 then idleC.give x else waitC x (k + 1))] := by
        unfold evB
        rw [hl, List.map_cons, List.map_nil, (wait_step x h1).2]
      have hs : snB [waitC x 0] 0 (k + 1) = [] := by
        rw [snB, h3, h2, he]
        rfl
      have hi : itB [waitC x 0] (k + 1) = [if k = 10 then idleC.give x else waitC x (k + 1)] := by
        rw [itB, h2]
        unfold stpB
        rw [he]
        rfl
      rw [hs, hi]
      by_cases h10 : k = 10
      · subst h10
        rw [if_pos rfl]
        refine ⟨.inr ⟨by omega, idleC.give x, 0, 0, rfl, idle_ok.give rfl hr, ⟨rfl, rfl, rfl, rfl, rfl, rfl, .inl ⟨rfl, rfl⟩⟩, rfl, (fun y hy => by cases hy), fun _ => by omega, fun q => by omega⟩⟩
      · rw [if_neg h10]
        exact ⟨.inl ⟨by omega, rfl, rfl⟩⟩
    · have hl : lvlB [c] = c.drv := lvl_one h3
      have he : evB [c] = [c.samp c.drv] := by
        unfold evB
        rw [hl]
        rfl
      have hi : itB [waitC x 0] (k + 1) = [(c.samp c.drv).c] := by
        rw [itB, h2]
        unfold stpB
        rw [he]
        rfl
      have hok : (c.samp c.drv).c.Ok := h3.samp _ (ok_drv h3)
      have hle := (aln_le h3 h4).1
      rw [hi, snB, h2, he]
      rcases aln_step hr h3 h4 with ⟨a1, a2, a3, a4⟩ | ⟨a1, a2, a3⟩
      · refine ⟨.inr ⟨by omega, _, e + 1, p + 1, rfl, hok, a4, ?_, fun y hy => ?_, fun q => by omega, fun _ => ?_⟩⟩
        · rw [List.length_append, h5]
          simp [seens, a2]
        · rw [List.mem_append] at hy
          rcases hy with hy | hy
          · exact h6 y hy
          · simp only [seens] at hy
            rw [if_neg (by rw [a2]; decide), List.mem_singleton] at hy
            rw [hy]
            exact ⟨a2, a3⟩
        · have := h7 (by omega)
          omega
      · refine ⟨.inr ⟨by omega, _, e, nextP x e p, rfl, hok, a3, ?_, fun y hy => ?_, fun q => ?_, fun q => ?_⟩⟩
        · rw [List.length_append, h5]
          simp [seens, a2]
        · rw [List.mem_append] at hy
          rcases hy with hy | hy
          · exact h6 y hy
          · simp only [seens] at hy
            rw [if_pos a2] at hy
            cases hy
        · unfold nextP at q ⊢
          split
          · have := h8 (by omega)
            omega
          · rw [if_neg (by assumption)] at q
            have := h7 (by omega)
            omega
        · unfold nextP at q ⊢
          split
          · rw [if_pos (by assumption)] at q; omega
          · rw [if_neg (by assumption)] at q
            have := h8 (by omega)
            omega
/-- Behind 4000 bits alone. -/
theorem aln_end {x : Fr} (hr : FP.rightB x = true) : ∃ c e p, itB [waitC x 0] 4000 = [c] ∧ c.Ok ∧ Aln x c e p ∧ 17 ≤ e ∧ (snB [waitC x 0] 0 4000).length = e ∧ ∀ y ∈ snB [waitC x 0] 0 4000, y.kind = 3 ∧ y.bad = 14 := by
  have hm := FP.body_le hr
  have hP : aloneP x = (bodyF x).length + 1 := rfl
  rcases (aln_run hr 4000).st with ⟨h1, _⟩ | ⟨h1, c, e, p, h2, h3, h4, h5, h6, h7, h8⟩
  · omega
  · have hle := (aln_le h3 h4).1
    refine ⟨c, e, p, h2, h3, h4, ?_, h5, h6⟩
    by_cases q : p ≤ aloneP x
    · have := h7 q; omega
    · have := h8 (by omega); omega

/-- How many recessive bits stand last behind i bits of a frame. -/
def trl (x : Fr) (i : Nat) : Nat := if (rsOf ((bodyF x).take i)).last = 49 then (rsOf ((bodyF x).take i)).n else 0
theorem rs_n5 {x : Fr} (hr : FP.rightB x = true) {i : Nat} (hi : i ≤ (bodyF x).length) : (rsOf ((bodyF x).take i)).n ≤ 5 := by
  induction i with
  | zero => rw [List.take_zero]; decide
  | succ i ih =>
    have hb : (bodyF x)[i]? = some (bodyF x)[i] := List.getElem?_eq_getElem (by omega)
    rw [take_snoc hb, FP.rsOf_snoc]
    exact (FP.uN_le (ih (by omega)) _).2
theorem trl_le {x : Fr} (hr : FP.rightB x = true) {i : Nat} (hi : i ≤ (bodyF x).length) : trl x i ≤ 5 := by
  unfold trl
  split
  · exact rs_n5 hr hi
  · omega
theorem trl_step {x : Fr} (hr : FP.rightB x = true) {i : Nat} (hi : i < (bodyF x).length) (hb : (bodyF x)[i]? = some 49) : trl x i + 1 ≤ trl x (i + 1) := by
  have F := FP.fol_body hr (j := i) (by omega)
  have he := F.err 49 hb
  unfold trl
  rw [take_snoc hb, FP.rsOf_snoc]
  generalize rsOf ((bodyF x).take i) = r at *
  obtain ⟨last, n, got⟩ := r
  dsimp only at he
  show (if last = 49 then n else 0) + 1 ≤ (if (49 : UInt8) = 49 then uN last n 49 else 0)
  rw [if_pos rfl]
  unfold uN
  unfold FP.uK at he
  by_cases h5 : n = 5
  · rw [if_pos h5] at he ⊢
    by_cases hl : last = 49
    · rw [if_pos hl.symm] at he
      exact absurd rfl he
    · rw [if_neg hl, if_neg (fun q => hl q.symm)]
      omega
  · rw [if_neg h5]
    by_cases hl : last = 49
    · rw [if_pos hl, if_pos hl.symm]
      omega
    · rw [if_neg hl, if_neg (fun q => hl q.symm)]
      omega

/-- Nothing is sent, nothing comes. -/
structure Quiet (c : Cl) : Prop where
  ok : c.Ok
  has : c.has = false
  st : c.st = 1 ∨ c.st = 6 ∨ c.st = 7
theorem quiet_step {c : Cl} (h : Quiet c) : c.drv = 49 ∧ Quiet (c.samp 49).c ∧ (c.samp 49).kind = 0 := by
  have hok := h.ok.samp 49 (.inr rfl)
  rcases h.st with h1 | h1 | h1
  · refine ⟨by unfold Cl.drv; rw [if_pos h1, if_neg (by rw [h.has]; decide)], ?_⟩
    have e : c.samp 49 = ev0 c := by
      unfold Cl.samp
      rw [if_neg (by omega), if_pos h1, if_neg (by decide)]
    rw [e]
    exact ⟨h, rfl⟩
  · refine ⟨by unfold Cl.drv; rw [if_neg (by omega), if_neg (by omega), if_neg (by omega)], ?_⟩
    have e : c.samp 49 = ev0 c.gap1 := by
      unfold Cl.samp
      rw [if_neg (by omega), if_neg (by omega), if_neg (by omega), if_neg (by omega), if_neg (by omega), if_neg (by omega), if_pos h1, if_neg (by decide)]
    rw [e] at hok ⊢
    refine ⟨⟨hok, ?_, ?_⟩, rfl⟩
    · show c.gap1.has = false
      unfold Cl.gap1
      split
      · split <;> exact h.has
      · exact h.has
    · show c.gap1.st = 1 ∨ c.gap1.st = 6 ∨ c.gap1.st = 7
      unfold Cl.gap1
      split
      · split
        · exact .inr (.inr rfl)
        · exact .inl rfl
      · exact .inr (.inl h1)
  · refine ⟨by unfold Cl.drv; rw [if_neg (by omega), if_neg (by omega), if_neg (by omega)], ?_⟩
    have e : c.samp 49 = ev0 c.hold1 := by
      unfold Cl.samp
      rw [if_neg (by omega), if_neg (by omega), if_neg (by omega), if_neg (by omega), if_neg (by omega), if_neg (by omega), if_neg (by omega), if_pos h1, if_neg (by decide)]
    rw [e] at hok ⊢
    refine ⟨⟨hok, ?_, ?_⟩, rfl⟩
    · show c.hold1.has = false
      unfold Cl.hold1
      split <;> exact h.has
    · show c.hold1.st = 1 ∨ c.hold1.st = 6 ∨ c.hold1.st = 7
      unfold Cl.hold1
      split
      · exact .inl rfl
      · exact .inr (.inr h1)

/-- One that joins. -/
def joinC (k : Nat) : Cl := { zCl with n := k }
theorem join_high {k : Nat} (hk : k ≤ 10) : (joinC k).drv = 49 ∧ (joinC k).samp 49 = ev0 (if k = 10 then idleC else joinC (k + 1)) := by
  refine ⟨rfl, ?_⟩
  show ev0 (joinC k).join1 = _
  congr 1
  unfold Cl.join1
  by_cases h : k = 10
  · subst h
    rw [if_pos (by rfl), if_pos rfl]
    rfl
  · rw [if_neg (by show ¬ (k : Int) = 10; omega), if_neg h]
    rfl
theorem join_low (k : Nat) : (joinC k).samp 48 = ev0 (joinC 0) := rfl
theorem idle_high : idleC.drv = 49 ∧ idleC.samp 49 = ev0 idleC := ⟨rfl, rfl⟩

def sentN (s : List Sn) : Nat := (s.filter fun y => y.kind == 1).length
theorem sentN_app (a b : List Sn) : sentN (a ++ b) = sentN a + sentN b := by unfold sentN; rw [List.filter_append, List.length_append]
theorem sent_two (now : Int) (a b : Mc) : sentN (seens now 0 [a, b]) = (if a.kind = 1 then 1 else 0) + (if b.kind = 1 then 1 else 0) := by
  unfold sentN
  simp only [seens]
  by_cases h1 : a.kind = 0
  · rw [if_pos h1, if_neg (show ¬ a.kind = 1 by omega)]
    by_cases h2 : b.kind = 0
    · rw [if_pos h2, if_neg (show ¬ b.kind = 1 by omega)]; rfl
    · rw [if_neg h2]
      by_cases h3 : b.kind = 1 <;> simp [h3]
  · rw [if_neg h1]
    by_cases h2 : b.kind = 0
    · rw [if_pos h2, if_neg (show ¬ b.kind = 1 by omega)]
      by_cases h3 : a.kind = 1 <;> simp [h3]
    · rw [if_neg h2]
      by_cases h3 : b.kind = 1 <;> by_cases h4 : a.kind = 1 <;> simp [h3, h4]

/-- Two on a bus: the first one with its frame, the other one new; t bits behind. -/
def Duo (x : Fr) (t sent : Nat) (l : List Cl) : Prop :=
  (∃ c k e p, l = [c, joinC k] ∧ sent = 0 ∧ c.Ok ∧ Aln x c e p ∧ 16 ≤ e ∧ k ≤ 10 ∧ (1 ≤ p → p ≤ (bodyF x).length → k ≤ trl x p) ∧ (p = (bodyF x).length + 1 → k ≤ 6) ∧ (p = 0 ∨ t ≤ p ∨ (t ≤ (bodyF x).length + 27 + p ∧ 1 ≤ p ∧ ((bodyF x).length ≤ p → p ≤ (bodyF x).length + k))) ∧ (p = 0 → t ≤ (bodyF x).length + 27)) ∨
  (∃ c e p, l = [c, idleC] ∧ sent = 0 ∧ c.Ok ∧ Aln x c e p ∧ 16 ≤ e ∧ (bodyF x).length + 1 < p ∧ t ≤ (bodyF x).length + 27 + p) ∨
  (∃ g i, l = [sndS g x i, rcvS idleC x i] ∧ sent = 0 ∧ i < (bitsF x).length ∧ t ≤ 2 * (bodyF x).length + 54 + i ∧ g.Ok ∧ g.st = 1 ∧ g.has = true ∧ g.f = x) ∨
  (∃ c d, l = [c, d] ∧ sent = 1 ∧ Quiet c ∧ Quiet d)
theorem aln_hush {x : Fr} {c : Cl} {e p : Nat} (h : Aln x c e p) (h16 : 16 ≤ e) (hp : aloneP x < p) : c.drv = 49 := by
  have hso := aln_stOf h
  rw [if_neg (by omega)] at hso
  rcases h.st with ⟨h1, h2⟩ | ⟨h1, h2, h3, h4⟩ | ⟨h1, h2, h3, h4⟩ | ⟨h1, h2, h3⟩ | ⟨h1, h2, h3⟩ | ⟨h1, h2, h3⟩ | ⟨h1, h2, h3⟩
  · omega
  · omega
  · unfold Cl.drv
    rw [if_neg (by omega), if_neg (by omega), if_pos h1, h4, hso]
    rfl
  · unfold Cl.drv; rw [if_neg (by omega), if_neg (by omega), if_neg (by omega)]
  · unfold Cl.drv; rw [if_neg (by omega), if_neg (by omega), if_neg (by omega)]
  · unfold Cl.drv; rw [if_neg (by omega), if_neg (by omega), if_neg (by omega)]
  · unfold Cl.drv; rw [if_neg (by omega), if_neg (by omega), if_neg (by omega)]
theorem aln_idle {x : Fr} {c : Cl} {e : Nat} (hk : c.Ok) (h : Aln x c e 0) : c.st = 1 := by
  have hn := hk.n0
  rcases h.st with ⟨h1, h2⟩ | ⟨h1, h2, h3, h4⟩ | ⟨h1, h2, h3, h4⟩ | ⟨h1, h2, h3⟩ | ⟨h1, h2, h3⟩ | ⟨h1, h2, h3⟩ | ⟨h1, h2, h3⟩
  · exact h1
  all_goals omega
theorem aln_frame {x : Fr} {c : Cl} {e p : Nat} (hk : c.Ok) (h : Aln x c e p) (h1 : 1 ≤ p) (h2 : p ≤ aloneP x) {b : UInt8} (hb : (bitsF x)[p]? = some b) : c.drv = b := by
  have hn := hk.n0
  rcases h.st with ⟨h1, h2⟩ | ⟨h1, h2, h3, h4⟩ | ⟨h1, h2, h3, h4⟩ | ⟨h1, h2, h3⟩ | ⟨h1, h2, h3⟩ | ⟨h1, h2, h3⟩ | ⟨h1, h2, h3⟩
  · omega
  · rw [h4, mid_drvS hb]
  all_goals omega
theorem quiet_snd {g : Cl} {x : Fr} (hr : FP.rightB x = true) (hg : g.Ok) (h1 : g.st = 1) (hh : g.has = true) (hf : g.f = x) : Quiet (sndS g x (bitsF x).length) := by
  have hl := FP.body_len x
  have e : sndS g x (bitsF x).length = (mid g true x ((bodyF x).length + 9)).sent := by unfold sndS; rw [if_neg (by omega), if_neg (by omega)]
  refine ⟨snd_ok hg hr h1 hh hf _ (Nat.le_refl _), by rw [e]; rfl, .inr (.inl ?_)⟩
  rw [e]
  unfold Cl.sent
  show (((mid g true x ((bodyF x).length + 9)).to 6).count 1).st = 6
  unfold Cl.count
  split <;> rfl
theorem quiet_rcv {x : Fr} (hr : FP.rightB x = true) : Quiet (rcvS idleC x (bitsF x).length) :=
  ⟨rcv_ok idle_ok hr rfl rfl _ (Nat.le_refl _), by rw [rcv_end]; rfl, by rw [rcv_end]; exact .inr (.inl rfl)⟩
theorem stp_two {c d : Cl} {b : UInt8} (hb : lvlB [c, d] = b) : evB [c, d] = [c.samp b, d.samp b] ∧ stpB [c, d] = [(c.samp b).c, (d.samp b).c] := by
  unfold stpB evB
  rw [hb]
  exact ⟨rfl, rfl⟩
theorem duo_step {x : Fr} (hr : FP.rightB x = true) {t sent : Nat} {l : List Cl} (h : Duo x t sent l) (now : Int) : Duo x (t + 1) (sent + sentN (seens now 0 (evB l))) (stpB l) := by
  have hm := FP.body_le hr
  have hge := FP.body_ge hr
  have hl := FP.body_len x
  have hP : aloneP x = (bodyF x).length + 1 := rfl
  rcases h with ⟨c, k, e, p, rfl, rfl, hok, ha, h16, hk, ht, h6, hw, h0⟩ | ⟨c, e, p, rfl, rfl, hok, ha, h16, hp, ht⟩ | ⟨g, i, rfl, rfl, hi, ht, hg, h1, hh, hf⟩ | ⟨c, d, rfl, rfl, hc, hd⟩
  · have hlv : lvlB [c, joinC k] = c.drv := lvl_two hok rfl
    obtain ⟨ev, st⟩ := stp_two hlv
    have hle := (aln_le hok ha).1
    rw [ev, st, sent_two]
    have hok2 : (c.samp c.drv).c.Ok := hok.samp _ (ok_drv hok)
    by_cases p0 : p = 0
    · subst p0
      have hs1 := aln_idle hok ha
      have hdv : c.drv = 48 := by unfold Cl.drv; rw [if_pos hs1, if_pos ha.has]
      rcases aln_step hr hok ha with ⟨a1, _⟩ | ⟨a1, a2, a3⟩
      · omega
      · rw [hdv] at a2 a3 hok2 ⊢
        rw [join_low, a2]
        have en : nextP x e 0 = 1 := if_neg (by omega)
        rw [en] at a3
        exact .inl ⟨_, 0, e, 1, rfl, rfl, hok2, a3, h16, by omega, fun _ _ => Nat.zero_le _, fun q => by omega, .inr (.inr ⟨by have := h0 rfl; omega, by omega, fun q => by omega⟩), fun q => by omega⟩
    · by_cases pm : p ≤ aloneP x
      · have hb : (bitsF x)[p]? = some (bitsF x)[p] := List.getElem?_eq_getElem (by omega)
        have hdv := aln_frame hok ha (by omega) pm hb
        have hbit := FP.bits_bits x _ (List.getElem_mem (l := bitsF x) (n := p) (by omega))
        have hk5 : k ≤ 6 := by
          by_cases q : p ≤ (bodyF x).length
          · have := ht (by omega) q
            have := trl_le hr q
            omega
          · exact h6 (by omega)
        have kn : k ≠ 10 := by omega
        rcases aln_step hr hok ha with ⟨a1, a2, a3, a4⟩ | ⟨a1, a2, a3⟩
        · have hb49 : c.drv = 49 := by rw [hdv]; have := bits_tail x (i := p) (by omega) (by omega); rw [hb] at this; exact Option.some.inj this
          rw [hb49] at a2 a4 hok2 ⊢
          rw [(join_high hk).2, if_neg kn, a2]
          exact .inl ⟨_, k + 1, e + 1, p + 1, rfl, rfl, hok2, a4, by omega, by omega, fun _ q => by omega, fun q => by omega, by omega, fun q => by omega⟩
        · have en : nextP x e p = p + 1 := if_neg (by omega)
          rw [en] at a3
          have hpm : p ≤ (bodyF x).length := by omega
          rcases hbit with hbit | hbit
          · rw [hbit] at hdv hb
            have hlt : p < (bodyF x).length := by
              rcases Nat.lt_or_ge p (bodyF x).length with q | q
              · exact q
              · have := bits_tail x (i := p) q (by omega)
                rw [hb] at this
                exact absurd (Option.some.inj this) (by decide)
            rw [hdv] at a2 a3 hok2 ⊢
            rw [join_low, a2]
            exact .inl ⟨_, 0, e, p + 1, rfl, rfl, hok2, a3, h16, by omega, fun _ _ => Nat.zero_le _, fun q => by omega, by omega, fun q => by omega⟩
          · rw [hbit] at hdv hb
            rw [hdv] at a2 a3 hok2 ⊢
            rw [(join_high hk).2, if_neg kn, a2]
            have ht5 := ht (by omega) hpm
            have ht6 := trl_le hr hpm
            refine .inl ⟨_, k + 1, e, p + 1, rfl, rfl, hok2, a3, h16, by omega, fun _ q => ?_, fun q => by omega, by omega, fun q => by omega⟩
            have h1 := trl_step hr (i := p) (by omega) (by rw [← FP.body_get x p (by omega)]; exact hb)
            have h2 := ht (by omega) hpm
            omega
      · have hdv := aln_hush ha h16 (by omega)
        rcases aln_step hr hok ha with ⟨a1, _⟩ | ⟨a1, a2, a3⟩
        · omega
        · rw [hdv] at a2 a3 hok2 ⊢
          rw [(join_high hk).2, a2]
          have hnx : nextP x e p = 0 ∧ p = aloneP x + 25 ∨ nextP x e p = p + 1 := by
            unfold nextP
            by_cases q : p = aloneP x + 25
            · exact .inl ⟨if_pos (.inl q), q⟩
            · exact .inr (if_neg (by omega))
          by_cases k10 : k = 10
          · rw [if_pos k10]
            rcases hnx with ⟨q1, q2⟩ | q1
            · rw [q1] at a3
              refine .inr (.inr (.inl ⟨(c.samp 49).c, 0, ?_, rfl, by omega, by omega, hok2, aln_idle hok2 a3, a3.has, a3.f⟩))
              rw [show sndS (c.samp 49).c x 0 = (c.samp 49).c from if_pos rfl, show rcvS idleC x 0 = idleC from if_pos rfl]
              rfl
            · rw [q1] at a3
              exact .inr (.inl ⟨_, e, p + 1, rfl, rfl, hok2, a3, h16, by omega, by omega⟩)
          · rw [if_neg k10]
            rcases hnx with ⟨q1, q2⟩ | q1
            · rw [q1] at a3
              exact .inl ⟨_, k + 1, e, 0, rfl, rfl, hok2, a3, h16, by omega, fun q => by omega, fun q => by omega, by omega, fun _ => by omega⟩
            · rw [q1] at a3
              exact .inl ⟨_, k + 1, e, p + 1, rfl, rfl, hok2, a3, h16, by omega, fun _ q => by omega, fun q => by omega, by omega, fun q => by omega⟩
  · have hlv : lvlB [c, idleC] = c.drv := lvl_two hok rfl
    obtain ⟨ev, st⟩ := stp_two hlv
    have hle := (aln_le hok ha).1
    have hdv := aln_hush ha h16 (by omega)
    have hok2 : (c.samp c.drv).c.Ok := hok.samp _ (ok_drv hok)
    rw [ev, st, sent_two]
    rcases aln_step hr hok ha with ⟨a1, _⟩ | ⟨a1, a2, a3⟩
    · omega
    · rw [hdv] at a2 a3 hok2 ⊢
      rw [idle_high.2, a2]
      have hnx : nextP x e p = 0 ∧ p = aloneP x + 25 ∨ nextP x e p = p + 1 := by
        unfold nextP
        by_cases q : p = aloneP x + 25
        · exact .inl ⟨if_pos (.inl q), q⟩
        · exact .inr (if_neg (by omega))
      rcases hnx with ⟨q1, q2⟩ | q1
      · rw [q1] at a3
        refine .inr (.inr (.inl ⟨(c.samp 49).c, 0, ?_, rfl, by omega, by omega, hok2, aln_idle hok2 a3, a3.has, a3.f⟩))
        rw [show sndS (c.samp 49).c x 0 = (c.samp 49).c from if_pos rfl, show rcvS idleC x 0 = idleC from if_pos rfl]
        rfl
      · rw [q1] at a3
        exact .inr (.inl ⟨_, e, p + 1, rfl, rfl, hok2, a3, h16, by omega, by omega⟩)
  · obtain ⟨b, hb, hbit⟩ := bits_some x hi
    have s1 := snd_step hr h1 hh hf hi hb
    have s2 := rcv_step (c := idleC) hr rfl rfl hi hb
    have hoks : (sndS g x i).Ok := snd_ok hg hr h1 hh hf i (by omega)
    have hlv : lvlB [sndS g x i, rcvS idleC x i] = busB x i b := by
      unfold busB
      by_cases q : i = (bodyF x).length + 1
      · rw [if_pos q]
        exact lvl_low (by rw [s2.1, if_pos q])
      · rw [if_neg q, lvl_two hoks (by rw [s2.1, if_neg q]), s1.1]
    obtain ⟨ev, st⟩ := stp_two hlv
    rw [ev, st, sent_two, s1.2, s2.2]
    have k2 : ¬ (if i = (bodyF x).length + 8 then (2 : Int) else 0) = 1 := by split <;> decide
    show Duo x (t + 1) (0 + ((if (if i + 1 = (bitsF x).length then (1 : Int) else 0) = 1 then 1 else 0) + (if (if i = (bodyF x).length + 8 then (2 : Int) else 0) = 1 then 1 else 0))) [sndS g x (i + 1), rcvS idleC x (i + 1)]
    rw [if_neg k2]
    by_cases hn : i + 1 = (bitsF x).length
    · rw [if_pos hn, if_pos rfl]
      refine .inr (.inr (.inr ⟨_, _, rfl, rfl, ?_, ?_⟩))
      · rw [hn]; exact quiet_snd hr hg h1 hh hf
      · rw [hn]; exact quiet_rcv hr
    · rw [if_neg hn, if_neg (by decide)]
      exact .inr (.inr (.inl ⟨g, i + 1, rfl, rfl, by omega, by omega, hg, h1, hh, hf⟩))
  · obtain ⟨c1, c2, c3⟩ := quiet_step hc
    obtain ⟨d1, d2, d3⟩ := quiet_step hd
    have hlv : lvlB [c, d] = 49 := by rw [lvl_two hc.ok d1, c1]
    obtain ⟨ev, st⟩ := stp_two hlv
    rw [ev, st, sent_two, c3, d3]
    exact .inr (.inr (.inr ⟨_, _, rfl, rfl, c2, d2⟩))
theorem duo_zero {x : Fr} {c : Cl} {e p : Nat} (hok : c.Ok) (ha : Aln x c e p) (h16 : 16 ≤ e) : Duo x 0 0 [c, zCl] :=
  .inl ⟨c, 0, e, p, rfl, rfl, hok, ha, h16, by omega, fun _ _ => Nat.zero_le _, fun _ => by omega, .inr (.inl (by omega)), fun _ => by omega⟩
theorem duo_run {x : Fr} (hr : FP.rightB x = true) {c : Cl} {e p : Nat} (hok : c.Ok) (ha : Aln x c e p) (h16 : 16 ≤ e) (now : Int) : ∀ k, Duo x k (sentN (snB [c, zCl] now k)) (itB [c, zCl] k)
  | 0 => duo_zero hok ha h16
  | k + 1 => by
    have := duo_step hr (duo_run hr hok ha h16 now k) (now + k)
    rw [snB, sentN_app]
    exact this
/-- Behind 600 bits it is sent once. -/
theorem duo_end {x : Fr} (hr : FP.rightB x = true) {c : Cl} {e p : Nat} (hok : c.Ok) (ha : Aln x c e p) (h16 : 16 ≤ e) (now : Int) : sentN (snB [c, zCl] now 600) = 1 ∧ ∃ a b, itB [c, zCl] 600 = [a, b] ∧ a.has = false := by
  have hm := FP.body_le hr
  have hl := FP.body_len x
  have hP : aloneP x = (bodyF x).length + 1 := rfl
  rcases duo_run hr hok ha h16 now 600 with ⟨d, k, e', p', h1, h2, h3, h4, h5, h6, h7, h8, h9, h10⟩ | ⟨d, e', p', h1, h2, h3, h4, h5, h6, h7⟩ | ⟨g, i, h1, h2, h3, h4, _⟩ | ⟨a, b, h1, h2, h3, h4⟩
  · have := (aln_le h3 h4).1
    omega
  · have := (aln_le h3 h4).1
    omega
  · omega
  · exact ⟨h2, a, b, h1, h3.has⟩
end Go.Proofs.YtkfedgjepiljiaaGreatDoor
