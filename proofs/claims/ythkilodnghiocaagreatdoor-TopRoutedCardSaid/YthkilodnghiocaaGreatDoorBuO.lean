/- Plain: BusOrder: frames that are submitted at once are sent in the order in which they win. -/
import Derived.Test.YthkilodnghiocaaGreatDoorMgBuP
import Derived.Test.YthkilodnghiocaaGreatDoorMgCsLP
namespace Go.Proofs.YthkilodnghiocaaGreatDoor
open Go.ChangeShapes Go.WideShapes Go.ChangeAt Go.RowKit
open FP (Fr uN uK doneB bitsF bodyF tenF)
open OP (atF bestTo orderF)

/-- It has joined, nothing counted. -/
structure Idl (c : Cl) : Prop where
  ok : c.Ok
  st : c.st = 1
  tc : c.tc = 0
  rc : c.rc = 0
theorem idl_idle : Idl idleC := ⟨idle_ok, rfl, rfl, rfl⟩
/-- Within reach of a frame g: it is its own, it loses to it, or it has none. -/
structure Par (g : Fr) (c : Cl) : Prop where
  idl : Idl c
  own : c.has = true → fieldF c.f = fieldF g → c.f = g
  less : c.has = true → fieldF c.f ≠ fieldF g → FP.rightB c.f = true ∧ lessB g c.f = true
def winB (g : Fr) (c : Cl) : Bool := c.has && decide (fieldF c.f = fieldF g)
noncomputable def dAt (f g : Fr) : Nat := open Classical in if h : ∃ d, Lz f g d then h.choose else 0
theorem dAt_lz {f g : Fr} (hf : FP.rightB f = true) (hg : FP.rightB g = true) (hl : lessB g f = true) : Lz f g (dAt f g) := by
  have h := lz_of hf hg hl
  unfold dAt
  rw [dif_pos h]
  exact h.choose_spec
/-- Behind i bits of the frame g. -/
noncomputable def rS (g : Fr) (c : Cl) (i : Nat) : Cl := if winB g c = true then sndS c g i else if c.has = true then lzS c c.f g (dAt c.f g) i else rcvS c g i
noncomputable def rK (g : Fr) (c : Cl) (i : Nat) : Int := if winB g c = true then (if i + 1 = (bitsF g).length then 1 else 0) else if c.has = true ∧ i = dAt c.f g then 4 else if i = (bodyF g).length + 8 then 2 else 0
theorem win_own {g : Fr} {c : Cl} (h : Par g c) (hw : winB g c = true) : c.has = true ∧ c.f = g := by
  unfold winB at hw
  rw [Bool.and_eq_true, decide_eq_true_eq] at hw
  exact ⟨hw.1, h.own hw.1 hw.2⟩
theorem win_not {g : Fr} {c : Cl} (h : Par g c) (hw : ¬ winB g c = true) (hh : c.has = true) : FP.rightB c.f = true ∧ lessB g c.f = true := by
  refine h.less hh fun e => hw ?_
  unfold winB
  rw [hh, decide_eq_true e]
  rfl
theorem rS_zero (g : Fr) (c : Cl) : rS g c 0 = c := by
  unfold rS
  split
  · exact if_pos rfl
  · split
    · unfold lzS
      rw [if_pos (Nat.zero_le _)]
      exact if_pos rfl
    · exact if_pos rfl
theorem rS_step {g : Fr} (hg : FP.rightB g = true) {c : Cl} (h : Par g c) {i : Nat} (hi : i < (bitsF g).length) {b : UInt8} (hb : (bitsF g)[i]? = some b) :
    ∃ ef, (rS g c i).samp (busB g i b) = ⟨rS g c (i + 1), rK g c i, ef, 0⟩ ∧ (rK g c i = 1 ∨ rK g c i = 2 → ef = g) := by
  have hl := FP.body_len g
  unfold rS rK
  by_cases hw : winB g c = true
  · obtain ⟨hh, hf⟩ := win_own h hw
    have := (snd_step hg h.idl.st hh hf hi hb).2
    rw [if_pos hw, if_pos hw, if_pos hw]
    refine ⟨_, this, fun q => ?_⟩
    by_cases e : i + 1 = (bitsF g).length
    · rw [if_pos e]
    · rw [if_neg e] at q
      rcases q with q | q <;> cases q
  · rw [if_neg hw, if_neg hw, if_neg hw]
    by_cases hh : c.has = true
    · obtain ⟨hr, hls⟩ := win_not h hw hh
      have hz := dAt_lz hr hg hls
      have := (lz_step hr hg hz h.idl.st hh rfl hi hb).2.2
      rw [if_pos hh, if_pos hh]
      refine ⟨if i = (bodyF g).length + 8 then g else zFr, ?_, fun q => ?_⟩
      · rw [this]
        by_cases e : i = dAt c.f g
        · rw [if_pos e, if_pos (show c.has = true ∧ i = dAt c.f g from ⟨hh, e⟩)]
        · rw [if_neg e, if_neg (show ¬ (c.has = true ∧ i = dAt c.f g) from fun q => e q.2)]
      · by_cases e : i = (bodyF g).length + 8
        · rw [if_pos e]
        · rw [if_neg e] at q
          split at q <;> rcases q with q | q <;> cases q
    · rw [if_neg hh, if_neg hh, if_neg (show ¬ (c.has = true ∧ i = dAt c.f g) from fun q => hh q.1)]
      refine ⟨_, (rcv_step hg h.idl.st (by simpa using hh) hi hb).2, fun q => ?_⟩
      by_cases e : i = (bodyF g).length + 8
      · rw [if_pos e]
      · rw [if_neg e] at q
        rcases q with q | q <;> cases q
theorem rS_ok {g : Fr} (hg : FP.rightB g = true) {c : Cl} (h : Par g c) {i : Nat} (hi : i ≤ (bitsF g).length) : (rS g c i).Ok := by
  unfold rS
  by_cases hw : winB g c = true
  · obtain ⟨hh, hf⟩ := win_own h hw
    rw [if_pos hw]
    exact snd_ok h.idl.ok hg h.idl.st hh hf i hi
  · rw [if_neg hw]
    by_cases hh : c.has = true
    · obtain ⟨hr, hls⟩ := win_not h hw hh
      rw [if_pos hh]
      exact lz_ok h.idl.ok hr hg (dAt_lz hr hg hls) h.idl.st hh rfl i hi
    · rw [if_neg hh]
      exact rcv_ok h.idl.ok hg h.idl.st (by simpa using hh) i hi
/-- What it drives: the winner the frame's own bits; none but it a dominant one, but where it tells that it came. -/
theorem rS_drv {g : Fr} (hg : FP.rightB g = true) {c : Cl} (h : Par g c) {i : Nat} (hi : i < (bitsF g).length) {b : UInt8} (hb : (bitsF g)[i]? = some b) :
    (winB g c = true → (rS g c i).drv = b) ∧ (i ≠ (bodyF g).length + 1 → b = 49 → (rS g c i).drv = 49) ∧ (i = (bodyF g).length + 1 → ¬ winB g c = true → (rS g c i).drv = 48) := by
  have hl := FP.body_len g
  unfold rS
  by_cases hw : winB g c = true
  · obtain ⟨hh, hf⟩ := win_own h hw
    have := (snd_step hg h.idl.st hh hf hi hb).1
    rw [if_pos hw]
    exact ⟨fun _ => this, fun _ q => this.trans q, fun _ q => absurd hw q⟩
  · rw [if_neg hw]
    refine ⟨fun q => absurd q hw, ?_⟩
    by_cases hh : c.has = true
    · obtain ⟨hr, hls⟩ := win_not h hw hh
      have hz := dAt_lz hr hg hls
      have st := lz_step hr hg hz h.idl.st hh rfl hi hb
      have hzg := hz.lg
      have hzf := hz.lf
      have hlf := FP.body_len c.f
      rw [if_pos hh]
      refine ⟨fun q1 q2 => ?_, fun q1 _ => ?_⟩
      · rcases Nat.lt_trichotomy i (dAt c.f g) with e | e | e
        · have h1 := st.1 (by omega)
          have e2 : ((bodyF c.f).take (dAt c.f g))[i]? = (bodyF c.f)[i]? := List.getElem?_take_of_lt e
          have e3 : ((bodyF g).take (dAt c.f g))[i]? = (bodyF g)[i]? := List.getElem?_take_of_lt e
          rw [FP.body_get c.f i (by omega), ← e2, hz.same, e3, ← FP.body_get g i (by omega), hb, q2] at h1
          exact (Option.some.inj h1).symm
        · have h1 := hz.hg
          rw [← e, ← FP.body_get g i (by omega), hb, q2] at h1
          exact absurd (Option.some.inj h1) (by decide)
        · exact st.2.1 e (by omega)
      · have e0 : lzS c c.f g (dAt c.f g) i = rcvS c g i := if_neg (by omega)
        rw [e0, (rcv_on (c := c) hg (i := i) (by omega) hi hb).1, if_pos q1]
    · have st := (rcv_step (c := c) hg h.idl.st (by simpa using hh) hi hb).1
      rw [if_neg hh, st]
      exact ⟨fun q1 _ => if_neg q1, fun q1 _ => if_pos q1⟩

/-- The gap behind a frame. -/
structure Gp (d : Cl) (k : Int) : Prop where
  ok : d.Ok
  st : d.st = 6
  n : d.n = k
  tc : d.tc = 0
  rc : d.rc = 0
theorem gp_step {d : Cl} {k : Int} (h : Gp d k) (hk : k < 2) : d.drv = 49 ∧ (d.samp 49).kind = 0 ∧ Gp (d.samp 49).c (k + 1) ∧ (d.samp 49).c.has = d.has ∧ (d.samp 49).c.f = d.f := by
  have hok := h.ok.samp 49 (.inr rfl)
  have h1 := h.st
  refine ⟨by unfold Cl.drv; rw [if_neg (by omega), if_neg (by omega), if_neg (by omega)], ?_⟩
  have e : d.samp 49 = ev0 { d with n := d.n + 1 } := by
    unfold Cl.samp
    rw [if_neg (by omega), if_neg (by omega), if_neg (by omega), if_neg (by omega), if_neg (by omega), if_neg (by omega), if_pos h1, if_neg (by decide)]
    unfold Cl.gap1
    rw [if_neg (by rw [h.n]; omega)]
  rw [e] at hok ⊢
  exact ⟨rfl, ⟨hok, h1, by show d.n + 1 = k + 1; rw [h.n], h.tc, h.rc⟩, rfl, rfl⟩
theorem gp_end {d : Cl} (h : Gp d 2) : d.drv = 49 ∧ (d.samp 49).kind = 0 ∧ Idl (d.samp 49).c ∧ (d.samp 49).c.has = d.has ∧ (d.samp 49).c.f = d.f := by
  have hok := h.ok.samp 49 (.inr rfl)
  have h1 := h.st
  have ho : d.off = false := h.ok.on (by omega)
  refine ⟨by unfold Cl.drv; rw [if_neg (by omega), if_neg (by omega), if_neg (by omega)], ?_⟩
  have e : d.samp 49 = ev0 (d.to 1) := by
    unfold Cl.samp
    rw [if_neg (by omega), if_neg (by omega), if_neg (by omega), if_neg (by omega), if_neg (by omega), if_neg (by omega), if_pos h1, if_neg (by decide)]
    unfold Cl.gap1
    rw [if_pos h.n, if_neg]
    rintro ⟨_, q⟩
    rw [h.tc, h.rc, ho] at q
    cases q
  rw [e] at hok ⊢
  exact ⟨rfl, ⟨hok, rfl, h.tc, h.rc⟩, rfl, rfl⟩
theorem rS_end {g : Fr} (hg : FP.rightB g = true) {c : Cl} (h : Par g c) : Gp (rS g c (bitsF g).length) 0 ∧ (rS g c (bitsF g).length).has = (c.has && !winB g c) ∧ (¬ winB g c = true → (rS g c (bitsF g).length).f = c.f) := by
  have hl := FP.body_len g
  have hok := rS_ok hg h (i := (bitsF g).length) (Nat.le_refl _)
  have ho : c.off = false := h.idl.ok.on (by have := h.idl.st; omega)
  unfold rS at hok ⊢
  by_cases hw : winB g c = true
  · obtain ⟨hh, hf⟩ := win_own h hw
    rw [if_pos hw] at hok ⊢
    obtain ⟨s1, s2, s3, s4, _⟩ := snd_end (g := c) (f := g) h.idl.ok h.idl.st h.idl.tc h.idl.rc
    have e : sndS c g (bitsF g).length = (mid c true g ((bodyF g).length + 9)).sent := by unfold sndS; rw [if_neg (by omega), if_neg (by omega)]
    refine ⟨⟨hok, s2, ?_, s3, s4⟩, by rw [s1, hw]; simp, fun q => absurd hw q⟩
    rw [e]
    unfold Cl.sent
    show (((mid c true g ((bodyF g).length + 9)).to 6).count 1).n = 0
    unfold Cl.count
    split <;> rfl
  · rw [if_neg hw] at hok ⊢
    have hx : (if c.has = true then lzS c c.f g (dAt c.f g) (bitsF g).length else rcvS c g (bitsF g).length) = (mid (c.count 2) false g ((bodyF g).length + 9)).to 6 := by
      have e : rcvS c g (bitsF g).length = (mid (c.count 2) false g ((bodyF g).length + 9)).to 6 := by unfold rcvS; rw [if_neg (by omega), if_neg (by omega), if_neg (by omega)]
      by_cases hh : c.has = true
      · obtain ⟨hr, hls⟩ := win_not h hw hh
        have hz := (dAt_lz hr hg hls).lg
        rw [if_pos hh]
        have e2 : lzS c c.f g (dAt c.f g) (bitsF g).length = rcvS c g (bitsF g).length := if_neg (by omega)
        rw [e2, e]
      · rw [if_neg hh, e]
    rw [hx] at hok ⊢
    have hc2 : c.count 2 = { c with tc := 0, rc := 0 } := by
      unfold Cl.count
      rw [h.idl.tc, h.idl.rc]
      rfl
    have hwf : winB g c = false := by simpa using hw
    rw [hc2] at hok ⊢
    refine ⟨⟨hok, rfl, rfl, rfl, rfl⟩, ?_, fun _ => rfl⟩
    rw [hwf]
    show c.has = (c.has && !false)
    simp

/-- What one got, and how many were sent. -/
def hitB (i : Nat) (y : Sn) : Bool := decide (y.who = (i : Int)) && (decide (y.kind = 1) || decide (y.kind = 2))
def gotOf (i : Nat) (s : List Sn) : List Fr := (s.filter (hitB i)).map Sn.ef
def sentOf (s : List Sn) : Nat := (s.filter fun y => decide (y.kind = 1)).length
theorem gotOf_app (i : Nat) (a b : List Sn) : gotOf i (a ++ b) = gotOf i a ++ gotOf i b := by simp [gotOf]
theorem sentOf_app (a b : List Sn) : sentOf (a ++ b) = sentOf a + sentOf b := by simp [sentOf]
theorem gotOf_low (now : Int) (i : Nat) : ∀ (l : List Mc) (k : Nat), i < k → gotOf i (seens now k l) = []
  | [], _, _ => rfl
  | m :: l, k, h => by
    have ih := gotOf_low now i l (k + 1) (by omega)
    simp only [seens]
    split
    · exact ih
    · unfold gotOf at ih ⊢
      rw [List.filter_cons_of_neg]
      · exact ih
      · unfold hitB
        rw [decide_eq_false (show ¬ ((k : Nat) : Int) = (i : Int) by omega)]
        simp
theorem gotOf_seens (now : Int) (i : Nat) : ∀ (l : List Mc) (k : Nat) (m : Mc), k ≤ i → l[i - k]? = some m → gotOf i (seens now k l) = if m.kind = 1 ∨ m.kind = 2 then [m.ef] else []
  | [], _, _, _, h => by simp at h
  | a :: l, k, m, hk, h => by
    by_cases e : k = i
    · subst e
      rw [Nat.sub_self, List.getElem?_cons_zero, Option.some.injEq] at h
      subst h
      have low := gotOf_low now k l (k + 1) (by omega)
      simp only [seens]
      by_cases h0 : a.kind = 0
      · rw [if_pos h0, low, if_neg (by omega)]
      · rw [if_neg h0]
        unfold gotOf at low ⊢
        by_cases h12 : a.kind = 1 ∨ a.kind = 2
        · rw [if_pos h12, List.filter_cons_of_pos, List.map_cons, low]
          unfold hitB
          rw [decide_eq_true rfl]
          rcases h12 with q | q <;> simp [q]
        · rw [if_neg h12, List.filter_cons_of_neg, low]
          unfold hitB
          rw [decide_eq_false (show ¬ a.kind = 1 from fun q => h12 (.inl q)), decide_eq_false (show ¬ a.kind = 2 from fun q => h12 (.inr q))]
          simp
    · have h' : l[i - (k + 1)]? = some m := by
        rw [show i - k = (i - (k + 1)) + 1 by omega, List.getElem?_cons_succ] at h
        exact h
      have ih := gotOf_seens now i l (k + 1) m (by omega) h'
      simp only [seens]
      split
      · exact ih
      · rw [← ih]
        unfold gotOf
        rw [List.filter_cons_of_neg]
        unfold hitB
        rw [decide_eq_false (show ¬ ((k : Nat) : Int) = (i : Int) by omega)]
        simp
theorem sentOf_seens (now : Int) : ∀ (l : List Mc) (k : Nat), sentOf (seens now k l) = l.countP fun m => decide (m.kind = 1)
  | [], _ => rfl
  | a :: l, k => by
    have ih := sentOf_seens now l (k + 1)
    simp only [seens]
    by_cases h0 : a.kind = 0
    · rw [if_pos h0, ih, List.countP_cons_of_neg]
      simp [h0]
    · rw [if_neg h0]
      by_cases h1 : a.kind = 1
      · rw [List.countP_cons_of_pos (by simp [h1]), ← ih]
        unfold sentOf
        rw [List.filter_cons_of_pos (by simp [h1]), List.length_cons]
      · rw [List.countP_cons_of_neg (by simp [h1]), ← ih]
        unfold sentOf
        rw [List.filter_cons_of_neg (by simp [h1])]
theorem seens_kind (now : Int) : ∀ (l : List Mc) (k : Nat) (y : Sn), y ∈ seens now k l → ∃ m ∈ l, y.kind = m.kind ∧ m.kind ≠ 0
  | [], _, _, h => by cases h
  | a :: l, k, y, h => by
    simp only [seens] at h
    split at h
    · obtain ⟨m, hm, h⟩ := seens_kind now l (k + 1) y h
      exact ⟨m, List.mem_cons_of_mem _ hm, h⟩
    · rename_i h0
      rw [List.mem_cons] at h
      rcases h with rfl | h
      · exact ⟨a, List.mem_cons_self, rfl, h0⟩
      · obtain ⟨m, hm, h⟩ := seens_kind now l (k + 1) y h
        exact ⟨m, List.mem_cons_of_mem _ hm, h⟩
theorem countP_one {α : Type} (p : α → Bool) : ∀ (l : List α) (v : Nat), v < l.length → (∀ j c, l[j]? = some c → (p c = true ↔ j = v)) → l.countP p = 1
  | [], v, hv, _ => by simp at hv
  | a :: l, 0, _, h => by
    have ha := (h 0 a rfl).2 rfl
    rw [List.countP_cons_of_pos ha]
    have : l.countP p = 0 := by
      rw [List.countP_eq_zero]
      intro c hc
      obtain ⟨j, hj, rfl⟩ := List.getElem_of_mem hc
      intro q
      have := (h (j + 1) l[j] (by rw [List.getElem?_cons_succ]; exact List.getElem?_eq_getElem hj)).1 q
      omega
    omega
  | a :: l, v + 1, hv, h => by
    have ha : ¬ p a = true := fun q => by have := (h 0 a rfl).1 q; omega
    rw [List.countP_cons_of_neg ha]
    refine countP_one p l v (by simpa using hv) fun j c hj => ?_
    have := h (j + 1) c (by rw [List.getElem?_cons_succ]; exact hj)
    exact ⟨fun q => by have := this.1 q; omega, fun q => this.2 (by omega)⟩

/-- Controllers of which one wins with g. -/
structure Race (g : Fr) (l : List Cl) (v : Nat) : Prop where
  right : FP.rightB g = true
  par : ∀ c ∈ l, Par g c
  two : 2 ≤ l.length
  lt : v < l.length
  one : ∀ j c, l[j]? = some c → (winB g c = true ↔ j = v)
theorem race_lvl {g : Fr} {l : List Cl} {v : Nat} (h : Race g l v) {i : Nat} (hi : i < (bitsF g).length) {b : UInt8} (hb : (bitsF g)[i]? = some b) (hbit : b = 48 ∨ b = 49) : lvlB (l.map (rS g · i)) = busB g i b := by
  have hv := h.lt
  have hvm : l[v] ∈ l := List.getElem_mem hv
  have hwin : winB g l[v] = true := (h.one v l[v] (List.getElem?_eq_getElem hv)).2 rfl
  have key : (l.map (rS g · i)).any (fun c => c.drv == 48) = true ↔ busB g i b = 48 := by
    rw [List.any_eq_true]
    unfold busB
    by_cases q : i = (bodyF g).length + 1
    · rw [if_pos q]
      refine ⟨fun _ => rfl, fun _ => ?_⟩
      obtain ⟨u, hu, huv⟩ : ∃ u, u < l.length ∧ u ≠ v := by
        have := h.two
        by_cases e : v = 0
        · exact ⟨1, by omega, by omega⟩
        · exact ⟨0, by omega, fun e2 => e e2.symm⟩
      refine ⟨rS g l[u] i, List.mem_map.2 ⟨l[u], List.getElem_mem hu, rfl⟩, ?_⟩
      have hnw : ¬ winB g l[u] = true := fun e => huv ((h.one u l[u] (List.getElem?_eq_getElem hu)).1 e)
      rw [(rS_drv h.right (h.par _ (List.getElem_mem hu)) hi hb).2.2 q hnw]
      rfl
    · rw [if_neg q]
      refine ⟨?_, fun e => ⟨rS g l[v] i, List.mem_map.2 ⟨l[v], hvm, rfl⟩, ?_⟩⟩
      · rintro ⟨d, hd, e⟩
        rw [List.mem_map] at hd
        obtain ⟨c, hc, rfl⟩ := hd
        rcases hbit with hbit | hbit
        · exact hbit
        · rw [(rS_drv h.right (h.par c hc) hi hb).2.1 q hbit] at e
          exact absurd e (by decide)
      · rw [(rS_drv h.right (h.par _ hvm) hi hb).1 hwin, e]
        rfl
  unfold lvlB
  by_cases q : (l.map (rS g · i)).any (fun c => c.drv == 48) = true
  · rw [if_pos q, key.1 q]
  · rw [if_neg q]
    rcases busB_bit (f := g) (i := i) hbit with e | e
    · exact absurd (key.2 e) q
    · exact e.symm
/-- One bit of a race. -/
theorem race_ev {g : Fr} {l : List Cl} {v : Nat} (h : Race g l v) {i : Nat} (hi : i < (bitsF g).length) :
    stpB (l.map (rS g · i)) = l.map (rS g · (i + 1)) ∧ (∀ (j : Nat) (c : Cl), l[j]? = some c → ∃ m, (evB (l.map (rS g · i)))[j]? = some m ∧ m.kind = rK g c i ∧ (m.kind = 1 ∨ m.kind = 2 → m.ef = g)) ∧ (evB (l.map (rS g · i))).length = l.length := by
  obtain ⟨b, hb, hbit⟩ := bits_some g hi
  have hl := race_lvl h hi hb hbit
  unfold stpB evB
  rw [hl]
  refine ⟨?_, fun j c hc => ?_, by simp⟩
  · rw [List.map_map, List.map_map]
    refine List.map_congr_left fun c hc => ?_
    obtain ⟨ef, e, _⟩ := rS_step h.right (h.par c hc) hi hb
    show ((rS g c i).samp (busB g i b)).c = _
    rw [e]
  · obtain ⟨ef, e, he⟩ := rS_step h.right (h.par c (List.mem_of_getElem? hc)) hi hb
    refine ⟨(rS g c i).samp (busB g i b), ?_, by rw [e], fun q => ?_⟩
    · rw [List.getElem?_map, List.getElem?_map, hc]; rfl
    · rw [e] at q ⊢
      exact he q
def hitP (g : Fr) (c : Cl) : Nat := if winB g c = true then (bitsF g).length - 1 else (bodyF g).length + 8
theorem rK_hit {g : Fr} (hg : FP.rightB g = true) {c : Cl} (h : Par g c) (i : Nat) : (rK g c i = 1 ∨ rK g c i = 2 ↔ i = hitP g c) ∧ (rK g c i = 0 ∨ rK g c i = 1 ∨ rK g c i = 2 ∨ rK g c i = 4) ∧ (rK g c i = 1 ↔ winB g c = true ∧ i + 1 = (bitsF g).length) := by
  have hl := FP.body_len g
  unfold rK hitP
  by_cases hw : winB g c = true
  · rw [if_pos hw, if_pos hw]
    by_cases e : i + 1 = (bitsF g).length
    · rw [if_pos e]
      exact ⟨⟨fun _ => by omega, fun _ => .inl rfl⟩, .inr (.inl rfl), ⟨fun _ => ⟨hw, e⟩, fun _ => rfl⟩⟩
    · rw [if_neg e]
      exact ⟨⟨fun q => by omega, fun q => by omega⟩, .inl rfl, ⟨fun q => by omega, fun q => absurd q.2 e⟩⟩
  · rw [if_neg hw, if_neg hw]
    by_cases e : c.has = true ∧ i = dAt c.f g
    · rw [if_pos e]
      obtain ⟨hr, hls⟩ := win_not h hw e.1
      have hz := (dAt_lz hr hg hls).lg
      exact ⟨⟨fun q => by omega, fun q => by omega⟩, .inr (.inr (.inr rfl)), ⟨fun q => by omega, fun q => absurd q.1 hw⟩⟩
    · rw [if_neg e]
      by_cases e2 : i = (bodyF g).length + 8
      · rw [if_pos e2]
        exact ⟨⟨fun _ => e2, fun _ => .inr rfl⟩, .inr (.inr (.inl rfl)), ⟨fun q => by omega, fun q => absurd q.1 hw⟩⟩
      · rw [if_neg e2]
        exact ⟨⟨fun q => by omega, fun q => absurd q e2⟩, .inl rfl, ⟨fun q => by omega, fun q => absurd q.1 hw⟩⟩
/-- Within a race. -/
theorem race_run {g : Fr} {l : List Cl} {v : Nat} (h : Race g l v) (now : Int) : ∀ k, k ≤ (bitsF g).length →
    itB l k = l.map (rS g · k) ∧ (∀ (j : Nat) (c : Cl), l[j]? = some c → gotOf j (snB l now k) = if hitP g c < k then [g] else []) ∧ sentOf (snB l now k) = (if k = (bitsF g).length then 1 else 0) ∧ ∀ y ∈ snB l now k, y.kind = 1 ∨ y.kind = 2 ∨ y.kind = 4
  | 0, _ => by
    have hl := FP.body_len g
    refine ⟨?_, fun j c hc => by rw [if_neg (by omega)]; rfl, ?_, fun y hy => by cases hy⟩
    · show l = l.map (rS g · 0)
      conv => lhs; rw [← List.map_id l]
      exact List.map_congr_left fun c _ => (rS_zero g c).symm
    · rw [if_neg (by omega)]; rfl
  | k + 1, hk => by
    obtain ⟨h1, h2, h3, h4⟩ := race_run h now k (by omega)
    obtain ⟨e1, e2, e3⟩ := race_ev h (i := k) (by omega)
    refine ⟨by rw [itB, h1, e1], fun j c hc => ?_, ?_, fun y hy => ?_⟩
    · obtain ⟨m, m1, m2, m3⟩ := e2 j c hc
      have hp := h.par c (List.mem_of_getElem? hc)
      have hh := (rK_hit h.right hp k).1
      rw [snB, gotOf_app, h2 j c hc, h1, gotOf_seens (now + k) j _ 0 m (Nat.zero_le _) (by rw [Nat.sub_zero]; exact m1), m2]
      by_cases q : hitP g c = k
      · have q2 := hh.2 q.symm
        rw [if_neg (by omega), if_pos q2, if_pos (by omega), m3 (by rw [m2]; exact q2)]
        rfl
      · rw [if_neg (show ¬ (rK g c k = 1 ∨ rK g c k = 2) from fun z => q (hh.1 z).symm), List.append_nil]
        by_cases q2 : hitP g c < k
        · rw [if_pos q2, if_pos (by omega)]
        · rw [if_neg q2, if_neg (by omega)]
    · rw [snB, sentOf_app, h3, if_neg (by omega), h1, sentOf_seens]
      by_cases q : k + 1 = (bitsF g).length
      · rw [if_pos q, Nat.zero_add]
        refine countP_one _ _ v (by rw [e3]; exact h.lt) fun j m hm => ?_
        have hj : j < l.length := by rw [← e3]; exact (List.getElem?_eq_some_iff.1 hm).1
        obtain ⟨m', m1, m2, _⟩ := e2 j l[j] (List.getElem?_eq_getElem hj)
        rw [hm] at m1
        obtain rfl := Option.some.inj m1
        rw [decide_eq_true_eq, m2, (rK_hit h.right (h.par _ (List.getElem_mem hj)) k).2.2]
        have := h.one j l[j] (List.getElem?_eq_getElem hj)
        exact ⟨fun z => this.1 z.1, fun z => ⟨this.2 z, q⟩⟩
      · rw [if_neg q, Nat.zero_add, List.countP_eq_zero]
        intro m hm
        obtain ⟨j, hj, rfl⟩ := List.getElem_of_mem hm
        have hjl : j < l.length := by rw [← e3]; exact hj
        obtain ⟨m', m1, m2, _⟩ := e2 j l[j] (List.getElem?_eq_getElem hjl)
        rw [List.getElem?_eq_getElem hj] at m1
        obtain rfl := Option.some.inj m1
        rw [decide_eq_true_eq, m2, (rK_hit h.right (h.par _ (List.getElem_mem hjl)) k).2.2]
        exact fun z => q z.2
    · rw [snB, List.mem_append] at hy
      rcases hy with hy | hy
      · exact h4 y hy
      · rw [h1] at hy
        obtain ⟨m, hm, hk1, hk2⟩ := seens_kind _ _ _ y hy
        obtain ⟨j, hj, rfl⟩ := List.getElem_of_mem hm
        have hjl : j < l.length := by rw [← e3]; exact hj
        obtain ⟨m', m1, m2, _⟩ := e2 j l[j] (List.getElem?_eq_getElem hjl)
        rw [List.getElem?_eq_getElem hj] at m1
        obtain rfl := Option.some.inj m1
        have := (rK_hit h.right (h.par _ (List.getElem_mem hjl)) k).2.1
        rw [← m2] at this
        rw [hk1]
        rcases this with q | q | q | q
        · exact absurd q hk2
        · exact .inl q
        · exact .inr (.inl q)
        · exact .inr (.inr q)
/-- Nobody drives a dominant bit, and nothing happens. -/
theorem hush_step {l : List Cl} (h : ∀ c ∈ l, c.drv = 49 ∧ (c.samp 49).kind = 0) : stpB l = l.map (fun c => (c.samp 49).c) ∧ ∀ now k, seens now k (evB l) = [] := by
  have hl : lvlB l = 49 := by
    unfold lvlB
    rw [if_neg]
    intro q
    rw [List.any_eq_true] at q
    obtain ⟨c, hc, e⟩ := q
    rw [(h c hc).1] at e
    exact absurd e (by decide)
  unfold stpB evB
  rw [hl]
  refine ⟨by rw [List.map_map]; rfl, fun now k => ?_⟩
  have : ∀ (l : List Cl) (k : Nat), (∀ c ∈ l, (c.samp 49).kind = 0) → seens now k (l.map fun c => c.samp 49) = [] := by
    intro l
    induction l with
    | nil => exact fun _ _ => rfl
    | cons a l ih =>
      intro k hk
      simp only [List.map_cons, seens]
      rw [if_pos (hk a List.mem_cons_self)]
      exact ih (k + 1) fun c hc => hk c (List.mem_cons_of_mem _ hc)
  exact this l k fun c hc => (h c hc).2

/-- A race and the gap behind it. -/
structure Raced (g : Fr) (l : List Cl) (now : Int) : Prop where
  idl : ∀ c ∈ itB l ((bitsF g).length + 3), Idl c
  len : (itB l ((bitsF g).length + 3)).length = l.length
  rest : (itB l ((bitsF g).length + 3)).map (fun c => (c.has, c.has && !winB g c, c.f)) = (itB l ((bitsF g).length + 3)).map (fun c => (c.has, c.has && !winB g c, c.f))
  fr : (itB l ((bitsF g).length + 3)).filterMap (fun c => if c.has = true then some c.f else none) = l.filterMap (fun c => if (c.has && !winB g c) = true then some c.f else none)
  got : ∀ j, j < l.length → gotOf j (snB l now ((bitsF g).length + 3)) = [g]
  sent : sentOf (snB l now ((bitsF g).length + 3)) = 1
  kinds : ∀ y ∈ snB l now ((bitsF g).length + 3), y.kind = 1 ∨ y.kind = 2 ∨ y.kind = 4
theorem map_hush {l : List Cl} {F : Cl → Cl} (h : ∀ c ∈ l, (F c).drv = 49 ∧ ((F c).samp 49).kind = 0) : stpB (l.map F) = l.map (fun c => ((F c).samp 49).c) ∧ ∀ now k, seens now k (evB (l.map F)) = [] := by
  have := hush_step (l := l.map F) (fun c hc => by
    rw [List.mem_map] at hc
    obtain ⟨d, hd, rfl⟩ := hc
    exact h d hd)
  rw [List.map_map] at this
  exact this
theorem filterMap_congr' {α β : Type} {f g : α → Option β} : ∀ {l : List α}, (∀ a ∈ l, f a = g a) → l.filterMap f = l.filterMap g
  | [], _ => rfl
  | a :: l, h => by
    have h1 := h a List.mem_cons_self
    have h2 := filterMap_congr' (l := l) fun c hc => h c (List.mem_cons_of_mem _ hc)
    rw [List.filterMap_cons, List.filterMap_cons, h1, h2]
theorem race_all {g : Fr} {l : List Cl} {v : Nat} (h : Race g l v) (now : Int) : Raced g l now := by
  have hb := FP.body_len g
  obtain ⟨h1, h2, h3, h4⟩ := race_run h now (bitsF g).length (Nat.le_refl _)
  have E := fun c (hc : c ∈ l) => rS_end h.right (h.par c hc)
  have G1 := fun c (hc : c ∈ l) => gp_step (E c hc).1 (by decide)
  have G2 := fun c (hc : c ∈ l) => gp_step (G1 c hc).2.2.1 (by decide)
  have G3 := fun c (hc : c ∈ l) => gp_end (G2 c hc).2.2.1
  obtain ⟨a1, b1⟩ := map_hush (l := l) (F := fun c => rS g c (bitsF g).length) fun c hc => ⟨(G1 c hc).1, (G1 c hc).2.1⟩
  obtain ⟨a2, b2⟩ := map_hush (l := l) (F := fun c => ((rS g c (bitsF g).length).samp 49).c) fun c hc => ⟨(G2 c hc).1, (G2 c hc).2.1⟩
  obtain ⟨a3, b3⟩ := map_hush (l := l) (F := fun c => ((((rS g c (bitsF g).length).samp 49).c).samp 49).c) fun c hc => ⟨(G3 c hc).1, (G3 c hc).2.1⟩
  have i1 : itB l ((bitsF g).length + 1) = l.map fun c => ((rS g c (bitsF g).length).samp 49).c := by rw [itB, h1, a1]
  have i2 : itB l ((bitsF g).length + 1 + 1) = l.map fun c => ((((rS g c (bitsF g).length).samp 49).c).samp 49).c := by rw [itB, i1, a2]
  have i3 : itB l ((bitsF g).length + 3) = l.map fun c => ((((((rS g c (bitsF g).length).samp 49).c).samp 49).c).samp 49).c := by
    rw [show (bitsF g).length + 3 = (bitsF g).length + 1 + 1 + 1 by omega, itB, i2, a3]
  have s3 : snB l now ((bitsF g).length + 3) = snB l now (bitsF g).length := by
    rw [show (bitsF g).length + 3 = (bitsF g).length + 1 + 1 + 1 by omega, snB, snB, snB, i2, i1, h1, b1, b2, b3]
    simp
  have keep : ∀ c ∈ l, (((((((rS g c (bitsF g).length).samp 49).c).samp 49).c).samp 49).c).has = (c.has && !winB g c) ∧ (¬ winB g c = true → (((((((rS g c (bitsF g).length).samp 49).c).samp 49).c).samp 49).c).f = c.f) := fun c hc =>
    ⟨(G3 c hc).2.2.2.1.trans ((G2 c hc).2.2.2.1.trans ((G1 c hc).2.2.2.1.trans (E c hc).2.1)), fun q => (G3 c hc).2.2.2.2.trans ((G2 c hc).2.2.2.2.trans ((G1 c hc).2.2.2.2.trans ((E c hc).2.2 q)))⟩
  refine ⟨?_, by rw [i3, List.length_map], rfl, ?_, fun j hj => ?_, by rw [s3, h3, if_pos rfl], by rw [s3]; exact h4⟩
  · rw [i3]
    intro d hd
    rw [List.mem_map] at hd
    obtain ⟨c, hc, rfl⟩ := hd
    exact (G3 c hc).2.2.1
  · rw [i3, List.filterMap_map]
    refine filterMap_congr' fun c hc => ?_
    obtain ⟨k1, k2⟩ := keep c hc
    show (if (((((((rS g c (bitsF g).length).samp 49).c).samp 49).c).samp 49).c).has = true then some (((((((rS g c (bitsF g).length).samp 49).c).samp 49).c).samp 49).c).f else none) = _
    rw [k1]
    by_cases q : (c.has && !winB g c) = true
    · rw [if_pos q, if_pos q, k2]
      intro w
      rw [w] at q
      simp at q
    · rw [if_neg q, if_neg q]
  · rw [s3, h2 j l[j] (List.getElem?_eq_getElem hj), if_pos]
    have hge := FP.body_ge h.right
    unfold hitP
    split <;> omega

/-- The frames of a row of controllers. -/
def frsOf (l : List Cl) : List Fr := l.filterMap fun c => if c.has = true then some c.f else none
/-- Idle ones, all whose frames may be and are unlike. -/
structure Field (l : List Cl) : Prop where
  idl : ∀ c ∈ l, Idl c
  two : 2 ≤ l.length
  right : ∀ f ∈ frsOf l, FP.rightB f = true
  apart : (frsOf l).Pairwise fun a b => fieldF a ≠ fieldF b
theorem best_least {l : List Fr} (hr : ∀ f ∈ l, FP.rightB f = true) : ∀ n, n ≤ l.length → ∀ j, j < n → lessB (atF l j) (atF l (bestTo l n)) = false
  | 0, _, _, h => absurd h (by omega)
  | n + 1, hn, j, hj => by
    have R : ∀ k, k < l.length → FP.rightB (atF l k) = true := fun k hk => by rw [OP.atF_lt hk]; exact hr _ (List.getElem_mem hk)
    unfold bestTo
    by_cases hl : lessB (atF l n) (atF l (bestTo l n)) = true
    · rw [if_pos hl]
      have hb : bestTo l n < l.length := by
        by_cases h0 : n = 0
        · subst h0; show 0 < l.length; omega
        · have := OP.bestTo_lt l n (by omega); omega
      by_cases e : j = n
      · subst e
        rw [PP.lessB_bl (R j (by omega)) (R j (by omega)), PP.bl_irrefl]
      · have ih := best_least hr n (by omega) j (by omega)
        cases hx : lessB (atF l j) (atF l n)
        · rfl
        · rw [PP.lessB_bl (R j (by omega)) (R n (by omega))] at hx
          rw [PP.lessB_bl (R n (by omega)) (R _ hb)] at hl
          rw [PP.lessB_bl (R j (by omega)) (R _ hb), PP.bl_trans _ _ _ hx hl] at ih
          cases ih
    · rw [if_neg hl]
      by_cases e : j = n
      · subst e; simpa using hl
      · exact best_least hr n (by omega) j (by omega)
theorem cut_filter : ∀ (l : List Fr) (k : Nat) (hk : k < l.length), (l.Pairwise fun a b => fieldF a ≠ fieldF b) → l.take k ++ l.drop (k + 1) = l.filter fun f => !decide (fieldF f = fieldF l[k])
  | [], _, h, _ => absurd h (by simp)
  | a :: l, 0, _, hp => by
    rw [List.pairwise_cons] at hp
    rw [List.take_zero, List.nil_append, List.drop_succ_cons, List.drop_zero, List.getElem_cons_zero, List.filter_cons_of_neg (by simp)]
    rw [List.filter_eq_self.2]
    intro f hf
    simpa using fun e => hp.1 f hf e.symm
  | a :: l, k + 1, hk, hp => by
    rw [List.pairwise_cons] at hp
    have hk' : k < l.length := by simpa using hk
    have ih := cut_filter l k hk' hp.2
    rw [List.take_succ_cons, List.drop_succ_cons, List.getElem_cons_succ, List.cons_append, ih, List.filter_cons_of_pos]
    simpa using hp.1 l[k] (List.getElem_mem hk')
theorem frs_rest (g : Fr) (l : List Cl) : (l.filterMap fun c => if (c.has && !winB g c) = true then some c.f else none) = (frsOf l).filter fun f => !decide (fieldF f = fieldF g) := by
  unfold frsOf
  induction l with
  | nil => rfl
  | cons a l ih =>
    rw [List.filterMap_cons, List.filterMap_cons]
    cases hh : a.has
    · rw [if_neg (show ¬ (false && !winB g a) = true from by simp), if_neg (show ¬ false = true from by decide)]
      exact ih
    · have hw : winB g a = decide (fieldF a.f = fieldF g) := by unfold winB; rw [hh]; rfl
      rw [hw, if_pos (show true = true from rfl)]
      by_cases e : fieldF a.f = fieldF g
      · rw [decide_eq_true e, if_neg (show ¬ (true && !true) = true from by decide)]
        dsimp only
        rw [List.filter_cons_of_neg (by simp [e])]
        exact ih
      · rw [decide_eq_false e, if_pos (show (true && !false) = true from rfl)]
        dsimp only
        rw [List.filter_cons_of_pos (by simp [e]), ih]
theorem frs_mem {l : List Cl} {c : Cl} (hc : c ∈ l) (hh : c.has = true) : c.f ∈ frsOf l := List.mem_filterMap.2 ⟨c, hc, by rw [if_pos hh]⟩
theorem frs_one : ∀ {l : List Cl}, ((frsOf l).Pairwise fun a b => fieldF a ≠ fieldF b) → ∀ {i j : Nat} {c d : Cl}, l[i]? = some c → l[j]? = some d → c.has = true → d.has = true → fieldF c.f = fieldF d.f → i = j
  | [], _, i, _, c, _, h, _, _, _, _ => by simp at h
  | a :: l, hp, i, j, c, d, hi, hj, hc, hd, e => by
    have hp2 : (frsOf l).Pairwise fun a b => fieldF a ≠ fieldF b := by
      unfold frsOf at hp ⊢
      rw [List.filterMap_cons] at hp
      split at hp
      · exact hp
      · rw [List.pairwise_cons] at hp; exact hp.2
    have hd1 : ∀ x ∈ l, x.has = true → a.has = true → fieldF a.f ≠ fieldF x.f := fun x hx hxh ha => by
      unfold frsOf at hp
      rw [List.filterMap_cons, if_pos ha] at hp
      simp only [List.pairwise_cons] at hp
      exact hp.1 _ (frs_mem hx hxh)
    match i, j with
    | 0, 0 => rfl
    | 0, j + 1 =>
      rw [List.getElem?_cons_zero, Option.some.injEq] at hi
      rw [List.getElem?_cons_succ] at hj
      subst hi
      exact absurd e (hd1 d (List.mem_of_getElem? hj) hd hc)
    | i + 1, 0 =>
      rw [List.getElem?_cons_zero, Option.some.injEq] at hj
      rw [List.getElem?_cons_succ] at hi
      subst hj
      exact absurd e.symm (hd1 c (List.mem_of_getElem? hi) hc hd)
    | i + 1, j + 1 =>
      rw [List.getElem?_cons_succ] at hi hj
      rw [frs_one hp2 hi hj hc hd e]
theorem field_race {l : List Cl} (h : Field l) (hn : 0 < (frsOf l).length) : ∃ v, Race (atF (frsOf l) (bestTo (frsOf l) (frsOf l).length)) l v := by
  have hb := OP.bestTo_lt (frsOf l) _ hn
  have hgm : atF (frsOf l) (bestTo (frsOf l) (frsOf l).length) ∈ frsOf l := by rw [OP.atF_lt hb]; exact List.getElem_mem hb
  have hleast := best_least h.right (frsOf l).length (Nat.le_refl _)
  generalize hg : atF (frsOf l) (bestTo (frsOf l) (frsOf l).length) = g at *
  have hgr := h.right g hgm
  obtain ⟨c, hc, hcf⟩ := List.mem_filterMap.1 hgm
  obtain ⟨v, hv, rfl⟩ := List.getElem_of_mem hc
  have hch : l[v].has = true ∧ l[v].f = g := by
    split at hcf
    · rename_i q; exact ⟨q, Option.some.inj hcf⟩
    · cases hcf
  refine ⟨v, hgr, fun d hd => ⟨h.idl d hd, fun q1 q2 => ?_, fun q1 q2 => ?_⟩, h.two, hv, fun j d hj => ⟨fun q => ?_, fun q => ?_⟩⟩
  · obtain ⟨j, hj, rfl⟩ := List.getElem_of_mem hd
    have := frs_one h.apart (List.getElem?_eq_getElem hj) (List.getElem?_eq_getElem hv) q1 hch.1 (by rw [hch.2]; exact q2)
    subst this
    exact hch.2
  · have hdr := h.right _ (frs_mem hd q1)
    refine ⟨hdr, ?_⟩
    obtain ⟨j, hj, e⟩ := List.getElem_of_mem (frs_mem hd q1)
    have hl := hleast j hj
    rw [OP.atF_lt hj, e, PP.lessB_bl hdr hgr] at hl
    rw [PP.lessB_bl hgr hdr, PP.bl_total (PP.fld_of g) (PP.fld_of d.f) (fun z => q2 z.symm), hl]
    rfl
  · unfold winB at q
    rw [Bool.and_eq_true, decide_eq_true_eq] at q
    exact frs_one h.apart hj (List.getElem?_eq_getElem hv) q.1 hch.1 (by rw [hch.2]; exact q.2)
  · subst q
    rw [List.getElem?_eq_getElem hv] at hj
    obtain rfl := Option.some.inj hj
    unfold winB
    rw [hch.1, hch.2, decide_eq_true rfl]
    rfl
/-- All are idle and have nothing: nothing happens. -/
theorem calm_run {l : List Cl} (h : ∀ c ∈ l, Idl c ∧ c.has = false) (now : Int) : ∀ k, itB l k = l ∧ snB l now k = []
  | 0 => ⟨rfl, rfl⟩
  | k + 1 => by
    obtain ⟨h1, h2⟩ := calm_run h now k
    have st : ∀ c ∈ l, c.drv = 49 ∧ c.samp 49 = ev0 c := fun c hc => by
      have hs := (h c hc).1.st
      refine ⟨by unfold Cl.drv; rw [if_pos hs, if_neg (by rw [(h c hc).2]; decide)], ?_⟩
      unfold Cl.samp
      rw [if_neg (by omega), if_pos hs, if_neg (by decide)]
    obtain ⟨e1, e2⟩ := hush_step fun c hc => ⟨(st c hc).1, by rw [(st c hc).2]; rfl⟩
    rw [itB, snB, h1, h2, e1, e2]
    refine ⟨?_, rfl⟩
    conv => rhs; rw [← List.map_id l]
    exact List.map_congr_left fun c hc => by rw [(st c hc).2]; rfl
/-- All is sent, in the order in which it wins. -/
theorem order_run : ∀ (r : Nat) {l : List Cl} (h : Field l) (hr : (frsOf l).length = r) (now : Int) (K : Nat), 160 * r ≤ K →
    (∀ j, j < l.length → gotOf j (snB l now K) = orderF (frsOf l)) ∧ sentOf (snB l now K) = r ∧ (∀ y ∈ snB l now K, y.kind = 1 ∨ y.kind = 2 ∨ y.kind = 4) ∧ (∀ c ∈ itB l K, Idl c ∧ c.has = false) ∧ (itB l K).length = l.length
  | 0, l, h, hr, now, K, _ => by
    have hq : ∀ c ∈ l, Idl c ∧ c.has = false := fun c hc => ⟨h.idl c hc, by
      cases e : c.has
      · rfl
      · have := frs_mem hc e
        rw [List.length_eq_zero_iff.1 hr] at this
        cases this⟩
    obtain ⟨h1, h2⟩ := calm_run hq now K
    rw [h1, h2, List.length_eq_zero_iff.1 hr]
    exact ⟨fun _ _ => rfl, rfl, (fun y hy => by cases hy), hq, rfl⟩
  | r + 1, l, h, hr, now, K, hK => by
    obtain ⟨v, R⟩ := field_race h (by omega)
    have hb := OP.bestTo_lt (frsOf l) _ (show 0 < (frsOf l).length by omega)
    have ho := OP.orderF_step (l := frsOf l) (by omega)
    have hcut := cut_filter (frsOf l) _ hb h.apart
    rw [← OP.atF_lt hb] at hcut
    generalize hg : atF (frsOf l) (bestTo (frsOf l) (frsOf l).length) = g at *
    have A := race_all R now
    have hle : (bitsF g).length + 3 ≤ 160 := by
      have := FP.body_le R.right
      have := FP.body_len g
      omega
    have hfr : frsOf (itB l ((bitsF g).length + 3)) = (frsOf l).filter fun f => !decide (fieldF f = fieldF g) := by
      rw [← frs_rest]; exact A.fr
    have hrest : (frsOf l).take (bestTo (frsOf l) (frsOf l).length) ++ (frsOf l).drop (bestTo (frsOf l) (frsOf l).length + 1) = frsOf (itB l ((bitsF g).length + 3)) := by rw [hcut, hfr]
    have hlen : (frsOf (itB l ((bitsF g).length + 3))).length = r := by
      rw [← hrest, OP.rest_len hb, hr]
      rfl
    have F2 : Field (itB l ((bitsF g).length + 3)) := ⟨A.idl, by rw [A.len]; exact h.two, fun f hf => by
      rw [hfr] at hf
      exact h.right f (List.mem_filter.1 hf).1, by rw [hfr]; exact h.apart.filter _⟩
    obtain ⟨h1, h2, h3, h4, h5⟩ := order_run r F2 hlen (now + ((bitsF g).length + 3 : Nat)) (K - ((bitsF g).length + 3)) (by omega)
    have eK : K = ((bitsF g).length + 3) + (K - ((bitsF g).length + 3)) := by omega
    have e1 := sn_add l now ((bitsF g).length + 3) (K - ((bitsF g).length + 3))
    have e2 := it_add l ((bitsF g).length + 3) (K - ((bitsF g).length + 3))
    rw [← eK] at e1 e2
    rw [e1, e2]
    refine ⟨fun j hj => ?_, ?_, fun y hy => ?_, h4, by rw [h5, A.len]⟩
    · rw [gotOf_app, A.got j hj, h1 j (by rw [A.len]; exact hj), ho, hrest]
      rfl
    · rw [sentOf_app, A.sent, h2]
      omega
    · rw [List.mem_append] at hy
      rcases hy with hy | hy
      · exact A.kinds y hy
      · exact h3 y hy
end Go.Proofs.YthkilodnghiocaaGreatDoor
