/- Plain: bytes that are sent, and such as come, where all filters pass always and no signal has a bit for new ones. -/
import Derived.Test.YtnhegnneohpkaaaGreatCmU
import Derived.Test.YtnhegnneohpkaaaGreatMgCmL
import Derived.Test.YtnhegnneohpkaaaGreatCmN
namespace Go.Proofs.YtnhegnneohpkaaaGreat
open CM PD SG

/-- Filters that pass always, with counts up to m. -/
def Alw (m : Int) (f : Flt) : Prop := f.kind = 1 ∧ fltB f = true ∧ f.count ≤ m
theorem Alw.pass {m : Int} {f : Flt} (h : Alw m f) (v : Int) : fltP f v = true := by unfold fltP; rw [if_pos h.1]
theorem Alw.step {m : Int} {f : Flt} (h : Alw m f) (hm : m < 1099511627776) (v : Int) : Alw (m + 1) (flStep f v) := by
  obtain ⟨h1, h2, h3⟩ := h
  have h4 := fltB_iff.1 h2
  refine ⟨h1, fltB_iff.2 ⟨h4.1, h4.2.1, h4.2.2.1, ?_, ?_, h4.2.2.2.2.2⟩, ?_⟩
  · show 0 ≤ f.count + 1; omega
  · show f.count + 1 ≤ _; omega
  · show f.count + 1 ≤ _; omega
theorem Alw.mono {m k : Int} {f : Flt} (h : Alw m f) (hk : m ≤ k) : Alw k f := ⟨h.1, h.2.1, by have := h.2.2; omega⟩
theorem stF_alw {m : Int} {fs : List Flt} {vs : List Int} {nb : List Bool} (hm : m < 1099511627776) (h : ∀ f ∈ fs, Alw m f) : ∀ k, k ≤ fs.length → ∀ f ∈ stF fs vs nb k, Alw (m + 1) f
  | 0, _ => fun f hf => (h f hf).mono (by omega)
  | k + 1, hk => by
    unfold stF
    split
    · intro f hf
      rcases List.mem_or_eq_of_mem_set hf with h1 | h1
      · exact stF_alw hm h k (by omega) f h1
      · rw [h1, getDx _ (by omega : k < fs.length)]
        exact (h _ (List.getElem_mem _)).step hm _
    · exact stF_alw hm h k (by omega)
theorem stO_alw {m : Int} {fs : List Flt} {vs : List Int} {nb : List Bool} (h : ∀ f ∈ fs, Alw m f) (hn : ∀ i, i < fs.length → nb.getD i false = true) : ∀ k, k ≤ fs.length → ∀ i, i < k → (stO fs vs nb k).getD i false = true
  | 0, _ => fun i hi => absurd hi (Nat.not_lt_zero _)
  | k + 1, hk => fun i hi => by
    unfold stO
    rw [if_pos (hn k (by omega)), getDx _ (by omega : k < fs.length), (h _ (List.getElem_mem _)).pass]
    by_cases e : i = k
    · subst e
      rw [List.getD_eq_getElem?_getD, List.getElem?_set_self (by rw [stO_len]; omega)]
      rfl
    · rw [List.getD_eq_getElem?_getD, List.getElem?_set_ne (fun h => e h.symm), ← List.getD_eq_getElem?_getD]
      exact stO_alw h hn k (by omega) i (by omega)
theorem mix_all {OL : List Bool} {vs G : List Int} : ∀ k, (∀ i, i < k → OL.getD i false = true) → mixV OL vs G k = vs
  | 0, _ => rfl
  | k + 1, h => by
    unfold mixV
    rw [if_pos (h k (by omega))]
    exact mix_all k (fun i hi => h i (by omega))

/-- A layout that may be, with signals, none with a bit for new ones. -/
structure WL (L : Ly) : Prop where
  right : rightB L = true
  n0 : 1 ≤ L.sgs.length
  news : ∀ a ∈ L.nws, a = -1
theorem WL.n {L : Ly} (h : WL L) : L.sgs.length ≤ 16 := (right_iff.1 h.right).2.2.1
theorem WL.len {L : Ly} (h : WL L) : L.nws.length = L.sgs.length := (right_iff.1 h.right).2.2.2.1
theorem WL.size {L : Ly} (h : WL L) : 0 ≤ L.size ∧ L.size ≤ 8 := ⟨(right_iff.1 h.right).1, (right_iff.1 h.right).2.1⟩
theorem fitA_iff {L : Ly} {vs : List Int} : fitA L vs = true ↔ vs.length = L.sgs.length ∧ fitAll L vs := by
  unfold fitA fitAll
  simp only [Bool.and_eq_true, decide_eq_true_eq]
  refine and_congr_right fun h => ?_
  rw [allW_iff]
  refine ⟨fun h2 k hk => ?_, fun h2 k hk => ?_⟩
  · rw [getDx (l := vs) _ (by omega)]; exact h2 k (by omega)
  · have := h2 k (by omega); rwa [getDx (l := vs) _ hk] at this
theorem comB_of {L : Ly} {fl : List Flt} {S G : List Int} {times m : Int} (hL : WL L) (h1 : fl.length = L.sgs.length) (h2 : ∀ f ∈ fl, Alw m f) (hm : m < 1099511627776) (h3 : fitA L S = true) (h4 : fitA L G = true) (h5 : 0 ≤ times) (h6 : times ≤ m) : comB L fl S G times = true := by
  have hS := (fitA_iff.1 h3).1
  have hG := (fitA_iff.1 h4).1
  have hn := hL.n
  have h0 := hL.n0
  unfold comB
  simp only [Bool.and_eq_true, decide_eq_true_eq]
  refine ⟨hL.right, by omega, h1, grB_iff.2 ⟨⟨by omega, by omega⟩, by omega, h5, by omega⟩, hG, allW_iff.2 fun i hi => ?_, h4, h3⟩
  unfold fltMay
  have := h2 _ (List.getElem_mem hi)
  rw [this.2.1, decide_eq_true (by have := this.2.2; omega)]
  rfl

structure RO (L : Ly) (S G : List Int) (m : Int) (o : Ou) : Prop where
  ly : o.ly.L = L
  fill : o.fill = 0
  len : o.fl.l.length = L.sgs.length
  al : ∀ f ∈ o.fl.l, Alw m f
  S : o.S.l = S
  G : o.G.l = G
  t0 : 0 ≤ o.times
  t : o.times ≤ m
  news : o.news.l.length = L.sgs.length
  snd : sndB o.snd = true
theorem RO.right {L : Ly} {S G : List Int} {m : Int} {o : Ou} (h : RO L S G m o) (hL : WL L) (hm : m < 1099511627776) (hS : fitA L S = true) (hG : fitA L G = true) : o.right = true := by
  unfold Ou.right
  rw [h.ly, h.S, h.G, h.snd, comB_of hL h.len h.al hm hS hG h.t0 h.t, decide_eq_true h.news]
  rfl
theorem RO.wr {L : Ly} {S G : List Int} {m : Int} {o V : Ou} {k : Nat} {v : Int} {N : Nat} (h : RO L S G m o) (w : o.Wr k v N V) : RO L (S.set k v) G m V :=
  ⟨by rw [w.ly]; exact h.ly, by rw [w.fill]; exact h.fill, by rw [w.fl]; exact h.len, by rw [w.fl]; exact h.al, by rw [w.S, h.S], by rw [w.G]; exact h.G, by rw [w.times]; exact h.t0, by rw [w.times]; exact h.t, by rw [w.news, List.length_set]; exact h.news, by rw [w.snd]; exact h.snd⟩
theorem gvS_right {o : Ou} (h : sndB o.snd = true) : sndB o.gvS = true := by
  unfold Ou.gvS
  refine swap_right ?_ _
  split
  · exact ask_right h
  · exact h
theorem RO.gv {L : Ly} {S G : List Int} {m : Int} {o V : Ou} {N : Nat} (h : RO L S G m o) (hm : m < 1099511627776) (w : o.Gv N V) : RO L S S (m + 1) V :=
  ⟨by rw [w.ly]; exact h.ly, by rw [w.fill]; exact h.fill, by rw [w.fl]; unfold Ou.gvF; rw [stF_len]; exact h.len, by rw [w.fl]; exact stF_alw hm h.al _ (Nat.le_refl _), by rw [w.S]; exact h.S, by rw [w.G]; exact h.S, by rw [w.times]; have := h.t0; omega, by rw [w.times]; have := h.t; omega, by rw [w.news]; exact h.news, by rw [w.snd]; exact gvS_right h.snd⟩
theorem RO.tk {L : Ly} {S G : List Int} {m : Int} {o V : Ou} {N : Nat} (h : RO L S G m o) (w : o.Tk N V) : RO L S G m V :=
  ⟨by rw [w.ly]; exact h.ly, by rw [w.fill]; exact h.fill, by rw [w.fl]; exact h.len, by rw [w.fl]; exact h.al, by rw [w.S]; exact h.S, by rw [w.G]; exact h.G, by rw [w.times]; exact h.t0, by rw [w.times]; exact h.t, by
    rcases w.news with ⟨e, _⟩ | ⟨e, _, _⟩
    · rw [e]; exact h.news
    · rw [e, List.length_replicate]; exact h.news, by rw [w.snd]; exact tick_right h.snd⟩
theorem RO.mono {L : Ly} {S G : List Int} {m k : Int} {o : Ou} (h : RO L S G m o) (hk : m ≤ k) : RO L S G k o := ⟨h.ly, h.fill, h.len, fun f hf => (h.al f hf).mono hk, h.S, h.G, h.t0, by have := h.t; omega, h.news, h.snd⟩
theorem RO.of {L : Ly} {ly : Lv} {fl : Fv} {first : List Int} {s : Snd} {o : Ou} (h : o.Is ly 0 fl first s) (hly : ly.L = L) (h1 : fl.l.length = L.sgs.length) (h2 : ∀ f ∈ fl.l, Alw 0 f) (h3 : first.length = L.sgs.length) (h4 : sndB s = true) : RO L first first 0 o :=
  ⟨by rw [h.ly]; exact hly, h.fill, by rw [h.fl]; exact h1, by rw [h.fl]; exact h2, h.S, h.G, by rw [h.times]; exact Int.le_refl 0, by rw [h.times]; exact Int.le_refl 0, by rw [h.news, List.length_replicate]; exact h3, by rw [h.snd]; exact h4⟩

structure RI (L : Ly) (G subs : List Int) (each left m : Int) (i : Inn) : Prop where
  ly : i.ly.L = L
  len : i.fl.l.length = L.sgs.length
  al : ∀ f ∈ i.fl.l, Alw m f
  S : i.S.l = G
  G : i.G.l = G
  t0 : 0 ≤ i.times
  t : i.times ≤ m
  subs : i.subs.l = subs
  w : wtB i.w = true
  on : i.w.on = true
  each : i.w.each = each
  left : i.w.left = left
theorem RI.right {L : Ly} {G subs : List Int} {each left m : Int} {i : Inn} (h : RI L G subs each left m i) (hL : WL L) (hm : m < 1099511627776) (hG : fitA L G = true) (hS : fitA L subs = true) : i.right = true := by
  unfold Inn.right
  rw [h.ly, h.S, h.G, h.subs, hS, h.w, comB_of hL h.len h.al hm hG hG h.t0 h.t]
  rfl
theorem RI.mono {L : Ly} {G subs : List Int} {each left m k : Int} {i : Inn} (h : RI L G subs each left m i) (hk : m ≤ k) : RI L G subs each left k i := ⟨h.ly, h.len, fun f hf => (h.al f hf).mono hk, h.S, h.G, h.t0, by have := h.t; omega, h.subs, h.w, h.on, h.each, h.left⟩
theorem unN_all {L : Ly} (hL : WL L) (d : List UInt8) (i : Nat) (hi : i < L.sgs.length) : (unN L d).getD i false = true := by
  have hi2 : i < L.nws.length := by rw [hL.len]; exact hi
  have hi3 : i < (unN L d).length := by unfold unN; rw [List.length_map]; exact hi2
  rw [getDx _ hi3]
  simp only [unN, List.getElem_map]
  have := hL.news _ (List.getElem_mem hi2)
  unfold newB
  rw [this]
  rfl
/-- What comes as it was packed: it is taken, all of it. -/
theorem RI.cm {L : Ly} {G subs : List Int} {each left m : Int} {i V : Inn} {vs : List Int} {nb : List Bool} {N : Nat} (h : RI L G subs each left m i) (hL : WL L) (hm : m < 1099511627776) (hv : fitA L vs = true) (hl : ∀ v ∈ vs, lim v) (w : i.Cm (packF L vs nb 0) N V) :
    i.cmE (packF L vs nb 0) = true ∧ RI L vs subs each each (m + 1) V := by
  obtain ⟨v1, v2⟩ := fitA_iff.1 hv
  have hu : unV L (packF L vs nb 0) = vs := pack_vals hL.right vs nb 0 v1 (fun v hv => (hl v hv).2) v2
  have hO : ∀ k, k < L.sgs.length → (i.cmO (packF L vs nb 0)).getD k false = true := fun k hk => by
    unfold Inn.cmO
    exact stO_alw h.al (fun j hj => by rw [h.ly]; exact unN_all hL _ j (by rw [← h.len]; exact hj)) _ (Nat.le_refl _) k (by rw [h.len]; exact hk)
  have hE : i.cmE (packF L vs nb 0) = true := by
    unfold Inn.cmE
    have h0 := hL.n0
    have hl0 : 0 < (i.cmO (packF L vs nb 0)).length := by unfold Inn.cmO; rw [stO_len, h.len]; omega
    rw [List.any_eq_true]
    have := hO 0 (by omega)
    rw [getDx _ hl0] at this
    exact ⟨_, List.getElem_mem hl0, this⟩
  have hM : i.cmV (packF L vs nb 0) = vs := by
    unfold Inn.cmV
    rw [h.ly, hu]
    exact mix_all _ (fun k hk => hO k (by rw [← h.len]; exact hk))
  have hF : ∀ f ∈ V.fl.l, Alw (m + 1) f := by rw [w.fl]; exact stF_alw hm h.al _ (Nat.le_refl _)
  have hFl : V.fl.l.length = L.sgs.length := by rw [w.fl, stF_len]; exact h.len
  refine ⟨hE, ?_⟩
  rcases w.rest with ⟨_, _, _, _, e⟩ | ⟨a, b, c, d, _, _, _⟩
  · rw [hE] at e; cases e
  · rw [hM] at a b
    have hg : i.w.got = { i.w with late := false, left := i.w.each } := by unfold Wt.got; rw [if_pos h.on]
    exact ⟨by rw [w.ly]; exact h.ly, hFl, hF, a, b, by rw [c]; have := h.t0; omega, by rw [c]; have := h.t; omega, by rw [w.subs]; exact h.subs, by rw [d]; exact wtGot_right h.w, by rw [d, hg]; exact h.on, by rw [d, hg]; exact h.each, by rw [d, hg]; exact h.each⟩
theorem RI.tn {L : Ly} {G subs : List Int} {each left m : Int} {i V : Inn} {N : Nat} (h : RI L G subs each left m i) (w : i.Tn N V) :
    i.w.tickE = decide (left = 1) ∧ RI L (if left = 1 then subs else G) subs each (if left = 0 then 0 else left - 1) (m + 1) V := by
  have hE : i.w.tickE = decide (left = 1) := by unfold Wt.tickE; rw [h.left]
  refine ⟨hE, ?_⟩
  have ht : i.w.tick.on = true ∧ i.w.tick.each = each ∧ i.w.tick.left = if left = 0 then 0 else left - 1 := by
    unfold Wt.tick
    split
    · rename_i hz
      rw [h.left] at hz
      exact ⟨h.on, h.each, by rw [if_pos hz, h.left]; exact hz⟩
    · rename_i hz
      rw [h.left] at hz
      exact ⟨h.on, h.each, by rw [if_neg hz]; show i.w.left - 1 = _; rw [h.left]⟩
  have hV : V.S.l = (if left = 1 then subs else G) ∧ V.G.l = (if left = 1 then subs else G) ∧ 0 ≤ V.times ∧ V.times ≤ m + 1 := by
    have a0 := h.t0
    have a1 := h.t
    rcases w.rest with ⟨a, b, c, e⟩ | ⟨a, b, c, _, _, e⟩
    · rw [hE] at e
      have e2 : ¬ left = 1 := of_decide_eq_false e
      rw [if_neg e2, a, b, c]
      exact ⟨h.S, h.G, a0, by omega⟩
    · rw [hE] at e
      have e2 : left = 1 := of_decide_eq_true e
      rw [if_pos e2, a, b, c]
      exact ⟨h.subs, h.subs, by omega, by omega⟩
  exact ⟨by rw [w.ly]; exact h.ly, by rw [w.fl]; exact h.len, by rw [w.fl]; exact fun f hf => (h.al f hf).mono (by omega), hV.1, hV.2.1, hV.2.2.1, hV.2.2.2, by rw [w.subs]; exact h.subs, by rw [w.w]; exact wtTick_right h.w, by rw [w.w]; exact ht.1, by rw [w.w]; exact ht.2.1, by rw [w.w]; exact ht.2.2⟩
/-- Values written one by one. -/
def wrS (now vs : List Int) (k : Nat) : List Int := vs.take k ++ now.drop k
theorem wrS_set {now vs : List Int} {k : Nat} (hk : k < vs.length) (hn : now.length = vs.length) : (wrS now vs k).set k vs[k] = wrS now vs (k + 1) := by
  apply List.ext_getElem?
  intro j
  unfold wrS
  by_cases hj : j = k
  · subst hj
    rw [List.getElem?_set_self (by simp; omega), List.getElem?_append_left (by simp; omega), List.getElem?_take, if_pos (by omega), List.getElem?_eq_getElem hk]
  · rw [List.getElem?_set_ne (fun h => hj h.symm)]
    by_cases h1 : j < k
    · rw [List.getElem?_append_left (by simp; omega), List.getElem?_append_left (by simp; omega), List.getElem?_take, List.getElem?_take, if_pos h1, if_pos (by omega)]
    · rw [List.getElem?_append_right (by simp; omega), List.getElem?_append_right (by simp; omega), List.getElem?_drop, List.getElem?_drop]
      simp only [List.length_take]
      congr 1
      omega
theorem wrS_zero {now vs : List Int} : wrS now vs 0 = now := by simp [wrS]
theorem wrS_all {now vs : List Int} (hn : now.length = vs.length) : wrS now vs vs.length = vs := by
  unfold wrS
  rw [List.take_of_length_le (Nat.le_refl _), List.drop_eq_nil_of_le (by omega), List.append_nil]
theorem wrS_fit {L : Ly} {now vs : List Int} (h1 : fitA L now = true) (h2 : fitA L vs = true) : ∀ k, k ≤ vs.length → fitA L (wrS now vs k) = true := by
  obtain ⟨a1, a2⟩ := fitA_iff.1 h1
  obtain ⟨b1, b2⟩ := fitA_iff.1 h2
  intro k hk
  refine fitA_iff.2 ⟨by simp [wrS]; omega, fun j hj => ?_⟩
  have e : (wrS now vs k).getD j 0 = if j < k then vs.getD j 0 else now.getD j 0 := by
    unfold wrS
    rw [List.getD_eq_getElem?_getD]
    split
    · rw [List.getElem?_append_left (by simp; omega), List.getElem?_take, if_pos (by assumption), ← List.getD_eq_getElem?_getD]
    · rw [List.getElem?_append_right (by simp; omega), List.getElem?_drop, List.getD_eq_getElem?_getD]
      simp only [List.length_take]
      congr 2
      omega
  rw [e]
  split
  · exact b2 j hj
  · exact a2 j hj
end Go.Proofs.YtnhegnneohpkaaaGreat
