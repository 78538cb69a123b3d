/- Which layouts may be, by places that are apart one by one: the document's way. Plain. -/
import Derived.Test.YtplpnnjjjfcibaaRsB
namespace Go.Proofs.Ytplpnnjjjfcibaa
open SG PD

theorem overB_iff {a b : Sg} : overB a b = true ↔ ∃ p, p ∈ plL a ∧ p ∈ plL b := by
  unfold overB
  simp only [List.any_eq_true, beq_iff_eq]
  constructor
  · rintro ⟨p, hp, q, hq, rfl⟩; exact ⟨q, hp, hq⟩
  · rintro ⟨p, hp, hq⟩; exact ⟨p, hp, p, hq, rfl⟩
theorem ofB_iff {s : Sg} {a : Int} : ofB s a = true ↔ ∃ p ∈ plL s, (p : Int) = a := by
  unfold ofB; simp
def good1 (L : Ly) (i : Nat) : Prop := rightS (L.sgs.getD i dflt) L.size = true ∧ -1 ≤ L.nws.getD i 0 ∧ L.nws.getD i 0 < 8 * L.size
def bad2 (L : Ly) (i k : Nat) : Prop := (k < i ∧ overB (L.sgs.getD i dflt) (L.sgs.getD k dflt) = true) ∨ (0 ≤ L.nws.getD i 0 ∧ (ofB (L.sgs.getD k dflt) (L.nws.getD i 0) = true ∨ (k < i ∧ L.nws.getD k 0 = L.nws.getD i 0)))
theorem getD_at {α : Type} {l : List α} {i : Nat} (d : α) (hi : i < l.length) : l.getD i d = l[i] := by rw [List.getD_eq_getElem?_getD, List.getElem?_eq_getElem hi]; rfl
theorem right_good1 {L : Ly} (h : rightB L = true) {i : Nat} (hi : i < L.sgs.length) : good1 L i := by
  have hr := right_iff.1 h
  have hn : i < L.nws.length := by rw [hr.2.2.2.1]; exact hi
  unfold good1
  rw [getD_at _ hi, getD_at _ hn]
  exact ⟨hr.2.2.2.2.1 _ (List.getElem_mem hi), hr.2.2.2.2.2.1 _ (List.getElem_mem hn)⟩
theorem right_bad2 {L : Ly} (h : rightB L = true) {i k : Nat} (hi : i < L.sgs.length) (hk : k < L.sgs.length) : ¬ bad2 L i k := by
  have hr := right_iff.1 h
  have hin : i < L.nws.length := by rw [hr.2.2.2.1]; exact hi
  have hkn : k < L.nws.length := by rw [hr.2.2.2.1]; exact hk
  unfold bad2
  rw [getD_at _ hi, getD_at _ hk, getD_at _ hin, getD_at _ hkn]
  rintro (⟨h1, h2⟩ | ⟨h0, h1 | ⟨h1, h2⟩⟩)
  · obtain ⟨p, hp, hq⟩ := overB_iff.1 h2
    exact apart h (by omega : i ≠ k) hi hk hp hq
  · obtain ⟨p, hp, e⟩ := ofB_iff.1 h1
    exact apart_new h hk hin hp e.symm
  · exact apart_news h (by omega : k ≠ i) hkn hin (by omega) h2
theorem flat_le {p : Nat} : ∀ {l : List Sg}, (∀ (i k : Nat) (hi : i < l.length) (hk : k < i), ¬ (p ∈ plL l[i] ∧ p ∈ plL (l[k]'(by omega)))) → (l.flatMap plL).count p ≤ 1
  | [], _ => by simp
  | x :: l, h => by
    rw [List.flatMap_cons, List.count_append]
    have ih := flat_le (l := l) (fun i k hi hk => by
      have := h (i + 1) (k + 1) (by simpa using hi) (by omega)
      simpa using this)
    have hx : (plL x).count p ≤ 1 := List.nodup_iff_count.1 (plL_nodup x) p
    by_cases hp : p ∈ plL x
    · have h0 : (l.flatMap plL).count p = 0 := by
        rw [List.count_eq_zero]
        intro hm
        obtain ⟨y, hy, hpy⟩ := List.mem_flatMap.1 hm
        obtain ⟨i, hi, rfl⟩ := List.mem_iff_getElem.1 hy
        have := h (i + 1) 0 (by simpa using hi) (by omega)
        exact this ⟨by simpa using hpy, by simpa using hp⟩
      omega
    · have h0 : (plL x).count p = 0 := List.count_eq_zero.2 hp
      omega
theorem countP_le {p : Int} : ∀ {l : List Int}, (∀ (i k : Nat) (hi : i < l.length) (hk : k < i), ¬ (l[i] = p ∧ l[k]'(by omega) = p)) → l.countP (fun a => a == p) ≤ 1
  | [], _ => by simp
  | x :: l, h => by
    have ih := countP_le (l := l) (fun i k hi hk => by
      have := h (i + 1) (k + 1) (by simpa using hi) (by omega)
      simpa using this)
    rw [List.countP_cons]
    by_cases hp : x = p
    · have h0 : l.countP (fun a => a == p) = 0 := by
        rw [List.countP_eq_zero]
        intro y hy e
        obtain ⟨i, hi, rfl⟩ := List.mem_iff_getElem.1 hy
        have := h (i + 1) 0 (by simpa using hi) (by omega)
        exact this ⟨by simpa using e, by simpa using hp⟩
      rw [h0]; split <;> omega
    · rw [if_neg (by simpa using hp)]; exact ih
theorem right_of {L : Ly} (h1 : 0 ≤ L.size) (h2 : L.size ≤ 8) (h3 : L.sgs.length ≤ 16) (h4 : L.nws.length = L.sgs.length) (hg : ∀ i, i < L.sgs.length → good1 L i) (hb : ∀ i k, i < L.sgs.length → k < L.sgs.length → ¬ bad2 L i k) : rightB L = true := by
  have hover : ∀ (i k : Nat) (hi : i < L.sgs.length) (hk : k < i) (p : Nat), ¬ (p ∈ plL L.sgs[i] ∧ p ∈ plL (L.sgs[k]'(by omega))) := fun i k hi hk p hh => by
    refine hb i k hi (by omega) (.inl ⟨hk, ?_⟩)
    rw [getD_at _ hi, getD_at _ (show k < L.sgs.length by omega)]
    exact overB_iff.2 ⟨p, hh⟩
  have hnew : ∀ (i k : Nat) (hi : i < L.nws.length) (hk : k < i) (p : Nat), ¬ (L.nws[i] = (p : Int) ∧ L.nws[k]'(by omega) = (p : Int)) := fun i k hi hk p hh => by
    refine hb i k (by omega) (by omega) (.inr ⟨?_, .inr ⟨hk, ?_⟩⟩)
    · rw [getD_at _ hi]; omega
    · rw [getD_at _ hi, getD_at _ (show k < L.nws.length by omega)]; omega
  have hof : ∀ (i k : Nat) (hi : i < L.nws.length) (hk : k < L.sgs.length) (p : Nat), ¬ (p ∈ plL L.sgs[k] ∧ L.nws[i] = (p : Int)) := fun i k hi hk p hh => by
    refine hb i k (by omega) hk (.inr ⟨?_, .inl ?_⟩)
    · rw [getD_at _ hi]; omega
    · rw [getD_at _ hi, getD_at _ hk]
      exact ofB_iff.2 ⟨p, hh.1, hh.2.symm⟩
  refine right_iff.2 ⟨h1, h2, h3, h4, ?_, ?_, ?_⟩
  · intro s hs
    obtain ⟨i, hi, rfl⟩ := List.mem_iff_getElem.1 hs
    have := (hg i hi).1
    rw [getD_at _ hi] at this
    exact this
  · intro a ha
    obtain ⟨i, hi, rfl⟩ := List.mem_iff_getElem.1 ha
    have := (hg i (by omega)).2
    rw [getD_at _ hi] at this
    exact this
  · intro p _
    unfold cntL
    have c1 := flat_le (p := p) (l := L.sgs) (fun i k hi hk => hover i k hi hk p)
    have c2 := countP_le (p := (p : Int)) (l := L.nws) (fun i k hi hk => hnew i k hi hk p)
    by_cases h0 : (L.sgs.flatMap plL).count p = 0
    · omega
    · have hm := List.count_pos_iff.1 (show 0 < (L.sgs.flatMap plL).count p by omega)
      obtain ⟨s, hs, hp⟩ := List.mem_flatMap.1 hm
      obtain ⟨k, hk, rfl⟩ := List.mem_iff_getElem.1 hs
      have : L.nws.countP (fun a => a == (p : Int)) = 0 := by
        rw [List.countP_eq_zero]
        intro y hy e
        obtain ⟨i, hi, rfl⟩ := List.mem_iff_getElem.1 hy
        exact hof i k hi hk p ⟨hp, by simpa using e⟩
      omega
end Go.Proofs.Ytplpnnjjjfcibaa
