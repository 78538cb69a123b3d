/- box.Drop. -/
import Derived.Test.YtkfedgjepiljiaaDoorBxK
import Derived.Test.YtkfedgjepiljiaaDoorMgFrR
import Derived.Test.YtkfedgjepiljiaaDoorOwS
import Derived.Test.YtkfedgjepiljiaaDoorMgPrPlain
namespace Go.Proofs.YtkfedgjepiljiaaDoor
open Go.ChangeShapes Go.WideShapes Go.ChangeAt Go.RowKit
open FP (Fr)
open HP (kB at' Hp UpI DnI)

/-- What Drop's last loads ask. -/
def drR (a b : Nat) (cs : List Value) (v : Value) : Nat → World → Prop
  | 0, W => W.rangeAt a 0 cs
  | 2, W => W.cell? ⟨b, 0, none⟩ = some v
  | _, _ => True
theorem drR_all {a b : Nat} {cs : List Value} {v : Value} {W : World} (h0 : W.rangeAt a 0 cs) (h1 : W.cell? ⟨b, 0, none⟩ = some v) (j : Nat) : drR a b cs v j W := by
  unfold drR
  split
  · exact h0
  · exact h1
  · trivial
theorem drR_other {a b : Nat} {cs : List Value} {v : Value} {W : World} {j : Nat} (h0 : j ≠ 0) (h2 : j ≠ 2) : drR a b cs v j W := by
  unfold drR
  split <;> simp_all
def NoDrop (w : World) (e : Ending) (w' : World) : Prop := e = .returned (.tuple #[.agg #[.slice none 0 0, .int .i64 0, .int .i64 0], .int .i64 0, .int .i64 1]) ∧ Below w.heap.size w w'

def DropV (l : List Bx) (seq cap handle : Int) (w : World) (e : Ending) (w' : World) : Prop :=
  ∃ A c m, e = .returned (.tuple #[.agg #[.slice A m.length c, .int .i64 seq, .int .i64 cap], .int .i64 ((l.length : Int) - m.length), .int .i64 0]) ∧ Own w' w.heap.size 60 7 A c (m.map bxc) ∧ m.Perm (l.filter fun x => !(x.h == handle)) ∧ Hp m 0 m.length ∧ Below w.heap.size w w'

end Go.Proofs.YtkfedgjepiljiaaDoor

/- few and alive of the frame statements. -/
namespace Go.Proofs.YtkfedgjepiljiaaDoor
open Go.ChangeShapes Go.WideShapes Go.ChangeAt Go.RowKit
open FP (bit bitsOf Fr bitB idPart dataPart headF)

def cutF (f : Fr) : Fr := { f with data := f.data.extract 0 (min f.data.size 12) }

end Go.Proofs.YtkfedgjepiljiaaDoor

/- few of package 05: the first ten frames, their data cut. -/
namespace Go.Proofs.YtkfedgjepiljiaaDoor
open Go.ChangeShapes Go.WideShapes Go.ChangeAt Go.RowKit
open FP (Fr)

theorem slFrame : SlT Tryd.prog 48 24 5 32 := SlT.mk Tryd.underlying48 (z := .agg #[.int .u32 0, .bool false, .bool false, .int .i64 0, .string ⟨#[]⟩]) (by kernel_rfl) rfl (by decide)

def cutL (l : List Fr) : List Fr := (l.take 10).map cutF

theorem frc_len (f : Fr) : (frc f).length = 5 := rfl
theorem frc_rows (l : List Fr) : ∀ r ∈ l.map frc, r.length = 5 := by intro r hr; obtain ⟨x, _, rfl⟩ := List.mem_map.1 hr; rfl
theorem frc_ones (l : List Fr) : ∀ r ∈ l.map frc, ∀ u ∈ r, u.oneCell' = true := by
  intro r hr u hu
  obtain ⟨x, _, rfl⟩ := List.mem_map.1 hr
  simp only [frc, List.mem_cons, List.not_mem_nil, or_false] at hu
  rcases hu with rfl | rfl | rfl | rfl | rfl <;> rfl

/-- The first k frames' data have been cut. -/
def cutK (l : List Fr) (k : Nat) : List Fr := (l.take k).map cutF ++ l.drop k
theorem cutK_zero (l : List Fr) : cutK l 0 = l := by simp [cutK]
theorem cutK_full (l : List Fr) : cutK l l.length = l.map cutF := by simp [cutK]
theorem cutK_len (l : List Fr) (k : Nat) (h : k ≤ l.length) : (cutK l k).length = l.length := by simp [cutK]; omega
theorem cutK_at (l : List Fr) (k : Nat) (h : k < l.length) : (cutK l k)[k]? = some l[k] := by
  unfold cutK
  rw [List.getElem?_append_right (by simp; omega)]
  simp only [List.length_map, List.length_take, List.getElem?_drop]
  rw [show k + (k - min k l.length) = k by omega, List.getElem?_eq_getElem h]
theorem cutK_succ (l : List Fr) (k : Nat) (h : k < l.length) : cutK l (k + 1) = (cutK l k).set k (cutF l[k]) := by
  unfold cutK
  rw [List.take_succ_eq_append_getElem h, List.map_append, List.set_append_right _ _ (by simp; omega)]
  simp only [List.length_map, List.length_take, List.map_cons, List.map_nil]
  rw [show k - min k l.length = 0 by omega, List.drop_eq_getElem_cons h, List.set_cons_zero, List.append_assoc]
  rfl
theorem cutK_rows (l : List Fr) (k : Nat) (h : k < l.length) : ((cutK l (k + 1)).map frc).flatten = ((cutK l k).map frc).flatten.set (k * 5 + 4) (.string (l[k].data.extract 0 (min l[k].data.size 12))) := by
  have hk : ((cutK l k).map frc)[k]? = some (frc l[k]) := by rw [List.getElem?_map, cutK_at l k h]; rfl
  rw [flatten_set _ 5 (frc_rows _) k 4 _ _ hk (by omega), cutK_succ l k h, List.map_set]
  rfl

def FewV (l : List Fr) (w : World) (e : Ending) (w' : World) : Prop :=
  ∃ A' c', e = .returned (.slice A' (cutL l).length c') ∧ FrR w' w'.heap.size A' (cutL l) ∧ (cutL l).length ≤ c' ∧ Below w.heap.size w w'

end Go.Proofs.YtkfedgjepiljiaaDoor

/- The reference's Order, as a function. -/
namespace Go.Proofs.YtkfedgjepiljiaaDoor
open Go.ChangeShapes Go.WideShapes Go.ChangeAt Go.RowKit
open FP (Fr)

namespace OP
def atF (l : List Fr) (k : Nat) : Fr := (l[k]?).getD ⟨0, false, false, 0, ⟨#[]⟩⟩
theorem atF_lt {l : List Fr} {k : Nat} (h : k < l.length) : atF l k = l[k] := by unfold atF; rw [List.getElem?_eq_getElem h]; rfl
/-- The place of the best one of the first j. -/
def bestTo (l : List Fr) : Nat → Nat
  | 0 => 0
  | j + 1 => if lessB (atF l j) (atF l (bestTo l j)) = true then j else bestTo l j
theorem bestTo_lt (l : List Fr) : ∀ j, 0 < j → bestTo l j < j
  | 0, h => absurd h (by omega)
  | 1, _ => by unfold bestTo; split <;> simp [bestTo]
  | j + 2, _ => by
    unfold bestTo
    have := bestTo_lt l (j + 1) (by omega)
    split <;> omega
/-- The best one, again and again. -/
def ordN : Nat → List Fr → List Fr
  | 0, _ => []
  | n + 1, l => if l = [] then [] else atF l (bestTo l l.length) :: ordN n (l.take (bestTo l l.length) ++ l.drop (bestTo l l.length + 1))
def orderF (l : List Fr) : List Fr := ordN l.length l
theorem rest_len {l : List Fr} {k : Nat} (h : k < l.length) : (l.take k ++ l.drop (k + 1)).length = l.length - 1 := by
  simp; omega
theorem orderF_nil : orderF [] = [] := rfl
theorem orderF_step {l : List Fr} (h : 0 < l.length) : orderF l = atF l (bestTo l l.length) :: orderF (l.take (bestTo l l.length) ++ l.drop (bestTo l l.length + 1)) := by
  unfold orderF
  obtain ⟨n, hn⟩ : ∃ n, l.length = n + 1 := ⟨l.length - 1, by omega⟩
  have hb := bestTo_lt l l.length h
  have hr := rest_len hb
  conv => lhs; rw [hn]
  rw [ordN, if_neg (by intro e; rw [e] at h; simp at h), hr, show l.length - 1 = n by omega]
theorem ordN_len : ∀ (n : Nat) (l : List Fr), l.length = n → (ordN n l).length = n
  | 0, _, _ => rfl
  | n + 1, l, h => by
    rw [ordN, if_neg (by intro e; rw [e] at h; simp at h), List.length_cons, ordN_len n _ (by rw [rest_len (bestTo_lt l _ (by omega))]; omega)]
theorem orderF_len (l : List Fr) : (orderF l).length = l.length := ordN_len _ l rfl
theorem rest_perm {l : List Fr} {k : Nat} (h : k < l.length) : (l[k] :: (l.take k ++ l.drop (k + 1))).Perm l := by
  have e : l.take k ++ l[k] :: l.drop (k + 1) = l := by rw [← List.drop_eq_getElem_cons h, List.take_append_drop]
  have := (List.perm_middle (a := l[k]) (l₁ := l.take k) (l₂ := l.drop (k + 1))).symm
  rwa [e] at this
theorem ordN_perm : ∀ (n : Nat) (l : List Fr), l.length = n → (ordN n l).Perm l
  | 0, l, h => by rw [List.length_eq_zero_iff.1 h]; exact List.Perm.refl _
  | n + 1, l, h => by
    have hb := bestTo_lt l l.length (by omega)
    rw [ordN, if_neg (by intro e; rw [e] at h; simp at h), atF_lt hb]
    exact (List.Perm.cons _ (ordN_perm n _ (by rw [rest_len hb]; omega))).trans (rest_perm hb)
theorem orderF_perm (l : List Fr) : (orderF l).Perm l := ordN_perm _ l rfl
end OP
end Go.Proofs.YtkfedgjepiljiaaDoor

/- The plain law of boxes: which may be, by members; the best one of a heap is the one that Order takes. -/
namespace Go.Proofs.YtkfedgjepiljiaaDoor
open FP (Fr)
open HP (kB at' Hp)
open OP (atF bestTo orderF)

/-- What each box must be. -/
def okM (seq : Int) (x : Bx) : Prop := FP.rightB x.f = true ∧ 0 ≤ x.h ∧ x.h ≤ 1000000 ∧ 0 ≤ x.s ∧ x.s < seq
theorem right_iff {l : List Bx} {seq cap : Int} : rightBx l seq cap = true ↔ 1 ≤ cap ∧ cap ≤ 8 ∧ (l.length : Int) ≤ cap ∧ 0 ≤ seq ∧ seq ≤ 1099511627776 ∧ (∀ x ∈ l, okM seq x) ∧ l.Pairwise (fun x y => x.s ≠ y.s) ∧ Hp l 0 l.length := by
  rw [rightBx_iff]
  have key : okTo l seq l.length ↔ (∀ x ∈ l, okM seq x) ∧ l.Pairwise (fun x y => x.s ≠ y.s) ∧ Hp l 0 l.length := by
    constructor
    · intro h
      have hm : ∀ x ∈ l, okM seq x := fun x hx => by
        obtain ⟨k, hk, rfl⟩ := List.mem_iff_getElem.1 hx
        have := h k hk hk
        unfold okBx at this
        simp only [Bool.and_eq_true, decide_eq_true_eq] at this
        exact ⟨this.1, this.2.1, this.2.2.1, this.2.2.2.1, this.2.2.2.2.1⟩
      refine ⟨hm, ?_, fun k h0 hk _ => ?_⟩
      · rw [List.pairwise_iff_getElem]
        intro i j hi hj hij
        have := h j hj hj
        unfold okBx at this
        simp only [Bool.and_eq_true, Bool.not_eq_true'] at this
        have h3 := List.any_eq_false.1 this.2.2.2.2.2.1 l[i] (by rw [List.mem_take_iff_getElem]; exact ⟨i, by omega, rfl⟩)
        intro e
        apply h3
        rw [e]; simp
      · have hp : (k - 1) / 2 < l.length := by omega
        have := h k hk hk
        unfold okBx at this
        rw [List.getElem?_eq_getElem hp] at this
        simp only [Bool.and_eq_true, Bool.or_eq_true, decide_eq_true_eq, Bool.not_eq_true'] at this
        rcases this.2.2.2.2.2.2 with h' | h'
        · omega
        · rw [HP.at_lt hk, HP.at_lt hp, ← HP.ahead_kB (hm _ (List.getElem_mem hk)).1 (hm _ (List.getElem_mem hp)).1]
          exact h'
    · rintro ⟨hm, hd, hh⟩ k hk _
      obtain ⟨a1, a2, a3, a4, a5⟩ := hm _ (List.getElem_mem hk)
      refine okBx_mk a1 a2 a3 a4 a5 ?_ ?_
      · rw [List.any_eq_false]
        intro y hy
        rw [List.mem_take_iff_getElem] at hy
        obtain ⟨i, hi, rfl⟩ := hy
        have := List.pairwise_iff_getElem.1 hd i k (by omega) hk (by omega)
        simpa using this
      · by_cases h0 : k = 0
        · exact .inl h0
        · have hp : (k - 1) / 2 < l.length := by omega
          refine .inr ⟨_, hp, rfl, ?_⟩
          rw [HP.ahead_kB a1 (hm _ (List.getElem_mem hp)).1, ← HP.at_lt hk, ← HP.at_lt hp]
          exact hh k (by omega) hk (Nat.zero_le _)
  rw [key]

theorem bestTo_law {l : List Bx} (hg : ∀ x ∈ l, FP.rightB x.f = true) (hs : l.Pairwise (fun x y => x.s < y.s)) : ∀ j, 0 < j → j ≤ l.length → ∀ i, i < j → kB (at' l i) (at' l (bestTo (l.map (·.f)) j)) = false
  | 0, h, _, _, _ => absurd h (by omega)
  | j + 1, _, hj, i, hi => by
    have hat : ∀ k, k < l.length → atF (l.map (·.f)) k = (at' l k).f := fun k hk => by
      rw [HP.at_lt hk, OP.atF_lt (by simpa using hk)]; simp
    have hr : ∀ k, k < l.length → FP.rightB (at' l k).f = true := fun k hk => by rw [HP.at_lt hk]; exact hg _ (List.getElem_mem hk)
    have hlt : ∀ a b, a < b → b < l.length → (at' l a).s < (at' l b).s := fun a b hab hb => by
      rw [HP.at_lt hb, HP.at_lt (by omega)]
      exact List.pairwise_iff_getElem.1 hs a b (by omega) hb hab
    by_cases h0 : j = 0
    · subst h0
      have : bestTo (l.map (·.f)) (0 + 1) = 0 := by unfold bestTo; split <;> rfl
      rw [this, show i = 0 by omega]
      exact HP.kB_irrefl _
    · have hbl := OP.bestTo_lt (l.map (·.f)) j (by omega)
      have ih := bestTo_law hg hs j (by omega) (by omega)
      obtain ⟨b, hb⟩ : ∃ b, b = bestTo (l.map (·.f)) j := ⟨_, rfl⟩
      rw [← hb] at ih hbl
      have hst : bestTo (l.map (·.f)) (j + 1) = if lessB (atF (l.map (·.f)) j) (atF (l.map (·.f)) b) = true then j else b := by rw [hb]; rfl
      rw [hst, hat j (by omega), hat b (by omega), PP.lessB_bl (hr j (by omega)) (hr b (by omega))]
      rcases HP.kB_cases (at' l j) (at' l b) with ⟨e, h1⟩ | ⟨e, h1, h2⟩
      · have hsb := hlt b j hbl (by omega)
        rw [e, PP.bl_irrefl, if_neg (by simp)]
        by_cases hij : i = j
        · rw [hij, h1]; simp; omega
        · exact ih i (by omega)
      · by_cases hbb : PP.bl (fieldF (at' l j).f) (fieldF (at' l b).f) = true
        · rw [if_pos hbb]
          rw [hbb] at h1
          by_cases hij : i = j
          · rw [hij]; exact HP.kB_irrefl _
          · exact HP.kB_ntrans (ih i (by omega)) (HP.kB_asymm h1)
        · rw [if_neg hbb]
          by_cases hij : i = j
          · rw [hij, h1]; simpa using hbb
          · exact ih i (by omega)

theorem inc_ne {l : List Bx} (h : l.Pairwise (fun x y => x.s < y.s)) : l.Pairwise (fun x y => x.s ≠ y.s) := h.imp (fun h => by omega)
theorem ne_perm {l m : List Bx} (p : l.Perm m) (h : m.Pairwise (fun x y => x.s ≠ y.s)) : l.Pairwise (fun x y => x.s ≠ y.s) := (p.pairwise_iff (fun h => Ne.symm h)).2 h
theorem ne_uniq {l : List Bx} (h : l.Pairwise (fun x y => x.s ≠ y.s)) {x y : Bx} (hx : x ∈ l) (hy : y ∈ l) (e : x.s = y.s) : x = y := by
  obtain ⟨i, hi, rfl⟩ := List.mem_iff_getElem.1 hx
  obtain ⟨j, hj, rfl⟩ := List.mem_iff_getElem.1 hy
  rcases Nat.lt_trichotomy i j with h1 | h1 | h1
  · exact absurd e (List.pairwise_iff_getElem.1 h i j hi hj h1)
  · subst h1; rfl
  · exact absurd e.symm (List.pairwise_iff_getElem.1 h j i hj hi h1)

/-- The first one of a heap is the one that Order takes, of the same boxes in the order in which they came. -/
theorem first_best {m bs : List Bx} (hp : m.Perm bs) (hg : ∀ x ∈ bs, FP.rightB x.f = true) (hs : bs.Pairwise (fun x y => x.s < y.s)) (hh : Hp m 0 m.length) (h0 : 0 < bs.length) : at' m 0 = at' bs (bestTo (bs.map (·.f)) bs.length) := by
  have hml := hp.length_eq
  have hb := OP.bestTo_lt (bs.map (·.f)) bs.length h0
  have hx : at' m 0 ∈ bs := by rw [HP.at_lt (by omega)]; exact hp.mem_iff.1 (List.getElem_mem _)
  have hy : at' bs (bestTo (bs.map (·.f)) bs.length) ∈ bs := by rw [HP.at_lt hb]; exact List.getElem_mem _
  refine ne_uniq (inc_ne hs) hx hy ?_
  have h1 : kB (at' m 0) (at' bs (bestTo (bs.map (·.f)) bs.length)) = false := by
    obtain ⟨i, hi, e⟩ := List.mem_iff_getElem.1 hx
    have := bestTo_law hg hs bs.length h0 (Nat.le_refl _) i hi
    rwa [HP.at_lt hi, e] at this
  have h2 : kB (at' bs (bestTo (bs.map (·.f)) bs.length)) (at' m 0) = false := by
    obtain ⟨i, hi, e⟩ := List.mem_iff_getElem.1 (hp.mem_iff.2 hy)
    have := hh.first i hi
    rwa [HP.at_lt hi, e] at this
  rcases Int.lt_trichotomy (at' m 0).s (at' bs (bestTo (bs.map (·.f)) bs.length)).s with h | h | h
  · rcases HP.kB_total (x := at' m 0) (y := at' bs (bestTo (bs.map (·.f)) bs.length)) (by omega) with h3 | h3
    · rw [h1] at h3; cases h3
    · rw [h2] at h3; cases h3
  · exact h
  · rcases HP.kB_total (x := at' m 0) (y := at' bs (bestTo (bs.map (·.f)) bs.length)) (by omega) with h3 | h3
    · rw [h1] at h3; cases h3
    · rw [h2] at h3; cases h3
end Go.Proofs.YtkfedgjepiljiaaDoor
