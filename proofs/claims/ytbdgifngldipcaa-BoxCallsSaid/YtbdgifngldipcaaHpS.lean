/- The plain law of BoxOrder: which boxes are put, and in which order they are taken. -/
import Derived.Test.YtbdgifngldipcaaHpR
namespace Go.Proofs.Ytbdgifngldipcaa
open FP (Fr)
open HP (kB at' Hp)
open OP (atF bestTo orderF)

/-- The boxes that are put, of the first k frames. -/
def bsK (l : List Fr) : Nat → List Bx
  | 0 => []
  | k + 1 => if k < 8 ∧ FP.rightB (cutF (atF l k)) = true then bsK l k ++ [⟨k, cutF (atF l k), (bsK l k).length⟩] else bsK l k
theorem bsK_len (l : List Fr) : ∀ k, (bsK l k).length ≤ min k 8
  | 0 => by simp [bsK]
  | k + 1 => by
    have := bsK_len l k
    unfold bsK
    split
    · rw [List.length_append, List.length_singleton]; omega
    · omega
theorem bsK_mem (l : List Fr) (hid : ∀ k, (atF l k).id < 4294967296) : ∀ k, ∀ x ∈ bsK l k, okM ((bsK l k).length : Int) x ∧ x.f.id < 4294967296
  | 0, x, h => by simp [bsK] at h
  | k + 1, x, h => by
    unfold bsK at h ⊢
    split at h
    · rename_i hc
      rw [if_pos hc, List.length_append, List.length_singleton]
      rcases List.mem_append.1 h with h | h
      · obtain ⟨⟨a, b, c, d, e⟩, f⟩ := bsK_mem l hid k x h
        exact ⟨⟨a, b, c, d, by omega⟩, f⟩
      · rw [List.mem_singleton] at h
        subst h
        exact ⟨⟨hc.2, by show (0 : Int) ≤ (k : Int); omega, by show (k : Int) ≤ 1000000; omega, by show (0 : Int) ≤ ((bsK l k).length : Int); omega, by show ((bsK l k).length : Int) < _; omega⟩, hid k⟩
    · rename_i hc
      rw [if_neg hc]
      exact bsK_mem l hid k x h
theorem bsK_inc (l : List Fr) (hid : ∀ k, (atF l k).id < 4294967296) : ∀ k, (bsK l k).Pairwise (fun x y => x.s < y.s)
  | 0 => by simp [bsK]
  | k + 1 => by
    unfold bsK
    split
    · rw [List.pairwise_append]
      refine ⟨bsK_inc l hid k, by simp, fun x hx y hy => ?_⟩
      rw [List.mem_singleton] at hy
      subst hy
      exact (bsK_mem l hid k x hx).1.2.2.2.2
    · exact bsK_inc l hid k
theorem bsK_right {l : List Fr} (hid : ∀ k, (atF l k).id < 4294967296) {k : Nat} {m : List Bx} (p : m.Perm (bsK l k)) (hh : Hp m 0 m.length) : rightBx m (bsK l k).length 8 = true := by
  have hl := bsK_len l k
  have hml := p.length_eq
  exact right_iff.2 ⟨by omega, by omega, by omega, by omega, by omega, fun x hx => (bsK_mem l hid k x (p.mem_iff.1 hx)).1, ne_perm p (inc_ne (bsK_inc l hid k)), hh⟩

/-- Order's rest, of boxes. -/
def restB (bs : List Bx) : List Bx := bs.take (bestTo (bs.map (·.f)) bs.length) ++ bs.drop (bestTo (bs.map (·.f)) bs.length + 1)
theorem restB_inc {bs : List Bx} (h : bs.Pairwise (fun x y => x.s < y.s)) : (restB bs).Pairwise (fun x y => x.s < y.s) := by
  refine h.sublist ?_
  unfold restB
  have h1 : (bs.take (bestTo (bs.map (·.f)) bs.length) ++ bs.drop (bestTo (bs.map (·.f)) bs.length + 1)).Sublist (bs.take (bestTo (bs.map (·.f)) bs.length) ++ bs.drop (bestTo (bs.map (·.f)) bs.length)) :=
    List.Sublist.append (List.Sublist.refl _) (List.drop_sublist_drop_left _ (Nat.le_succ _))
  rwa [List.take_append_drop] at h1
theorem restB_perm {bs : List Bx} (h0 : 0 < bs.length) : (restB bs ++ [at' bs (bestTo (bs.map (·.f)) bs.length)]).Perm bs := by
  have hb := OP.bestTo_lt (bs.map (·.f)) bs.length h0
  rw [HP.at_lt hb]
  refine List.perm_append_comm.trans ?_
  have e : bs.take (bestTo (bs.map (·.f)) bs.length) ++ bs[bestTo (bs.map (·.f)) bs.length] :: bs.drop (bestTo (bs.map (·.f)) bs.length + 1) = bs := by rw [← List.drop_eq_getElem_cons hb, List.take_append_drop]
  have := (List.perm_middle (a := bs[bestTo (bs.map (·.f)) bs.length]) (l₁ := bs.take (bestTo (bs.map (·.f)) bs.length)) (l₂ := bs.drop (bestTo (bs.map (·.f)) bs.length + 1))).symm
  rwa [e] at this
theorem order_restB {bs : List Bx} (h0 : 0 < bs.length) : orderF (bs.map (·.f)) = (at' bs (bestTo (bs.map (·.f)) bs.length)).f :: orderF ((restB bs).map (·.f)) := by
  have hb := OP.bestTo_lt (bs.map (·.f)) bs.length h0
  rw [OP.orderF_step (by simpa using h0), List.length_map, OP.atF_lt (by simpa using hb), HP.at_lt hb]
  unfold restB
  simp [List.map_take, List.map_drop]
/-- What Take leaves is what Order goes on with. -/
theorem take_rest {m m' bs : List Bx} (hp : m.Perm bs) (hg : ∀ x ∈ bs, FP.rightB x.f = true) (hs : bs.Pairwise (fun x y => x.s < y.s)) (hh : Hp m 0 m.length) (h0 : 0 < bs.length) (ht : (m' ++ [at' m 0]).Perm m) : m'.Perm (restB bs) := by
  have e := first_best hp hg hs hh h0
  have h1 := (ht.trans hp).trans (restB_perm h0).symm
  rw [e] at h1
  exact (List.perm_append_right_iff _).1 h1
end Go.Proofs.Ytbdgifngldipcaa
