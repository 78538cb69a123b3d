/- timer's calls, each whole. -/
import Derived.Test.YtnfpbbgajabjkaaTmK
import Derived.Test.YtnfpbbgajabjkaaTmN
import Derived.Test.YtnfpbbgajabjkaaTmS
namespace Go.Proofs.Ytnfpbbgajabjkaa
open Go.ChangeShapes Go.WideShapes Go.ChangeAt Go.RowKit

def setF (now : Int) (l : List Tm) (id after : Int) : Int × List Tm × Int :=
  if rightTm now l = false ∨ id < 0 ∨ 1000000 < id ∨ after < 1 ∨ 1000000 < after then (0, [], 1) else if 32 ≤ (withoutTm id l).length then (0, [], 20) else (now, insT (withoutTm id l) ⟨id, now + after⟩, 0)
def stopF (now : Int) (l : List Tm) (id : Int) : Int × List Tm × Bool × Int := if rightTm now l = false then (0, [], false, 1) else (now, withoutTm id l, decide ((withoutTm id l).length < l.length), 0)
def tickF (now : Int) (l : List Tm) : Int × List Tm × List Tm × Int := if rightTm now l = false ∨ 1099511627776 ≤ now then (0, [], [], 1) else (now + 1, l.drop (dueN (now + 1) l), l.take (dueN (now + 1) l), 0)
/-- What the law looks for. -/
def wantF (now : Int) (l : List Tm) (id : Int) : Nat → Int × Int
  | 0 => (0, 21)
  | k + 1 => match l[k]? with
    | some x => if (x.id == id) = true then (x.due - now, 0) else wantF now l id k
    | none => wantF now l id k
theorem wantF_succ {now : Int} {l : List Tm} {id : Int} {k : Nat} (h : k < l.length) : wantF now l id (k + 1) = if (l[k].id == id) = true then (l[k].due - now, 0) else wantF now l id k := by
  rw [wantF, List.getElem?_eq_getElem h]
theorem wantF_none {now : Int} {l : List Tm} {id : Int} (h : ∀ x ∈ l, (x.id == id) = false) : ∀ k, k ≤ l.length → wantF now l id k = (0, 21)
  | 0, _ => rfl
  | k + 1, hk => by
    rw [wantF_succ (by omega), if_neg (by rw [h _ (List.getElem_mem _)]; simp)]
    exact wantF_none h k (by omega)
theorem wantF_some {now : Int} {l : List Tm} {id : Int} {i : Nat} (hi : i < l.length) (h : (l[i].id == id) = true) (hu : ∀ j (hj : j < l.length), i < j → (l[j].id == id) = false) : ∀ k, k ≤ l.length → i < k → wantF now l id k = (l[i].due - now, 0)
  | 0, _, h0 => absurd h0 (by omega)
  | k + 1, hk, hik => by
    rw [wantF_succ (by omega)]
    by_cases e : i = k
    · subst e; rw [if_pos h]
    · rw [if_neg (by rw [hu k (by omega) (by omega)]; simp)]
      exact wantF_some hi h hu k (by omega) (by omega)

def U1 (n : Int) (l : List Tm) (m : Nat) (r : Int) (w : World) (e : Ending) (w' : World) : Prop := ∃ A c, e = .returned (.tuple #[.agg #[.int .i64 n, .slice A m c], .int .i64 r]) ∧ TmR w' w'.heap.size A l ∧ Below w.heap.size w w'
def U2 (n : Int) (l : List Tm) (m : Nat) (b : Bool) (r : Int) (w : World) (e : Ending) (w' : World) : Prop := ∃ A c, e = .returned (.tuple #[.agg #[.int .i64 n, .slice A m c], .bool b, .int .i64 r]) ∧ TmR w' w'.heap.size A l ∧ Below w.heap.size w w'
def U3 (n : Int) (l : List Tm) (m : Nat) (o : List Tm) (d : Nat) (r : Int) (w : World) (e : Ending) (w' : World) : Prop := ∃ A c Ao co, e = .returned (.tuple #[.agg #[.int .i64 n, .slice A m c], .slice Ao d co, .int .i64 r]) ∧ TmR w' w'.heap.size A l ∧ Rd w' w'.heap.size Ao 1 (idRows o) ∧ Below w.heap.size w w'

section
variable (now : Int) (l : List Tm) (A : Option Addr) (c : Nat) (w : World)
theorem setU (id after : Int) (hr : TmR w w.heap.size A l) (hl : l.length ≤ 1000) (hlc : l.length ≤ c) (hdue : ∀ x ∈ l, x.due ≤ 9223372036854775807) (n : Int) (ls : List Tm) (r : Int) (h : (n, ls, r) = setF now l id after) :
    Calls Try.prog 13 #[.agg #[.int .i64 now, .slice A l.length c], .int .i64 id, .int .i64 after] w (U1 n ls ls.length r w) := by
  unfold setF at h
  split at h
  · rename_i hb
    simp only [Prod.mk.injEq] at h
    obtain ⟨rfl, rfl, rfl⟩ := h
    exact (set_bad now l A c id after w hr hl hlc hdue hb).mono fun e w' ⟨he, q⟩ => ⟨none, 0, he, Rd.nil, q⟩
  · rename_i hb
    simp only [not_or, Bool.not_eq_false] at hb
    obtain ⟨h0, h1, h2, h3, h4⟩ := hb
    split at h
    · rename_i h5
      simp only [Prod.mk.injEq] at h
      obtain ⟨rfl, rfl, rfl⟩ := h
      exact (set_busy now l A c id after w hr hlc h0 (by omega) (by omega) (by omega) (by omega) h5).mono fun e w' ⟨he, q⟩ => ⟨none, 0, he, Rd.nil, q⟩
    · rename_i h5
      simp only [Prod.mk.injEq] at h
      obtain ⟨e1, rfl, rfl⟩ := h
      rw [e1]
      refine (set_ok now l A c id after w hr hlc h0 (by omega) (by omega) (by omega) (by omega) (by omega)).mono ?_
      rintro e w' ⟨A', c', he, r, _, q⟩
      exact ⟨A', c', he, r, q⟩
theorem stopU (id : Int) (hr : TmR w w.heap.size A l) (hl : l.length ≤ 1000) (hlc : l.length ≤ c) (hdue : ∀ x ∈ l, x.due ≤ 9223372036854775807) (n : Int) (ls : List Tm) (b : Bool) (r : Int) (h : (n, ls, b, r) = stopF now l id) :
    Calls Try.prog 14 #[.agg #[.int .i64 now, .slice A l.length c], .int .i64 id] w (U2 n ls ls.length b r w) := by
  unfold stopF at h
  split at h
  · rename_i hb
    simp only [Prod.mk.injEq] at h
    obtain ⟨rfl, rfl, rfl, rfl⟩ := h
    exact (stop_bad now l A c id w hr hl hlc hdue hb).mono fun e w' ⟨he, q⟩ => ⟨none, 0, he, Rd.nil, q⟩
  · rename_i hb
    simp only [Prod.mk.injEq] at h
    obtain ⟨e1, rfl, rfl, rfl⟩ := h
    rw [e1]
    refine (stop_ok now l A c id w hr hl hlc hdue (by simpa using hb)).mono ?_
    rintro e w' ⟨A', c', he, r, _, q⟩
    exact ⟨A', c', he, r, q⟩
theorem tickU (hr : TmR w w.heap.size A l) (hl : l.length ≤ 1000) (hlc : l.length ≤ c) (hdue : ∀ x ∈ l, x.due ≤ 9223372036854775807) (n : Int) (ls o : List Tm) (r : Int) (h : (n, ls, o, r) = tickF now l) :
    Calls Try.prog 16 #[.agg #[.int .i64 now, .slice A l.length c]] w (U3 n ls ls.length o o.length r w) := by
  unfold tickF at h
  split at h
  · rename_i hb
    simp only [Prod.mk.injEq] at h
    obtain ⟨rfl, rfl, rfl, rfl⟩ := h
    exact (tick_bad now l A c w hr hl hlc hdue hb).mono fun e w' ⟨he, q⟩ => ⟨none, 0, none, 0, he, Rd.nil, Rd.nil, q⟩
  · rename_i hb
    simp only [not_or, Bool.not_eq_false] at hb
    simp only [Prod.mk.injEq] at h
    obtain ⟨rfl, rfl, rfl, rfl⟩ := h
    refine (tick_ok now l A c w hr hlc hb.1 (by omega)).mono ?_
    rintro e w' ⟨A', c', Ao, co, he, r, _, o, q⟩
    have hlen : (l.take (dueN (now + 1) l)).length = dueN (now + 1) l := by rw [List.length_take]; have := dueN_le (now + 1) l; omega
    rw [hlen]
    exact ⟨A', c', Ao, co, he, r, o.rd (idRows_rows _), q⟩
theorem leftU (id : Int) (hr : TmR w w.heap.size A l) (hlc : l.length ≤ c) (hR : rightTm now l = true) (d g : Int) (h : (d, g) = wantF now l id l.length) :
    Calls Try.prog 15 #[.agg #[.int .i64 now, .slice A l.length c], .int .i64 id] w fun e w' => e = .returned (.tuple #[.int .i64 d, .int .i64 g]) ∧ Below w.heap.size w w' := by
  refine (left_ok now l A c id w hr hlc hR).mono ?_
  rintro e w' ⟨⟨hx, rfl⟩ | ⟨i, hi, hx, rfl⟩, q⟩
  · have hn : ∀ x ∈ l, (x.id == id) = false := fun x hx' => by
      have : ¬ l.any (fun x => x.id == id) = true := fun hc => by have := (idxTm_nonneg (fun x => x.id == id) l).2 hc; omega
      rw [List.any_eq_true] at this
      cases hb : x.id == id
      · rfl
      · exact absurd ⟨x, hx', hb⟩ this
    rw [wantF_none hn _ (Nat.le_refl _)] at h
    simp only [Prod.mk.injEq] at h
    obtain ⟨rfl, rfl⟩ := h
    exact ⟨rfl, q⟩
  · obtain ⟨i', e1, h1, hd⟩ := delTm_start (p := fun x => x.id == id) (l := l) (by omega)
    have hii : i' = i := by omega
    subst hii
    have hmi : (l[i'].id == id) = true := by
      unfold idxTm at hx
      split at hx
      · omega
      · have hf : l.findIdx (fun x => x.id == id) = i' := by omega
        have := List.findIdx_getElem (p := fun x : Tm => x.id == id) (xs := l) (w := by rw [hf]; exact h1)
        simpa [hf] using this
    have hu : ∀ j (hj : j < l.length), i' < j → (l[j].id == id) = false := fun j hj hij => by
      obtain ⟨_, _, _, hrf⟩ := right_ref.1 hR
      have := ((hrf j hj hj).2 i' h1 hij).1
      rw [beq_eq_false_iff_ne]
      intro e2
      rw [beq_iff_eq] at hmi
      exact this (by rw [hmi, e2])
    rw [wantF_some h1 hmi hu _ (Nat.le_refl _) h1] at h
    simp only [Prod.mk.injEq] at h
    obtain ⟨rfl, rfl⟩ := h
    exact ⟨rfl, q⟩
end
/-- What is due, as the document says it. -/
theorem due_take {now : Int} {l : List Tm} (h : rightTm now l = true) : l.take (dueN (now + 1) l) = dueL (now + 1) l ∧ l.drop (dueN (now + 1) l) = restL (now + 1) l := by
  obtain ⟨g1, g2, g3, g4⟩ := right_due h
  clear g1 g2 g3
  have hp := srtP_of (rightTm_iff.1 h).2.2.2.1
  clear h
  unfold dueL restL dueN
  induction l with
  | nil => exact ⟨rfl, rfl⟩
  | cons x l ih =>
    obtain ⟨h1, h2⟩ := ih (fun y hy => g4 y (by simp [hy])) (List.pairwise_cons.1 hp).2
    cases hx : x.due == now + 1
    · have hall : ∀ y ∈ x :: l, (y.due == now + 1) = false := fun y hy => by
        rw [beq_eq_false_iff_ne] at *
        rcases List.mem_cons.1 hy with rfl | hy'
        · exact hx
        · have h3 := (List.pairwise_cons.1 hp).1 y hy'
          have h4 := g4 x (by simp)
          unfold aheadT2 at h3
          omega
      rw [List.takeWhile_cons_of_neg (by rw [hx]; simp)]
      refine ⟨?_, ?_⟩
      · rw [List.length_nil, List.take_zero, eq_comm, List.filter_eq_nil_iff]
        intro y hy
        rw [hall y hy]; simp
      · rw [List.length_nil, List.drop_zero, eq_comm, List.filter_eq_self]
        intro y hy
        rw [hall y hy]; rfl
    · rw [List.takeWhile_cons_of_pos (p := fun y : Tm => y.due == now + 1) (show (fun y : Tm => y.due == now + 1) x = true from hx), List.length_cons, List.take_succ_cons, List.drop_succ_cons, h1, h2]
      refine ⟨?_, ?_⟩ <;> simp [hx]
end Go.Proofs.Ytnfpbbgajabjkaa
