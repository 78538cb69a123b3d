/- What timer's calls make of what TimerDue keeps. -/
import Derived.Test.YtnfpbbgajabjkaaTmZ
namespace Go.Proofs.Ytnfpbbgajabjkaa
open Go.ChangeShapes Go.WideShapes Go.ChangeAt Go.RowKit Go.Maps

section
variable {w W : World} {now : Int} {l : List Tm} {A : Option Addr} {c n m : Nat} {D : DataW Unit}

theorem DueP.dues (h : DueP now l D) : ∀ x ∈ l, x.due ≤ 9223372036854775807 := fun x hx => by
  have := h.1.2.2.2.2.1 x hx
  have := h.1.2.1
  omega
theorem DueP.len (h : DueP now l D) : l.length ≤ 32 := h.1.2.2.1

theorem DS.right_call (hS : DS w now l A c n m D W) (hP : DueP now l D) :
    Calls Try.prog 17 #[.agg #[.int .i64 now, .slice A n c]] W fun e w' => e = .returned (.bool true) ∧ Below W.heap.size W w' := by
  have h := tmRight_any now l A c W hS.rd (by have := hP.len; omega) (by rw [hS.len]; exact hS.cap) hP.dues
  rw [hP.right, hS.len] at h
  exact h

theorem DS.set_call (hS : DS w now l A c n m D W) (hP : DueP now l D) {id after : Int} (h0 : 0 ≤ id) (h1 : id < 20) (h2 : 1 ≤ after) (h3 : after ≤ 1000000) :
    Calls Try.prog 13 #[.agg #[.int .i64 now, .slice A n c], .int .i64 id, .int .i64 after] W fun e w' => ∃ l' A' c' n', e = .returned (.tuple #[.agg #[.int .i64 now, .slice A' n' c'], .int .i64 0]) ∧ l' = insT (withoutTm id l) ⟨id, now + after⟩ ∧ l'.length = n' ∧ TmR w' w'.heap.size A' l' ∧ n' ≤ c' ∧ Below W.heap.size W w' := by
  have h := set_ok now l A c id after W hS.rd (by rw [hS.len]; exact hS.cap) hP.right h0 (by omega) h2 h3 (hP.room id)
  rw [hS.len] at h
  refine h.mono ?_
  rintro e w' ⟨A', c', he, r, hc, q⟩
  exact ⟨_, A', c', _, he, rfl, rfl, r, hc, q⟩

theorem DS.stop_call (hS : DS w now l A c n m D W) (hP : DueP now l D) (id : Int) :
    Calls Try.prog 14 #[.agg #[.int .i64 now, .slice A n c], .int .i64 id] W fun e w' => ∃ l' A' c' n', e = .returned (.tuple #[.agg #[.int .i64 now, .slice A' n' c'], .bool (Maps.has D (kI id)), .int .i64 0]) ∧ l' = withoutTm id l ∧ l'.length = n' ∧ TmR w' w'.heap.size A' l' ∧ n' ≤ c' ∧ Below W.heap.size W w' := by
  have h := stop_ok now l A c id W hS.rd (by have := hP.len; omega) (by rw [hS.len]; exact hS.cap) hP.dues hP.right
  rw [hS.len] at h
  refine h.mono ?_
  rintro e w' ⟨A', c', he, r, hc, q⟩
  rw [hP.was id]
  exact ⟨_, A', c', _, he, rfl, rfl, r, hc, q⟩

theorem DS.tick_call (hS : DS w now l A c n m D W) (hP : DueP now l D) (hn : now < 1099511627776) :
    Calls Try.prog 16 #[.agg #[.int .i64 now, .slice A n c]] W fun e w' => ∃ l' A' c' n' o Ao co d, e = .returned (.tuple #[.agg #[.int .i64 (now + 1), .slice A' n' c'], .slice Ao d co, .int .i64 0]) ∧ l' = l.drop (dueN (now + 1) l) ∧ o = l.take (dueN (now + 1) l) ∧ d = dueN (now + 1) l ∧ l'.length = n' ∧ TmR w' w'.heap.size A' l' ∧ n' ≤ c' ∧ Own w' W.heap.size 3 1 Ao co (idRows o) ∧ Below W.heap.size W w' := by
  have h := tick_ok now l A c W hS.rd (by rw [hS.len]; exact hS.cap) hP.right hn
  rw [hS.len] at h
  refine h.mono ?_
  rintro e w' ⟨A', c', Ao, co, he, r, hc, o, q⟩
  exact ⟨_, A', c', _, _, Ao, co, _, he, rfl, rfl, rfl, rfl, r, hc, o, q⟩
end

theorem wpList_del {ops : Array Oper} {rest : List Oper} {o : Oper} {a : Act} {Q : Exit → Act → World → Prop} {W : World} (hg : o.guard = none) (m x : Operand) (hop : o.op = Op.call { callee := Callee.builtin Builtin.delete, args := #[m, x], argTypes := #[47, 3] })
    (b n : Nat) (D : DataW Unit) (i : Int) (hm : a.eval m = .map (some b)) (hx : a.eval x = .int .i64 i) (h : MTm W b n D) (hi : (Lit.int .i64 i).wf = true)
    (hK : ∀ W', MTm W' b n (D.del (kI i)) → W.grownBy W' (some b) → wpList Try.prog ops Q rest (a.put o.dst (.tuple #[])) W') : wpList Try.prog ops Q (o :: rest) a W :=
  wpList_delete_own W hg m x 47 3 hop 3 (int_keyed Try.underlying3) Try.underlying47 _ b n D hm h _ _ hx (keyOf_int_mk Try.underlying3 hi) (fun w' h1 h2 => hK w' h1 h2.grown)
end Go.Proofs.Ytnfpbbgajabjkaa
