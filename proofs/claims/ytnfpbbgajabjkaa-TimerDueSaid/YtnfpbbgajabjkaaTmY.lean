/- An act that came in: its four cells; what TimerDue makes of its numbers. -/
import Derived.Test.YtnfpbbgajabjkaaTmX
import Derived.Test.YtnfpbbgajabjkaaFrame
namespace Go.Proofs.Ytnfpbbgajabjkaa
open Go.ChangeShapes Go.WideShapes Go.ChangeAt Go.RowKit Go.Deep

structure Ac where
  id : Int
  after : Int
  stop : Bool
  ticks : Int
def acc (x : Ac) : List Value := [.int .i64 x.id, .int .i64 x.after, .bool x.stop, .int .i64 x.ticks]
abbrev AcR (w : World) (B : Nat) (A : Option Addr) (l : List Ac) : Prop := Rd w B A 4 (l.map acc)

set_option maxRecDepth 100000 in
theorem decAct {H : Type} {enc : TypeId × Value → H} : Dec enc Try.prog 49 acc (fun _ => True) := by
  intro w base sp held n cs x h
  obtain ⟨m, hl, hf⟩ := trod_fields Try.underlying49 (by kernel_rfl) (by kernel_rfl) h
  match cs, hl with
  | [c0, c1, c2, c3], _ =>
    obtain ⟨_, h0⟩ := hf 0 _ c0 rfl rfl
    obtain ⟨_, h1⟩ := hf 1 _ c1 rfl rfl
    obtain ⟨_, h2⟩ := hf 2 _ c2 rfl rfl
    obtain ⟨_, h3⟩ := hf 3 _ c3 rfl rfl
    obtain ⟨a, e0, _⟩ := DataW.trod_int Try.underlying3 h0
    obtain ⟨b, e1, _⟩ := DataW.trod_int Try.underlying3 h1
    obtain ⟨c, e2, _⟩ := DataW.trod_bool Try.underlying4 h2
    obtain ⟨d, e3, _⟩ := DataW.trod_int Try.underlying3 h3
    simp only [List.cons.injEq, and_true] at e0 e1 e2 e3
    subst e0 e1 e2 e3
    exact ⟨⟨a, b, c, d⟩, rfl, trivial⟩

theorem mod_pos (x m : Int) (hm : 0 < m) (hb : m ≤ 100) : -m < x.tmod m ∧ x.tmod m < m :=
  ⟨Int.lt_tmod_of_pos _ hm, Int.tmod_lt_of_pos _ hm⟩

/-- The cells of an act. -/
theorem AcR.at4 {W : World} {B : Nat} {A : Option Addr} {l : List Ac} (h : AcR W B A l) {k : Nat} (hk : k < l.length) :
    ∃ b off, A = some ⟨b, off, none⟩ ∧ b < B ∧ W.cell? ⟨b, off + k * 4, none⟩ = some (.int .i64 l[k].id) ∧ W.cell? ⟨b, off + k * 4 + 1, none⟩ = some (.int .i64 l[k].after) ∧ W.cell? ⟨b, off + k * 4 + 2, none⟩ = some (.bool l[k].stop) ∧ W.cell? ⟨b, off + k * 4 + 3, none⟩ = some (.int .i64 l[k].ticks) := by
  obtain ⟨b, off, rfl, hb, hc⟩ := h (by rw [List.length_map]; omega)
  have e : (l.map acc)[k]? = some (acc l[k]) := by rw [List.getElem?_map, List.getElem?_eq_getElem hk]; rfl
  have c0 := hc k _ 0 _ e rfl
  have c1 := hc k _ 1 _ e rfl
  have c2 := hc k _ 2 _ e rfl
  have c3 := hc k _ 3 _ e rfl
  exact ⟨b, off, rfl, hb, by simpa using c0, c1, c2, c3⟩
end Go.Proofs.Ytnfpbbgajabjkaa
