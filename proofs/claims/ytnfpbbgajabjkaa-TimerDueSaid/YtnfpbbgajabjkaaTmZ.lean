/- What TimerDue keeps in memory: timers in a block, a map beside. -/
import Derived.Test.YtnfpbbgajabjkaaTmY
import Derived.Test.YtnfpbbgajabjkaaTmQ
namespace Go.Proofs.Ytnfpbbgajabjkaa
open Go.ChangeShapes Go.WideShapes Go.ChangeAt Go.RowKit

theorem rd_map {W W' : World} {bm n : Nat} {D : DataW Unit} (hm : MTm W bm n D) (hg : W.grownBy W' (some bm)) {B sz : Nat} {A : Option Addr} {cs : List (List Value)} (hB : B ≤ W.heap.size) (h : Rd W B A sz cs) : Rd W' B A sz cs := fun hn => by
  obtain ⟨b, off, e, hlt, hc⟩ := h hn
  refine ⟨b, off, e, hlt, fun k row j v h1 h2 => ?_⟩
  have c := hc k row j v h1 h2
  have hne : b ≠ bm := by
    rintro rfl
    obtain ⟨es, clock, hb, _⟩ := hm
    simp [World.cell?, hb] at c
  rw [World.cell?_of_block (hg.block b (by omega) (by simpa using hne))]
  exact c
theorem heap_map {W W' : World} {bm n : Nat} {D : DataW Unit} (hm : MTm W bm n D) (hg : W.grownBy W' (some bm)) {b : Nat} {cs : Array Value} {t : TypeId} {fz : Nat × Nat} (h : W.heap[b]? = some (.cells cs t fz)) : W'.heap[b]? = some (.cells cs t fz) := by
  have hne : b ≠ bm := by
    rintro rfl
    obtain ⟨es, clock, hb, _⟩ := hm
    rw [h] at hb
    cases hb
  rw [hg.block b (Array.getElem?_eq_some_iff.1 h).1 (by simpa using hne)]
  exact h
theorem MTm.ne {W : World} {bm n : Nat} {D : DataW Unit} (hm : MTm W bm n D) {b : Nat} {cs : Array Value} {t : TypeId} {fz : Nat × Nat} (h : W.heap[b]? = some (.cells cs t fz)) : bm ≠ b := by
  rintro rfl
  obtain ⟨es, clock, hb, _⟩ := hm
  rw [h] at hb
  cases hb
/-- The map stays while cells of another block are stored. -/
theorem MTm.setCells {bm n : Nat} {D : DataW Unit} {b : Nat} : ∀ (vs : List Value) (o : Nat) (W : World), MTm W bm n D → bm ≠ b → MTm (W.setCells b o vs) bm n D
  | [], _, _, h, _ => h
  | v :: vs, o, W, h, hne => MTm.setCells vs (o + 1) (W.setCell ⟨b, o, none⟩ v) (h.set (by exact hne) v) hne

/-- What stands between the rounds: the timers of the row l in the block behind the world, the map D of at most m entries in the next one. -/
structure DS (w : World) (now : Int) (l : List Tm) (A : Option Addr) (c n m : Nat) (D : DataW Unit) (W : World) : Prop where
  box : W.heap[w.heap.size]? = some (.cells #[.int .i64 now, .slice A n c] 24 (0, 0))
  len : l.length = n
  cap : n ≤ c
  rd : TmR W W.heap.size A l
  mp : MTm W (w.heap.size + 1) m D
  q : Below w.heap.size w W

section
variable {w W W' : World} {now : Int} {l : List Tm} {A : Option Addr} {c n m : Nat} {D : DataW Unit}
theorem DS.lt (h : DS w now l A c n m D W) : w.heap.size + 1 < W.heap.size := h.mp.lt
theorem DS.below (h : DS w now l A c n m D W) (hb : Below W.heap.size W W') : DS w now l A c n m D W' :=
  ⟨heap_below h.box hb, h.len, h.cap, TmR.next h.rd hb hb.size, h.mp.below hb, below_next h.q h.q.size hb⟩
theorem DS.made (w : World) : DS w 0 [] none 0 0 0 (.map []) ((w.alloc (.cells #[.int .i64 0, .slice none 0 0] 24)).alloc (.map #[] 0)) := by
  have q1 : Below w.heap.size w (w.alloc (.cells #[.int .i64 0, .slice none 0 0] 24)) := (Below.refl _ _).alloc (Nat.le_refl _) _
  have hs : (w.alloc (.cells #[.int .i64 0, .slice none 0 0] 24)).heap.size = w.heap.size + 1 := by simp
  have hb := World.alloc_heap_new w (.cells #[.int .i64 0, .slice none 0 0] 24)
  have q2 : Below (w.alloc (.cells #[.int .i64 0, .slice none 0 0] 24)).heap.size (w.alloc (.cells #[.int .i64 0, .slice none 0 0] 24)) ((w.alloc (.cells #[.int .i64 0, .slice none 0 0] 24)).alloc (.map #[] 0)) := (Below.refl _ _).alloc (Nat.le_refl _) _
  refine ⟨heap_below hb q2, rfl, Nat.le_refl _, Rd.nil, ?_, below_next q1 q1.size q2⟩
  have := MTm.made (w.alloc (.cells #[.int .i64 0, .slice none 0 0] 24))
  rw [hs] at this
  exact this
/-- New timers are stored. -/
theorem DS.store (h : DS w now l A c n m D W) {now' : Int} {l' : List Tm} {A' : Option Addr} {c' n' : Nat} (hr : TmR W W.heap.size A' l') (hl : l'.length = n') (hc : n' ≤ c') :
    DS w now' l' A' c' n' m D (W.setCells w.heap.size 0 [.int .i64 now', .slice A' n' c']) :=
  ⟨whole_heap [.int .i64 now', .slice A' n' c'] (xs := [_, _]) h.box rfl, hl, hc, tmr_set h.box hr [.int .i64 now', .slice A' n' c'] 0, MTm.setCells _ _ _ h.mp (by omega), h.q.trans (below_setCells (B := w.heap.size) (g := w.heap.size) [.int .i64 now', .slice A' n' c'] 0 _ (Nat.le_refl _))⟩
/-- The map has turned. -/
theorem DS.turn (h : DS w now l A c n m D W) {m' : Nat} {D' : DataW Unit} (hm : MTm W' (w.heap.size + 1) m' D') (hg : W.grownBy W' (some (w.heap.size + 1))) : DS w now l A c n m' D' W' :=
  ⟨heap_map h.mp hg h.box, h.len, h.cap, by
    have := rd_map h.mp hg (Nat.le_refl _) h.rd
    intro hn
    obtain ⟨b, off, e, hlt, hc⟩ := this hn
    exact ⟨b, off, e, Nat.lt_of_lt_of_le hlt hg.size, hc⟩, hm, h.q.grown hg h.q.size (fun j e => by cases e; omega)⟩
/-- Other blocks have turned, or none. -/
theorem DS.grow (h : DS w now l A c n m D W) (hb : Below W.heap.size W W') : DS w now l A c n m D W' := h.below hb
end
end Go.Proofs.Ytnfpbbgajabjkaa
