/- strings.Compare; the comparison that prio.Order sorts by. -/
import Derived.Test.YtbdgifngldipcaaPsP
namespace Go.Proofs.Ytbdgifngldipcaa
open Go.ChangeShapes Go.WideShapes Go.ChangeAt Go.RowKit
open FP (Fr)
open PP (bl)

set_option maxRecDepth 100000 in
set_option maxHeartbeats 1000000 in
theorem cmpString_any (a b : ByteArray) (w : World) : Calls Try.prog 89 #[.string a, .string b] w fun e w' => e = .returned (.int .i64 (Lib.compareBytes a.data.toList b.data.toList)) ∧ w' = w := by
  go_enter Try.func89, Try.ntmps89
  go_wp2
  rw [run_callFunc_extern Try.func98 (by kernel_rfl) (by kernel_rfl) (by kernel_rfl) (e := Extern.BytealgCompare.compare) (by kernel_rfl), Lib.run_compareString]
  simp only [Result.andThen]
  rw [Oper.upon_value]
  go_wp2
  go_ret
  exact ⟨rfl, rfl⟩
set_option maxRecDepth 100000 in
set_option maxHeartbeats 1000000 in
theorem compare_any (a b : ByteArray) (w : World) : Calls Try.prog 63 #[.string a, .string b] w fun e w' => e = .returned (.int .i64 (Lib.compareBytes a.data.toList b.data.toList)) ∧ Below w.heap.size w w' := by
  go_enter Try.func63, Try.ntmps63
  go_wp2_with fail
  refine (cmpString_any a b _).mono ?_
  rintro e w' ⟨rfl, rfl⟩
  go_wp2
  go_ret
  exact ⟨rfl, Below.refl _ _⟩

theorem frW_s {W : World} {B : Nat} {f : Fr} {t : TypeId} {fz : Nat × Nat} (h : W.heap[B]? = some (.cells #[.int .u32 f.id, .bool f.ext, .bool f.rem, .int .i64 f.dlc, .string f.data] t fz)) (s : InW W) :
    s.W.cell? ⟨B, 0, none⟩ = some (.int .u32 f.id) ∧ s.W.cell? ⟨B, 1, none⟩ = some (.bool f.ext) ∧ s.W.cell? ⟨B, 2, none⟩ = some (.bool f.rem) ∧ s.W.cell? ⟨B, 3, none⟩ = some (.int .i64 f.dlc) ∧ s.W.cell? ⟨B, 4, none⟩ = some (.string f.data) := by
  have h' := heap_below h s.h
  refine ⟨?_, ?_, ?_, ?_, ?_⟩ <;> simp [World.cell?, h']

theorem new2a (w : World) (cs cs2 : Array Value) (t t2 : TypeId) : ((w.alloc (.cells cs t)).alloc (.cells cs2 t2)).heap[w.heap.size]? = some (.cells cs t (0, 0)) := by
  rw [Below.heap_alloc _ _ _ (by simp)]
  exact World.alloc_heap_new w _
theorem new2b (w : World) (cs cs2 : Array Value) (t t2 : TypeId) : ((w.alloc (.cells cs t)).alloc (.cells cs2 t2)).heap[w.heap.size + 1]? = some (.cells cs2 t2 (0, 0)) := by
  have := World.alloc_heap_new (w.alloc (.cells cs t)) (.cells cs2 t2)
  simpa using this

/-- What the sort asks of two frames. -/
def cmpF (f g : Fr) : Int := Lib.compareBytes (fieldF f) (fieldF g)
theorem cmpF_neg (f g : Fr) : decide (cmpF f g < 0) = bl (fieldF f) (fieldF g) := by
  rw [Bool.eq_iff_iff, decide_eq_true_eq]; exact SP.cmp_bl _ _

set_option maxRecDepth 100000 in
set_option maxHeartbeats 2000000 in
theorem order1_any (f g : Fr) (w : World) (hf : FP.rightB f = true) (hg : FP.rightB g = true) :
    Calls Try.prog 62 #[.agg #[.int .u32 f.id, .bool f.ext, .bool f.rem, .int .i64 f.dlc, .string f.data], .agg #[.int .u32 g.id, .bool g.ext, .bool g.rem, .int .i64 g.dlc, .string g.data]] w fun e w' => e = .returned (.int .i64 (cmpF f g)) ∧ Below w.heap.size w w' := by
  obtain ⟨S1, hS1⟩ : ∃ S : ByteArray, S = ⟨(fieldF f).toArray⟩ := ⟨_, rfl⟩
  obtain ⟨S2, hS2⟩ : ∃ S : ByteArray, S = ⟨(fieldF g).toArray⟩ := ⟨_, rfl⟩
  obtain ⟨v, hv⟩ : ∃ v, v = cmpF f g := ⟨_, rfl⟩
  have F1 := hide (fun W => by have := field_any f W hf; rw [← hS1] at this; exact this)
  have F2 := hide (fun W => by have := field_any g W hg; rw [← hS2] at this; exact this)
  have CM := hide (show ∀ W, Calls Try.prog 63 #[.string S1, .string S2] W fun e w' => e = .returned (.int .i64 v) ∧ Below W.heap.size W w' from fun W => by
    have := compare_any S1 S2 W
    rw [hv, hS1, hS2] at *
    exact this)
  rw [← hv]
  clear hv hS1 hS2 hf hg
  have q0 : Below w.heap.size w ((w.alloc (.cells #[.int .u32 f.id, .bool f.ext, .bool f.rem, .int .i64 f.dlc, .string f.data] 39)).alloc (.cells #[.int .u32 g.id, .bool g.ext, .bool g.rem, .int .i64 g.dlc, .string g.data] 39)) := ((Below.refl _ _).alloc (Nat.le_refl _) _).alloc (by simp) _
  have B2 := hide (new2a w #[.int .u32 f.id, .bool f.ext, .bool f.rem, .int .i64 f.dlc, .string f.data] #[.int .u32 g.id, .bool g.ext, .bool g.rem, .int .i64 g.dlc, .string g.data] 39 39)
  have B3 := hide (new2b w #[.int .u32 f.id, .bool f.ext, .bool f.rem, .int .i64 f.dlc, .string f.data] #[.int .u32 g.id, .bool g.ext, .bool g.rem, .int .i64 g.dlc, .string g.data] 39 39)
  obtain ⟨id, ext, rem, dlc, data⟩ := f
  obtain ⟨id', ext', rem', dlc', data'⟩ := g
  dsimp only at *
  go_enter Try.func62, Try.ntmps62
  go_wp2_with fail
  obtain ⟨W1, hW1⟩ : ∃ W1, W1 = ((w.alloc (.cells #[.int .u32 id, .bool ext, .bool rem, .int .i64 dlc, .string data] 39)).alloc (.cells #[.int .u32 id', .bool ext', .bool rem', .int .i64 dlc', .string data'] 39)) := ⟨_, rfl⟩
  rw [← hW1] at q0 B2 B3 ⊢
  clear hW1
  have m2 := frW_s (f := ⟨id, ext, rem, dlc, data⟩) B2.out
  have m3 := frW_s (f := ⟨id', ext', rem', dlc', data'⟩) B3.out
  dsimp only at m2 m3
  have F1s := hide (fun s : InW W1 => F1.out s.W)
  have F2s := hide (fun s : InW W1 => F2.out s.W)
  have CMs := hide (fun s : InW W1 => CM.out s.W)
  refine wp_region_tame (by kernel_rfl) (by kernel_rfl) ?_
  repeat (go_big_quiet_step (first | (go_at_call 55; first | (with_reducible exact tame_of (F1s.out _)) | (with_reducible exact tame_of (F2s.out _))) | (go_at_call 63; exact tame_of (CMs.out _))))
  refine wpQuiet_nil ?_
  rintro _ ⟨s, rfl⟩
  have qs := q0.trans (s.h.mono q0.size)
  go_wp2_with fail
  go_ret
  exact ⟨rfl, qs⟩
end Go.Proofs.Ytbdgifngldipcaa
