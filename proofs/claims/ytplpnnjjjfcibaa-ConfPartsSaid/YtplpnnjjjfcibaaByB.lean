/- Bytes of a string in a block of the call's own ('[]byte(s)'), written in place; a bit of a byte. Nothing of the program's text. -/
import Derived.Test.YtplpnnjjjfcibaaSgP
import Derived.Test.YtplpnnjjjfcibaaOwS
import Derived.WalkKit
namespace Go.Proofs.Ytplpnnjjjfcibaa
open Go.ChangeShapes Go.WideShapes Go.ChangeAt Go.RowKit
open SG

theorem and_one_i64 (x : Int) : bits .and .i64 x 1 = x % 2 := by
  have h : ((BitVec.ofInt 64 x) &&& (BitVec.ofInt 64 1)).toNat = (x % 2).toNat := by
    rw [BitVec.toNat_and, BitVec.toNat_ofInt, BitVec.toNat_ofInt]
    have e1 : ((1 : Int) % ((2 ^ 64 : Nat) : Int)).toNat = 1 := by decide
    rw [e1, Nat.and_one_is_mod]
    have : x % ((2 ^ 64 : Nat) : Int) % 2 = x % 2 := Int.emod_emod_of_dvd _ (by decide)
    have h0 := Int.emod_nonneg x (show ((2 ^ 64 : Nat) : Int) ≠ 0 by decide)
    omega
  have h2 := Int.emod_two_eq x
  show IntKind.i64.wrap (((BitVec.ofInt 64 x) &&& (BitVec.ofInt 64 1)).toNat : Int) = x % 2
  rw [h]
  rcases h2 with h2 | h2 <;> rw [h2] <;> decide
theorem byte_set : ∀ (x : Fin 256) (j : Fin 8) (b : Bool), bits .or .u8 (bits .andNot .u8 (x.val : Int) (IntKind.u8.wrap (2 ^ j.val))) (IntKind.u8.wrap ((if b then 1 else 0) * 2 ^ j.val)) = ((setN x.val j.val b : Nat) : Int) := by decide +kernel
theorem byte_get : ∀ (x : Fin 256) (j : Fin 8), (x.val : Int) / 2 ^ j.val % 2 = if x.val.testBit j.val then 1 else 0 := by decide +kernel

/-- The bytes l lie at block g, open to stores. -/
def ByB (W : World) (g : Nat) (l : List UInt8) : Prop := ∃ cs n, W.heap[g]? = some (.cells cs 5 (n, n + 1)) ∧ l.length ≤ n ∧ ∀ j (hj : j < l.length), cs[j]? = some (.int .u8 (l[j].toNat : Int))
theorem ByB.lt {W : World} {g : Nat} {l : List UInt8} (h : ByB W g l) : g < W.heap.size := by obtain ⟨cs, n, h, _⟩ := h; exact heap_lt h
theorem ByB.below {W W' : World} {g : Nat} {l : List UInt8} (h : ByB W g l) (q : Below W.heap.size W W') : ByB W' g l := by obtain ⟨cs, n, h, r⟩ := h; exact ⟨cs, n, heap_below h q, r⟩
theorem ByB.drew {W : World} {g : Nat} {l : List UInt8} (h : ByB W g l) : ByB W.drew g l := h
theorem ByB.cell {W : World} {g : Nat} {l : List UInt8} (h : ByB W g l) {j : Nat} (hj : j < l.length) : W.cell? ⟨g, j, none⟩ = some (.int .u8 (l[j].toNat : Int)) ∧ W.frozen? ⟨g, j, none⟩ = false := by
  obtain ⟨cs, n, h, hn, hc⟩ := h
  refine ⟨?_, ?_⟩
  · simp [World.cell?, h, hc j hj]
  · simp only [World.frozen?, h]
    simp; omega
theorem ByB.set {W : World} {g : Nat} {l : List UInt8} (h : ByB W g l) {j : Nat} (hj : j < l.length) (x : UInt8) : ByB (W.setCell ⟨g, j, none⟩ (.int .u8 (x.toNat : Int))) g (l.set j x) := by
  obtain ⟨cs, n, h, hn, hc⟩ := h
  refine ⟨cs.setIfInBounds j (.int .u8 (x.toNat : Int)), n, ?_, by simpa using hn, fun i hi => ?_⟩
  · simp [World.setCell, Array.getElem?_modify, h]
  · have hi' : i < l.length := by simpa using hi
    have := hc i hi'
    have hz : i < cs.size := (Array.getElem?_eq_some_iff.1 this).1
    rw [Array.getElem?_setIfInBounds, List.getElem_set]
    by_cases e : j = i
    · subst e; rw [if_pos rfl, if_pos hz, if_pos rfl]
    · rw [if_neg e, if_neg e]; exact this
theorem ByB.made (w : World) (s : ByteArray) (c : Nat) (hc : s.size ≤ c) : ByB (w.alloc (.cells (bytesRow s c) 5 ((bytesRow s c).size, (bytesRow s c).size + 1))) w.heap.size s.data.toList := by
  refine ⟨_, _, World.alloc_heap_new w _, ?_, fun j hj => ?_⟩
  · have : s.data.toList.length = s.size := by simp
    rw [this]
    simp [bytesRow]
  · have hz : j < s.data.size := by simpa using hj
    have hz2 : j < s.size := hz
    have hg : s.data[j]? = some s.data[j] := Array.getElem?_eq_getElem hz
    simp [bytesRow, Array.getElem?_append, hz2, hg]
end Go.Proofs.Ytplpnnjjjfcibaa
