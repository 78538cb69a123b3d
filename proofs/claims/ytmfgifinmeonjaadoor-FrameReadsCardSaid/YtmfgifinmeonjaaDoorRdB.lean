/- The walk of frame.Read. -/
import Derived.Test.YtmfgifinmeonjaaDoorRdA
import Derived.Test.YtmfgifinmeonjaaDoorBlF
import Derived.Test.YtmfgifinmeonjaaDoorFbL
namespace Go.Proofs.YtmfgifinmeonjaaDoor
open Go.ChangeShapes Go.WideShapes Go.ChangeAt Go.RowKit
open FP (bit bitsOf numOf Fr headF sizeE sizeV fxN dlN rawF readB sizedB bytesF byteAt idF fr0)

/-- 'string(b)', b a row of the call's own, empty or not. -/
theorem run_bytes_own {P : Program} (w : World) (src dst e : TypeId) (hs : P.underlying src = some (.slice e)) (he : P.underlying e = some (.int .u8)) (hd : P.underlying dst = some .string)
    {base : Nat} {A : Option Addr} {c : Nat} {l : List UInt8} (h : Own w base 5 1 A c (byRow l)) (n : Nat) (hn : n = l.length) : (convert src dst (.slice A n c)).run P w = .ok (.string ⟨l.toArray⟩) w := by
  subst hn
  rcases Nat.eq_zero_or_pos l.length with h0 | h0
  · have hl : l = [] := List.length_eq_zero_iff.1 h0
    subst hl
    rw [run_convert_bytes_string w src dst e _ _ _ hs he hd]
    cases A with
    | none => simp [Conv.bytesToString, Sem.run_pure]; rfl
    | some a =>
      exact run_bytesToString (P := P) w a 0 c [] (by simp [loadCells, loadCellsFrom])
  · obtain ⟨g, rfl, _, _⟩ := h.ofLen (by rw [byRow_len]; exact h0)
    exact run_bytes_str w src dst e hs he hd g l.length c l rfl (fun i hi => byOwn_cell h hi)

set_option maxRecDepth 100000 in
set_option maxHeartbeats 1000000 in
theorem rdNum_any (s : ByteArray) (b frm tt : Nat) (N M : Int) (w : World) (hb : ∀ c ∈ s.data.toList, c = 48 ∨ c = 49) (hN : N = frm) (hT : N + M = tt) (hft : frm ≤ tt) (hto : tt ≤ s.size) (h60 : tt ≤ frm + 60) (hs : s.size ≤ 4000)
    (h : w.heap[b]? = some (.cells #[.string s] 9 (0, 0))) :
    Calls Tryd.prog 49 #[.int .i64 N, .int .i64 M, .pointer (some ⟨b, 0, none⟩)] w fun e w' => e = .returned (.int .u64 (numOf (s.data.toList.extract frm tt) : Nat)) ∧ Below w.heap.size w w' := by
  have NB := hide (fun W => bitsNumber_any (s.extract frm tt) W (extract_bits hb frm tt) (by rw [ByteArray.size_extract]; omega))
  rw [toList_extract] at NB
  have c0 : w.cell? ⟨b, 0, none⟩ = some (.string s) := by simp [World.cell?, h]
  subst hN
  have hT1 : ((frm : Int) + M) = tt := hT
  clear h hb hT
  generalize numOf (s.data.toList.extract frm tt) = v at *
  go_enter Tryd.func49, Tryd.ntmps49
  go_wp2_with fail
  refine (NB.out _).mono ?_
  rintro e1 w1 ⟨rfl, q1⟩
  go_wp2_with fail
  go_ret
  exact ⟨rfl, q1⟩

/-- Read's memory: the row's box, the answer's (zero), the frame's (block g). -/
structure RdM (w : World) (g : Nat) (s : ByteArray) (f : Fr) (W : World) : Prop where
  q : Below w.heap.size w W
  sb : W.heap[w.heap.size]? = some (.cells #[.string s] 9 (0, 0))
  zb : W.heap[w.heap.size + 1]? = some (.cells #[.int .u32 0, .bool false, .bool false, .int .i64 0, .string ⟨#[]⟩] 24 (0, 0))
  fb : W.heap[g]? = some (.cells #[.int .u32 f.id, .bool f.ext, .bool f.rem, .int .i64 f.dlc, .string f.data] 24 (0, 0))
  hg : w.heap.size + 2 ≤ g
theorem RdM.below {w W W' : World} {g : Nat} {s : ByteArray} {f : Fr} (h : RdM w g s f W) (q : Below W.heap.size W W') : RdM w g s f W' :=
  ⟨below_next h.q h.q.size q, heap_below h.sb q, heap_below h.zb q, heap_below h.fb q, h.hg⟩
theorem RdM.grown {w W W' : World} {g : Nat} {s : ByteArray} {f : Fr} (h : RdM w g s f W) {row : Option Nat} (hr : ∀ k, row = some k → g < k) (q : W.grownBy W' row) : RdM w g s f W' := by
  have hg := h.hg
  refine ⟨h.q.grown q h.q.size (fun k hk => by have := hr k hk; omega), heap_grownB h.sb q ?_, heap_grownB h.zb q ?_, heap_grownB h.fb q ?_, h.hg⟩
  · intro e; have := hr _ e; omega
  · intro e; have := hr _ e; omega
  · intro e; have := hr _ e; omega
theorem RdM.set {w W : World} {g : Nat} {s : ByteArray} {f : Fr} (h : RdM w g s f W) (j : Nat) (v : Value) (f' : Fr) (hv : #[Value.int .u32 f.id, .bool f.ext, .bool f.rem, .int .i64 f.dlc, .string f.data].setIfInBounds j v = #[.int .u32 f'.id, .bool f'.ext, .bool f'.rem, .int .i64 f'.dlc, .string f'.data]) : RdM w g s f' (W.setCell ⟨g, j, none⟩ v) := by
  have hg := h.hg
  refine ⟨h.q.setCell (p := ⟨g, j, none⟩) (by show w.heap.size ≤ g; omega) v, ?_, ?_, ?_, h.hg⟩
  · rw [heap_setCell_other W ⟨g, j, none⟩ _ v (by show w.heap.size ≠ g; omega)]; exact h.sb
  · rw [heap_setCell_other W ⟨g, j, none⟩ _ v (by show w.heap.size + 1 ≠ g; omega)]; exact h.zb
  · rw [heap_setCell_same W g j _ 24 v h.fb, hv]
theorem RdM.drew {w W : World} {g : Nat} {s : ByteArray} {f : Fr} (h : RdM w g s f W) : RdM w g s f W.drew := ⟨h.q.drew, h.sb, h.zb, h.fb, h.hg⟩
theorem RdM.scell {w W : World} {g : Nat} {s : ByteArray} {f : Fr} (h : RdM w g s f W) : W.cell? ⟨w.heap.size, 0, none⟩ = some (.string s) := by simp [World.cell?, h.sb]
theorem RdM.lt {w W : World} {g : Nat} {s : ByteArray} {f : Fr} (h : RdM w g s f W) : g < W.heap.size := heap_lt h.fb

set_option maxRecDepth 100000 in
set_option maxHeartbeats 4000000 in
theorem frRead_no (s : ByteArray) (w : World) (v e0 : Int) (hs : s.size ≤ maxLen) (h : (e0 != 0) = true ∨ (e0 != 0) = false ∧ (v != (s.size : Int)) = true)
    (SZ : ∀ W, Calls Tryd.prog 28 #[.string s] W fun e w' => e = .returned (.tuple #[.int .i64 v, .int .i64 e0]) ∧ Below W.heap.size W w') :
    Calls Tryd.prog 29 #[.string s] w fun e w' => e = .returned (.tuple #[.agg #[.int .u32 0, .bool false, .bool false, .int .i64 0, .string ⟨#[]⟩], .int .i64 12]) ∧ Below w.heap.size w w' := by
  have S := hide SZ
  clear SZ
  unfold maxLen at hs
  have q0 : Below w.heap.size w ((w.alloc (.cells #[.string s] 9)).alloc (.cells #[.int .u32 0, .bool false, .bool false, .int .i64 0, .string ⟨#[]⟩] 24)) := ((Below.refl _ _).alloc (Nat.le_refl _) _).alloc (by simp) _
  have B0 := hide (show ((w.alloc (.cells #[.string s] 9)).alloc (.cells #[.int .u32 0, .bool false, .bool false, .int .i64 0, .string ⟨#[]⟩] 24)).heap[w.heap.size + 1]? = some (.cells #[.int .u32 0, .bool false, .bool false, .int .i64 0, .string ⟨#[]⟩] 24 (0, 0)) from (two_new _ _ _).2)
  have B1 := hide (show ((w.alloc (.cells #[.string s] 9)).alloc (.cells #[.int .u32 0, .bool false, .bool false, .int .i64 0, .string ⟨#[]⟩] 24)).heap[w.heap.size]? = some (.cells #[.string s] 9 (0, 0)) from (two_new _ _ _).1)
  rcases h with h | ⟨h1, h⟩
  all_goals
    go_enter Tryd.func29, Tryd.ntmps29
    go_wp2_with fail
    refine (S.out _).mono ?_
    rintro e1 w1 ⟨rfl, q1⟩
    have C1 : Hid (w1.heap[w.heap.size + 1]? = _) := hide (heap_below B0.out q1)
    have Q1 := hide (below_next q0 q0.size q1)
    have c0 : w1.cell? ⟨w.heap.size, 0, none⟩ = some (.string s) := by have := heap_below B1.out q1; simp [World.cell?, this]
    clear q0 B0 q1 B1
    go_wp2_with (refine wpList_store_hid (by rfl) 24 (.tmp 2) (.tmp 23) (by rfl) (w.heap.size + 1) 0 [.int .u32 0, .bool false, .bool false, .int .i64 0, .string ⟨#[]⟩] (by rfl) (by rfl) (by exact there_heap (cs := [_, _, _, _, _]) C1.out) (by kernel_rfl) (by simp [Value.oneCell']) ?_)
    intro W2 e2
    have C2 := whole_heap [.int .u32 0, .bool false, .bool false, .int .i64 0, .string ⟨#[]⟩] (xs := [_, _, _, _, _]) C1.out rfl
    have q2 := Q1.out.trans (below_setCells (g := w.heap.size + 1) [.int .u32 0, .bool false, .bool false, .int .i64 0, .string ⟨#[]⟩] 0 w1 (by omega))
    rw [← e2.out] at C2 q2
    clear e2
    obtain ⟨y0, y1, y2, y3, y4⟩ := frCells (id := 0) C2
    have Q2 := hide q2
    clear C2 q2
    go_wp2
    refine bodyPost_ret (v := .tuple #[.agg #[.int .u32 0, .bool false, .bool false, .int .i64 0, .string ⟨#[]⟩], .int .i64 12]) (by simp [results, Tryd.results29, go_sem, y0, y1, y2, y3, y4]) rfl ⟨rfl, Q2.out⟩
end Go.Proofs.YtmfgifinmeonjaaDoor
