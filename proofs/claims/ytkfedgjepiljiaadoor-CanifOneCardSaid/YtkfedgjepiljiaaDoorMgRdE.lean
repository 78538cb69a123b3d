/- The walk of frame.stuffed. -/
import Derived.Test.YtkfedgjepiljiaaDoorMgRdD
import Derived.Test.YtkfedgjepiljiaaDoorMgRdA
namespace Go.Proofs.YtkfedgjepiljiaaDoor
open Go.ChangeShapes Go.WideShapes Go.ChangeAt Go.RowKit
open FP (uN uK stuffedF doneB badB sizeE sizeV SR)

theorem btB : BT 129 := ⟨by kernel_rfl, by decide⟩
theorem grown_setCells (b : Nat) : ∀ (vs : List Value) (o : Nat) (W : World), W.grownBy (W.setCells b o vs) (some b)
  | [], _, _ => grownBy_refl _ _
  | v :: r, o, W => by rw [World.setCells]; exact grownBy_trans (grown_set W b o v) (grown_setCells b r (o + 1) _)

def endF (bits : List UInt8) : Int := if sizeE bits = 0 then (sizeV bits : Int) + 15 else -1
theorem done_yes {bits : List UInt8} {n : Nat} (h : doneB bits n = true) : ((bits.length : Int) == endF bits) = true ∧ (n : Int) < 5 ∧ bits ≠ [] := by
  unfold doneB at h
  simp only [Bool.and_eq_true, decide_eq_true_eq] at h
  obtain ⟨h1, h2, h3⟩ := h
  refine ⟨?_, by omega, fun e => by rw [e] at h2; simp at h2⟩
  unfold endF
  rw [if_pos h1, beq_iff_eq]
  omega
theorem done_not {bits : List UInt8} {n : Nat} (h : doneB bits n = false) : ((bits.length : Int) == endF bits) = false ∨ ((bits.length : Int) == endF bits) = true ∧ ¬ (n : Int) < 5 := by
  by_cases he : (bits.length : Int) = endF bits
  · right
    refine ⟨beq_iff_eq.2 he, fun hn => ?_⟩
    unfold endF at he
    split at he
    · rename_i h1
      unfold doneB at h
      rw [decide_eq_true h1, decide_eq_true (show bits.length = sizeV bits + 15 by omega), decide_eq_true (show n < 5 by omega)] at h
      cases h
    · omega
  · exact .inl (beq_eq_false_iff_ne.2 he)

theorem sizeE_or (l : List UInt8) : sizeE l = 0 ∨ sizeE l = 3 ∨ sizeE l = 12 := by unfold sizeE; split; simp; split; simp; split <;> simp
/-- A frame's first bit is dominant. -/
theorem first_one {b : List UInt8} {c : UInt8} (h : b[0]? ≠ some 49) : (b ++ [c])[0]? = some 49 ↔ b ++ [c] = [49] := by
  cases b with
  | nil => simp
  | cons a b => simp at h ⊢; exact fun e => h e
theorem endF_app {b : List UInt8} {c : UInt8} (h : sizeE b = 0) : endF (b ++ [c]) = endF b ∧ sizeE (b ++ [c]) = 0 := by
  have := FP.size_append [c] (.inl h)
  unfold endF
  rw [this.1, this.2, h]; exact ⟨rfl, rfl⟩
theorem badB_app {b : List UInt8} {c : UInt8} (h : sizeE b = 0) (h0 : b[0]? ≠ some 49) (hn : b ≠ []) : badB (b ++ [c]) = false := by
  have h1 := (endF_app (c := c) h).2
  unfold badB
  rw [h1]
  have : ¬ (b ++ [c])[0]? = some 49 := fun e => by
    have := (first_one h0).1 e
    have hl := congrArg List.length this
    simp at hl
    exact hn hl
  simpa using this
theorem endF_pos {b : List UInt8} (h : sizeE b = 0) : (0 : Int) ≤ endF b := by unfold endF; rw [if_pos h]; omega
theorem endF_neg {b : List UInt8} (h : sizeE b ≠ 0) : endF b = -1 := by unfold endF; rw [if_neg h]

/-- What stuffed holds: what stuffing knows (block w.heap.size), the bits (a builder behind it). -/
structure SfM (w : World) (last : UInt8) (n : Nat) (bits : List UInt8) (W : World) : Prop where
  q : Below w.heap.size w W
  xb : W.heap[w.heap.size]? = some (.cells #[.int .u8 last.toNat, .int .i64 n] 38 (0, 0))
  bl : Lib.IsBuilderF 129 5 (w.heap.size + 1) (w.heap.size + 1) (Lib.byteCells bits) W
theorem SfM.lt {w W : World} {last : UInt8} {n : Nat} {bits : List UInt8} (h : SfM w last n bits W) : w.heap.size + 1 ≤ W.heap.size := heap_lt h.xb
theorem SfM.below {w W W' : World} {last : UInt8} {n : Nat} {bits : List UInt8} (h : SfM w last n bits W) (q : Below W.heap.size W W') : SfM w last n bits W' :=
  ⟨below_next h.q h.q.size q, heap_below h.xb q, bldF_keep h.bl (grown_none q) (fun k hk => by cases hk)⟩
theorem SfM.builder {w W W' : World} {last : UInt8} {n : Nat} {bits bits' : List UInt8} (h : SfM w last n bits W) (q : Below (w.heap.size + 1) W W') (b : Lib.IsBuilderF 129 5 (w.heap.size + 1) (w.heap.size + 1) (Lib.byteCells bits') W') : SfM w last n bits' W' :=
  ⟨h.q.trans (q.mono (by omega)), heapB h.xb q (by omega), b⟩
theorem SfM.set {w W : World} {last : UInt8} {n : Nat} {bits : List UInt8} (h : SfM w last n bits W) (last' : UInt8) (n' : Nat) : SfM w last' n' bits (W.setCells w.heap.size 0 [.int .u8 last'.toNat, .int .i64 n']) :=
  ⟨h.q.trans (below_setCells _ 0 W (Nat.le_refl _)), whole_heap _ (xs := [.int .u8 last.toNat, .int .i64 n]) h.xb rfl, bldF_keep h.bl (grown_setCells _ _ _ _) (fun k hk => by simp at hk; omega)⟩
theorem SfM.drew {w W : World} {last : UInt8} {n : Nat} {bits : List UInt8} (h : SfM w last n bits W) : SfM w last n bits W.drew :=
  ⟨h.q.drew, h.xb, h.bl⟩
theorem SfM.new (w : World) : SfM w 0 0 [] ((w.alloc (.cells #[.int .u8 0, .int .i64 0] 38)).alloc (.cells #[.pointer none, .slice none 0 0] 129)) := by
  have hs : (w.alloc (.cells #[.int .u8 0, .int .i64 0] 38)).heap.size = w.heap.size + 1 := by simp
  have hb := Lib.fresh_isBuilder 129 5 (w.alloc (.cells #[.int .u8 0, .int .i64 0] 38))
  rw [hs] at hb
  exact ⟨((Below.refl _ _).alloc (Nat.le_refl _) _).alloc (by simp) _, (two_new _ _ _).1, Lib.IsBuilderF.of hb⟩

end Go.Proofs.YtkfedgjepiljiaaDoor

/- The walk of frame.Read. -/
namespace Go.Proofs.YtkfedgjepiljiaaDoor
open Go.ChangeShapes Go.WideShapes Go.ChangeAt Go.RowKit
open FP (bit bitsOf numOf Fr headF sizeE sizeV fxN dlN rawF readB sizedB bytesF byteAt idF fr0)

/-- 'string(b)', b a row of the call's own, empty or not. -/
theorem run_bytes_own {P : Program} (w : World) (src dst e : TypeId) (hs : P.underlying src = some (.slice e)) (he : P.underlying e = some (.int .u8)) (hd : P.underlying dst = some .string)
    {base : Nat} {A : Option Addr} {c : Nat} {l : List UInt8} (h : Own w base 5 1 A c (byRow l)) (n : Nat) (hn : n = l.length) : (convert src dst (.slice A n c)).run P w = .ok (.string ⟨l.toArray⟩) w := by
  subst hn
  rcases Nat.eq_zero_or_pos l.length with h0 | h0
  · have hl : l = [] := List.length_eq_zero_iff.1 h0
    subst hl
    rw [run_convert_bytes_string w src dst e _ _ _ hs he hd]
    cases A with
    | none => simp [Conv.bytesToString, Sem.run_pure]; rfl
    | some a =>
      exact run_bytesToString (P := P) w a 0 c [] (by simp [loadCells, loadCellsFrom])
  · obtain ⟨g, rfl, _, _⟩ := h.ofLen (by rw [byRow_len]; exact h0)
    exact run_bytes_str w src dst e hs he hd g l.length c l rfl (fun i hi => byOwn_cell h hi)

set_option maxRecDepth 100000 in
set_option maxHeartbeats 1000000 in
theorem rdNum_any (s : ByteArray) (b frm tt : Nat) (N M : Int) (w : World) (hb : ∀ c ∈ s.data.toList, c = 48 ∨ c = 49) (hN : N = frm) (hT : N + M = tt) (hft : frm ≤ tt) (hto : tt ≤ s.size) (h60 : tt ≤ frm + 60) (hs : s.size ≤ 4000)
    (h : w.heap[b]? = some (.cells #[.string s] 9 (0, 0))) :
    Calls Tryd.prog 71 #[.int .i64 N, .int .i64 M, .pointer (some ⟨b, 0, none⟩)] w fun e w' => e = .returned (.int .u64 (numOf (s.data.toList.extract frm tt) : Nat)) ∧ Below w.heap.size w w' := by
  have NB := hide (fun W => bitsNumber_any (s.extract frm tt) W (extract_bits hb frm tt) (by rw [ByteArray.size_extract]; omega))
  rw [toList_extract] at NB
  have c0 : w.cell? ⟨b, 0, none⟩ = some (.string s) := by simp [World.cell?, h]
  subst hN
  have hT1 : ((frm : Int) + M) = tt := hT
  clear h hb hT
  generalize numOf (s.data.toList.extract frm tt) = v at *
  go_enter Tryd.func71, Tryd.ntmps71
  go_wp2_with fail
  refine (NB.out _).mono ?_
  rintro e1 w1 ⟨rfl, q1⟩
  go_wp2_with fail
  go_ret
  exact ⟨rfl, q1⟩

/-- Read's memory: the row's box, the answer's (zero), the frame's (block g). -/
structure RdM (w : World) (g : Nat) (s : ByteArray) (f : Fr) (W : World) : Prop where
  q : Below w.heap.size w W
  sb : W.heap[w.heap.size]? = some (.cells #[.string s] 9 (0, 0))
  zb : W.heap[w.heap.size + 1]? = some (.cells #[.int .u32 0, .bool false, .bool false, .int .i64 0, .string ⟨#[]⟩] 24 (0, 0))
  fb : W.heap[g]? = some (.cells #[.int .u32 f.id, .bool f.ext, .bool f.rem, .int .i64 f.dlc, .string f.data] 24 (0, 0))
  hg : w.heap.size + 2 ≤ g
theorem RdM.below {w W W' : World} {g : Nat} {s : ByteArray} {f : Fr} (h : RdM w g s f W) (q : Below W.heap.size W W') : RdM w g s f W' :=
  ⟨below_next h.q h.q.size q, heap_below h.sb q, heap_below h.zb q, heap_below h.fb q, h.hg⟩
theorem RdM.grown {w W W' : World} {g : Nat} {s : ByteArray} {f : Fr} (h : RdM w g s f W) {row : Option Nat} (hr : ∀ k, row = some k → g < k) (q : W.grownBy W' row) : RdM w g s f W' := by
  have hg := h.hg
  refine ⟨h.q.grown q h.q.size (fun k hk => by have := hr k hk; omega), heap_grownB h.sb q ?_, heap_grownB h.zb q ?_, heap_grownB h.fb q ?_, h.hg⟩
  · intro e; have := hr _ e; omega
  · intro e; have := hr _ e; omega
  · intro e; have := hr _ e; omega
theorem RdM.set {w W : World} {g : Nat} {s : ByteArray} {f : Fr} (h : RdM w g s f W) (j : Nat) (v : Value) (f' : Fr) (hv : #[Value.int .u32 f.id, .bool f.ext, .bool f.rem, .int .i64 f.dlc, .string f.data].setIfInBounds j v = #[.int .u32 f'.id, .bool f'.ext, .bool f'.rem, .int .i64 f'.dlc, .string f'.data]) : RdM w g s f' (W.setCell ⟨g, j, none⟩ v) := by
  have hg := h.hg
  refine ⟨h.q.setCell (p := ⟨g, j, none⟩) (by show w.heap.size ≤ g; omega) v, ?_, ?_, ?_, h.hg⟩
  · rw [heap_setCell_other W ⟨g, j, none⟩ _ v (by show w.heap.size ≠ g; omega)]; exact h.sb
  · rw [heap_setCell_other W ⟨g, j, none⟩ _ v (by show w.heap.size + 1 ≠ g; omega)]; exact h.zb
  · rw [heap_setCell_same W g j _ 24 v h.fb, hv]
theorem RdM.drew {w W : World} {g : Nat} {s : ByteArray} {f : Fr} (h : RdM w g s f W) : RdM w g s f W.drew := ⟨h.q.drew, h.sb, h.zb, h.fb, h.hg⟩
theorem RdM.scell {w W : World} {g : Nat} {s : ByteArray} {f : Fr} (h : RdM w g s f W) : W.cell? ⟨w.heap.size, 0, none⟩ = some (.string s) := by simp [World.cell?, h.sb]
theorem RdM.lt {w W : World} {g : Nat} {s : ByteArray} {f : Fr} (h : RdM w g s f W) : g < W.heap.size := heap_lt h.fb

set_option maxRecDepth 100000 in
set_option maxHeartbeats 4000000 in
theorem frRead_no (s : ByteArray) (w : World) (v e0 : Int) (hs : s.size ≤ maxLen) (h : (e0 != 0) = true ∨ (e0 != 0) = false ∧ (v != (s.size : Int)) = true)
    (SZ : ∀ W, Calls Tryd.prog 41 #[.string s] W fun e w' => e = .returned (.tuple #[.int .i64 v, .int .i64 e0]) ∧ Below W.heap.size W w') :
    Calls Tryd.prog 58 #[.string s] w fun e w' => e = .returned (.tuple #[.agg #[.int .u32 0, .bool false, .bool false, .int .i64 0, .string ⟨#[]⟩], .int .i64 12]) ∧ Below w.heap.size w w' := by
  have S := hide SZ
  clear SZ
  unfold maxLen at hs
  have q0 : Below w.heap.size w ((w.alloc (.cells #[.string s] 9)).alloc (.cells #[.int .u32 0, .bool false, .bool false, .int .i64 0, .string ⟨#[]⟩] 24)) := ((Below.refl _ _).alloc (Nat.le_refl _) _).alloc (by simp) _
  have B0 := hide (show ((w.alloc (.cells #[.string s] 9)).alloc (.cells #[.int .u32 0, .bool false, .bool false, .int .i64 0, .string ⟨#[]⟩] 24)).heap[w.heap.size + 1]? = some (.cells #[.int .u32 0, .bool false, .bool false, .int .i64 0, .string ⟨#[]⟩] 24 (0, 0)) from (two_new _ _ _).2)
  have B1 := hide (show ((w.alloc (.cells #[.string s] 9)).alloc (.cells #[.int .u32 0, .bool false, .bool false, .int .i64 0, .string ⟨#[]⟩] 24)).heap[w.heap.size]? = some (.cells #[.string s] 9 (0, 0)) from (two_new _ _ _).1)
  rcases h with h | ⟨h1, h⟩
  all_goals
    go_enter Tryd.func58, Tryd.ntmps58
    go_wp2_with fail
    refine (S.out _).mono ?_
    rintro e1 w1 ⟨rfl, q1⟩
    have C1 : Hid (w1.heap[w.heap.size + 1]? = _) := hide (heap_below B0.out q1)
    have Q1 := hide (below_next q0 q0.size q1)
    have c0 : w1.cell? ⟨w.heap.size, 0, none⟩ = some (.string s) := by have := heap_below B1.out q1; simp [World.cell?, this]
    clear q0 B0 q1 B1
    go_wp2_with (refine wpList_store_hid (by rfl) 24 (.tmp 2) (.tmp 23) (by rfl) (w.heap.size + 1) 0 [.int .u32 0, .bool false, .bool false, .int .i64 0, .string ⟨#[]⟩] (by rfl) (by rfl) (by exact there_heap (cs := [_, _, _, _, _]) C1.out) (by kernel_rfl) (by simp [Value.oneCell']) ?_)
    intro W2 e2
    have C2 := whole_heap [.int .u32 0, .bool false, .bool false, .int .i64 0, .string ⟨#[]⟩] (xs := [_, _, _, _, _]) C1.out rfl
    have q2 := Q1.out.trans (below_setCells (g := w.heap.size + 1) [.int .u32 0, .bool false, .bool false, .int .i64 0, .string ⟨#[]⟩] 0 w1 (by omega))
    rw [← e2.out] at C2 q2
    clear e2
    obtain ⟨y0, y1, y2, y3, y4⟩ := frCells (id := 0) C2
    have Q2 := hide q2
    clear C2 q2
    go_wp2
    refine bodyPost_ret (v := .tuple #[.agg #[.int .u32 0, .bool false, .bool false, .int .i64 0, .string ⟨#[]⟩], .int .i64 12]) (by simp [results, Tryd.results58, go_sem, y0, y1, y2, y3, y4]) rfl ⟨rfl, Q2.out⟩
end Go.Proofs.YtkfedgjepiljiaaDoor
