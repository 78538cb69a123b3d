/- box.New, Put. -/
import Derived.Test.YtbdgifngldipcaaBxH
namespace Go.Proofs.Ytbdgifngldipcaa
open Go.ChangeShapes Go.WideShapes Go.ChangeAt Go.RowKit
open FP (Fr)
open HP (kB at' Hp UpI DnI)

theorem right_good {l : List Bx} {seq cap : Int} (h : rightBx l seq cap = true) (hid : ∀ x ∈ l, x.f.id < 4294967296) : GoodB l := fun x hx => by
  obtain ⟨k, hk, rfl⟩ := List.mem_iff_getElem.1 hx
  have := (rightBx_iff.1 h).2.2.2.2.2 k hk hk
  unfold okBx at this
  simp only [Bool.and_eq_true] at this
  exact ⟨this.1, hid _ hx⟩
theorem right_heap {l : List Bx} {seq cap : Int} (h : rightBx l seq cap = true) (hid : ∀ x ∈ l, x.f.id < 4294967296) : Hp l 0 l.length := fun k h0 hk _ => by
  have g := right_good h hid
  have hp : (k - 1) / 2 < l.length := by omega
  have := (rightBx_iff.1 h).2.2.2.2.2 k hk hk
  unfold okBx at this
  rw [List.getElem?_eq_getElem hp] at this
  simp only [Bool.and_eq_true, Bool.or_eq_true, decide_eq_true_eq, Bool.not_eq_true'] at this
  rcases this.2.2.2.2.2.2 with h | h
  · omega
  · rw [g.ahead hk hp] at h
    exact h

set_option maxRecDepth 100000 in
theorem bxNew_any (n : Int) (w : World) : Calls Try.prog 38 #[.int .i64 n] w fun e w' =>
    e = .returned (if 1 ≤ n ∧ n ≤ 8 then .tuple #[.agg #[.slice none 0 0, .int .i64 0, .int .i64 n], .int .i64 0] else .tuple #[.agg #[.slice none 0 0, .int .i64 0, .int .i64 0], .int .i64 1]) ∧ Below w.heap.size w w' := by
  by_cases h : 1 ≤ n ∧ n ≤ 8
  · rw [if_pos h]
    obtain ⟨h1, h2⟩ := h
    go_enter Try.func38, Try.ntmps38
    go_wp2
    refine bodyPost_ret (v := .tuple #[.agg #[.slice none 0 0, .int .i64 0, .int .i64 n], .int .i64 0]) (by simp [results, Try.results38, go_sem]) rfl ⟨rfl, (Below.refl _ _).alloc (Nat.le_refl _) _⟩
  · rw [if_neg h]
    rcases (show n < 1 ∨ 8 < n by omega) with h1 | h1
    all_goals
      clear h
      go_enter Try.func38, Try.ntmps38
      go_wp2
      all_goals
        refine bodyPost_ret (v := .tuple #[.agg #[.slice none 0 0, .int .i64 0, .int .i64 0], .int .i64 1]) (by simp [results, Try.results38, go_sem]) rfl ⟨rfl, (Below.refl _ _).alloc (Nat.le_refl _) _⟩

/-- A queue just laid. -/
theorem HQ.new {w W : World} {A : Option Addr} {c : Nat} {l : List Bx} (ho : Own W w.heap.size 70 7 A c (l.map bxc)) (q : Below w.heap.size w W) : HQ w.heap.size w W.heap.size A c l (W.alloc (.cells #[.slice A l.length c] 97)) :=
  ⟨World.alloc_heap_new W _, ho.alloc _, q.alloc q.size _, q.size⟩

def PutV (l : List Bx) (x : Bx) (seq cap : Int) (w : World) (e : Ending) (w' : World) : Prop :=
  ∃ A c l', e = .returned (.tuple #[.agg #[.slice A l'.length c, .int .i64 (seq + 1), .int .i64 cap], .int .i64 0]) ∧ Own w' w.heap.size 70 7 A c (l'.map bxc) ∧ l'.Perm (l ++ [x]) ∧ Hp l' 0 l'.length ∧ Below w.heap.size w w'

set_option maxRecDepth 100000 in
set_option maxHeartbeats 2000000 in
theorem put_ok (l : List Bx) (A : Option Addr) (c : Nat) (seq cap handle : Int) (f : Fr) (w : World) (hr : BxR w w.heap.size A l) (hcl : l.length ≤ c) (hid : ∀ x ∈ l, x.f.id < 4294967296) (hf : f.id < 4294967296)
    (hR : rightBx l seq cap = true) (h0 : 0 ≤ handle) (h1 : handle ≤ 1000000) (hfr : FP.rightB f = true) (hs : seq < 1099511627776) (hlc : (l.length : Int) < cap) :
    Calls Try.prog 39 #[.agg #[.slice A l.length c, .int .i64 seq, .int .i64 cap], .int .i64 handle, .agg #[.int .u32 f.id, .bool f.ext, .bool f.rem, .int .i64 f.dlc, .string f.data]] w (PutV l ⟨handle, f, seq⟩ seq cap w) := by
  obtain ⟨r1, r2, r3, r4, r5, _⟩ := rightBx_iff.1 hR
  have RI := hide (fun W (q : Below w.heap.size w W) => bxRight_any l A c seq cap W (hr.next q q.size) (by omega) hcl hid)
  rw [hR] at RI
  have RF := hide (fun W => frRight_any f W hf)
  rw [hfr] at RF
  have CL := hide (fun W (q : Below w.heap.size w W) => cloneBx_any l A c W (hr.next q q.size) (by omega))
  have HG := hide (show GoodB (l ++ [⟨handle, f, seq⟩]) from fun x hx => by
    rcases List.mem_append.1 hx with h | h
    · exact right_good hR hid x h
    · rw [List.mem_singleton] at h
      subst h
      exact ⟨hfr, hf⟩)
  have HH := hide (right_heap hR hid)
  have q0 : Below w.heap.size w (((w.alloc (.cells #[.slice A l.length c, .int .i64 seq, .int .i64 cap] 65)).alloc (.cells #[.int .u32 f.id, .bool f.ext, .bool f.rem, .int .i64 f.dlc, .string f.data] 39)).alloc (.cells #[.slice none 0 0, .int .i64 0, .int .i64 0] 65)) :=
    (((Below.refl _ _).alloc (Nat.le_refl _) _).alloc (by simp) _).alloc (by simp; omega) _
  clear hr hid hR hfr
  obtain ⟨id, ext, rem, dlc, data⟩ := f
  dsimp only at *
  go_enter Try.func39, Try.ntmps39
  go_wp2_with fail
  (with_reducible refine (RI.out _ q0).mono ?_)
  rintro e1 w1 ⟨rfl, q1⟩
  have q1' := below_next q0 q0.size q1
  obtain ⟨hc1, hz1⟩ := bcell q1
  have z1 : w.heap.size + 2 < w1.heap.size := by simp at hz1; omega
  have z1a : w.heap.size + 1 < w1.heap.size := by omega
  have z1b : w.heap.size < w1.heap.size := by omega
  go_wp2_with fail
  (with_reducible refine (RF.out _).mono ?_)
  rintro e2 w2 ⟨rfl, q2⟩
  have q2' := below_next q1' q1'.size q2
  obtain ⟨hc2, hz2⟩ := bcell q2
  go_wp2_with fail
  (with_reducible refine (CL.out _ q2').mono ?_)
  rintro e3 w3 ⟨A3, c3, rfl, o3, q3⟩
  have q3' := below_next q2' q2'.size q3
  obtain ⟨hc3, hz3⟩ := bcell q3
  have H3 := hide (HQ.new o3 q3)
  have q12 := q1.trans (q2.mono q1.size)
  have q2k := q2'
  have z3 : w.heap.size + 3 ≤ w3.heap.size := by have := q2.size; have := q3.size; omega
  have z2 : w.heap.size + 3 ≤ w2.heap.size := by have := q2.size; omega
  clear o3
  go_wp2_with fail
  have q4' : Below w.heap.size w (w3.alloc (.cells #[.slice A3 l.length c3] 97)) := q3'.alloc q3'.size _
  have z4 : w3.heap.size < (w3.alloc (.cells #[.slice A3 l.length c3] 97)).heap.size := by simp
  have Q4 : Below (w.heap.size + 3) (((w.alloc (.cells #[.slice A l.length c, .int .i64 seq, .int .i64 cap] 65)).alloc (.cells #[.int .u32 id, .bool ext, .bool rem, .int .i64 dlc, .string data] 39)).alloc (.cells #[.slice none 0 0, .int .i64 0, .int .i64 0] 65)) (w3.alloc (.cells #[.slice A3 l.length c3] 97)) :=
    ((((by simpa using q1 : Below (w.heap.size + 3) _ w1).trans (q2.mono (by omega))).trans (q3.mono (by omega))).alloc (by omega) _)
  have CELLS := hide (show ∀ W, Below (w.heap.size + 3) (((w.alloc (.cells #[.slice A l.length c, .int .i64 seq, .int .i64 cap] 65)).alloc (.cells #[.int .u32 id, .bool ext, .bool rem, .int .i64 dlc, .string data] 39)).alloc (.cells #[.slice none 0 0, .int .i64 0, .int .i64 0] 65)) W → W.cell? ⟨w.heap.size, 1, none⟩ = some (.int .i64 seq) ∧ W.cell? ⟨w.heap.size, 2, none⟩ = some (.int .i64 cap) ∧ W.cell? ⟨w.heap.size + 1, 0, none⟩ = some (.int .u32 id) ∧ W.cell? ⟨w.heap.size + 1, 1, none⟩ = some (.bool ext) ∧ W.cell? ⟨w.heap.size + 1, 2, none⟩ = some (.bool rem) ∧ W.cell? ⟨w.heap.size + 1, 3, none⟩ = some (.int .i64 dlc) ∧ W.cell? ⟨w.heap.size + 1, 4, none⟩ = some (.string data) ∧ W.cell? ⟨w.heap.size + 1 + 1, 0, none⟩ = some (.slice none 0 0) ∧ W.cell? ⟨w.heap.size + 1 + 1, 1, none⟩ = some (.int .i64 0) ∧ W.cell? ⟨w.heap.size + 1 + 1, 2, none⟩ = some (.int .i64 0) from fun W Q => ⟨cellBelow Q (by omega) (by simp [go_sem]), cellBelow Q (by omega) (by simp [go_sem]), cellBelow Q (by omega) (by simp [go_sem]), cellBelow Q (by omega) (by simp [go_sem]), cellBelow Q (by omega) (by simp [go_sem]), cellBelow Q (by omega) (by simp [go_sem]), cellBelow Q (by omega) (by simp [go_sem]), cellBelow Q (by omega) (by simp [go_sem]), cellBelow Q (by omega) (by simp [go_sem]), cellBelow Q (by omega) (by simp [go_sem])⟩)
  generalize w3.alloc (.cells #[.slice A3 l.length c3] 97) = w4 at *
  clear hc1 hc2 hc3 hz1 hz2 hz3 q1' q2' q3' q1 q3 q0
  have CL4 := CELLS.out w4 Q4
  refine wp_region_tame (by kernel_rfl) (by kernel_rfl) ?_
  have ml := fun s : InW w4 => meth_len s.W w3.heap.size l.length c3 A3 (H3.out.below s.h).cell
  have mc := fun s : InW w4 => s.cell (by omega) CL4.2.1
  clear CL4
  repeat (go_big_quiet_step (first | (go_at_call 120; exact tame_same (qLen_any _ _ _ _))))
  refine wpQuiet_nil ?_
  rintro _ ⟨s, rfl⟩
  obtain ⟨w5, q5⟩ := s
  dsimp only
  have H5 := hide (H3.out.below q5)
  have q5w : Below w.heap.size w w2 := q2k
  have Q5 := Q4.trans (q5.mono (by omega))
  obtain ⟨d1, d2, d3, d4, d5, d6, d7, d8, d9, d10⟩ := CELLS.out w5 Q5
  have PU := hide (hpPush_any w2.heap.size w2 w3.heap.size A3 c3 l ⟨handle, ⟨id, ext, rem, dlc, data⟩, seq⟩ w5 H5.out (by omega) HG.out HH.out)
  clear ml mc H3 q4' q5 Q4
  go_wp2_with fail
  (with_reducible refine PU.out.mono ?_)
  rintro e6 w6 ⟨rfl, A6, c6, l6, h6, p6, hp6⟩
  have hcell := h6.cell
  have Q6 : Below (w.heap.size + 3) (((w.alloc (.cells #[.slice A l.length c, .int .i64 seq, .int .i64 cap] 65)).alloc (.cells #[.int .u32 id, .bool ext, .bool rem, .int .i64 dlc, .string data] 39)).alloc (.cells #[.slice none 0 0, .int .i64 0, .int .i64 0] 65)) w6 := by
    have h2 := (by simpa using q12 : Below (w.heap.size + 3) _ w2)
    exact h2.trans (h6.q.mono (by omega))
  clear d1 d2 d3 d4 d5 d6 d7 d8 d9 d10
  obtain ⟨d1, d2, d3, d4, d5, d6, d7, d8, d9, d10⟩ := CELLS.out w6 Q6
  have hfz : ∀ b o, b < w.heap.size + 3 → w6.frozen? ⟨b, o, none⟩ = (((w.alloc (.cells #[.slice A l.length c, .int .i64 seq, .int .i64 cap] 65)).alloc (.cells #[.int .u32 id, .bool ext, .bool rem, .int .i64 dlc, .string data] 39)).alloc (.cells #[.slice none 0 0, .int .i64 0, .int .i64 0] 65)).frozen? ⟨b, o, none⟩ := fun b o h => Q6.frozen (p := ⟨b, o, none⟩) h
  have FIN := hide (And.intro h6 (And.intro p6 hp6))
  have AB := hide (own_blk h6.own)
  have QW : Below w.heap.size w w6 := q5w.trans (h6.q.mono (by omega))
  clear h6 p6 hp6 PU H5
  go_wp2
  refine bodyPost_ret (v := .tuple #[.agg #[.slice A6 l6.length c6, .int .i64 (seq + 1), .int .i64 cap], .int .i64 0]) (by simp [results, Try.results39, go_sem, d8, d9, d10]) rfl ⟨A6, c6, l6, rfl, ?_, FIN.out.2.1, FIN.out.2.2, ?_⟩
  · have hx : w.heap.size + 1 + 1 < w2.heap.size := by omega
    exact (own_setj (own_setj (own_setj FIN.out.1.own hx 0 (.slice A6 l6.length c6)) hx 1 (.int .i64 (seq + 1))) hx 2 (.int .i64 cap)).mono (by omega)
  · exact ((QW.setCell (by simp; omega) _).setCell (by simp; omega) _).setCell (by simp; omega) _
end Go.Proofs.Ytbdgifngldipcaa
