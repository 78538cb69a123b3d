/- box.Put where it refuses; Best. -/
import Derived.Test.YtkfedgjepiljiaaDoorMgBxG
namespace Go.Proofs.YtkfedgjepiljiaaDoor
open Go.ChangeShapes Go.WideShapes Go.ChangeAt Go.RowKit
open FP (Fr)
open HP (kB at' Hp UpI DnI)

/-- No boxes, and why. -/
def NoBx (n : Int) (w : World) (e : Ending) (w' : World) : Prop := e = .returned (.tuple #[.agg #[.slice none 0 0, .int .i64 0, .int .i64 0], .int .i64 n]) ∧ Below w.heap.size w w'

set_option maxRecDepth 100000 in
set_option maxHeartbeats 2000000 in
theorem put_bad (l : List Bx) (A : Option Addr) (c : Nat) (seq cap handle : Int) (f : Fr) (w : World) (hr : BxR w w.heap.size A l) (hl : l.length ≤ 1000) (hcl : l.length ≤ c) (hid : ∀ x ∈ l, x.f.id < 4294967296) (hf : f.id < 4294967296)
    (hb : rightBx l seq cap = false ∨ handle < 0 ∨ 1000000 < handle ∨ FP.rightB f = false ∨ 1099511627776 ≤ seq) :
    Calls Tryd.prog 23 #[.agg #[.slice A l.length c, .int .i64 seq, .int .i64 cap], .int .i64 handle, .agg #[.int .u32 f.id, .bool f.ext, .bool f.rem, .int .i64 f.dlc, .string f.data]] w (NoBx 1 w) := by
  have RI := hide (fun W (q : Below w.heap.size w W) => bxRight_any l A c seq cap W (hr.next q q.size) hl hcl hid)
  have RF := hide (fun W => frRight_any f W hf)
  have q0 : Below w.heap.size w (((w.alloc (.cells #[.slice A l.length c, .int .i64 seq, .int .i64 cap] 29)).alloc (.cells #[.int .u32 f.id, .bool f.ext, .bool f.rem, .int .i64 f.dlc, .string f.data] 24)).alloc (.cells #[.slice none 0 0, .int .i64 0, .int .i64 0] 29)) :=
    (((Below.refl _ _).alloc (Nat.le_refl _) _).alloc (by simp) _).alloc (by simp; omega) _
  clear hr hid
  obtain ⟨id, ext, rem, dlc, data⟩ := f
  dsimp only at *
  generalize FP.rightB ⟨id, ext, rem, dlc, data⟩ = RFB at *
  rcases hR : rightBx l seq cap with _ | _
  · rw [hR] at RI
    clear hb hR
    go_enter Tryd.func23, Tryd.ntmps23
    go_wp2_with fail
    (with_reducible refine (RI.out _ q0).mono ?_)
    rintro e1 w1 ⟨rfl, q1⟩
    have q1' := below_next q0 q0.size q1
    obtain ⟨hc1, hz1⟩ := bcell q1
    have hf1 : ∀ b o, b < w.heap.size + 3 → w1.frozen? ⟨b, o, none⟩ = _ := fun b o h => q1.frozen (p := ⟨b, o, none⟩) (by simpa using h)
    have z1 : w.heap.size + 1 + 1 < w1.heap.size := by simp at hz1; omega
    have z1a : w.heap.size + 1 < w1.heap.size := by omega
    have z1b : w.heap.size < w1.heap.size := by omega
    go_wp2
    refine bodyPost_ret (v := .tuple #[.agg #[.slice none 0 0, .int .i64 0, .int .i64 0], .int .i64 1]) (by simp [results, Tryd.results23, go_sem, hc1]) rfl ⟨rfl, ?_⟩
    exact ((q1'.setCell (by simp; omega) _).setCell (by simp; omega) _).setCell (by simp; omega) _
  · rw [hR] at RI
    by_cases hh : 0 ≤ handle ∧ handle ≤ 1000000
    · obtain ⟨h0, h1⟩ := hh
      cases RFB
      · clear hb hR
        go_enter Tryd.func23, Tryd.ntmps23
        go_wp2_with fail
        (with_reducible refine (RI.out _ q0).mono ?_)
        rintro e1 w1 ⟨rfl, q1⟩
        have q1' := below_next q0 q0.size q1
        obtain ⟨hc1, hz1⟩ := bcell q1
        have hf1 : ∀ b o, b < w.heap.size + 3 → w1.frozen? ⟨b, o, none⟩ = _ := fun b o h => q1.frozen (p := ⟨b, o, none⟩) (by simpa using h)
        have z1 : w.heap.size + 1 + 1 < w1.heap.size := by simp at hz1; omega
        have z1a : w.heap.size + 1 < w1.heap.size := by omega
        have z1b : w.heap.size < w1.heap.size := by omega
        go_wp2_with fail
        (with_reducible refine (RF.out _).mono ?_)
        rintro e2 w2 ⟨rfl, q2⟩
        have q2' := below_next q1' q1'.size q2
        obtain ⟨hc2, hz2⟩ := bcell q2
        have hf2 : ∀ b o, b < w1.heap.size → w2.frozen? ⟨b, o, none⟩ = _ := fun b o h => q2.frozen (p := ⟨b, o, none⟩) h
        have zz1 : w.heap.size + 1 + 1 < w2.heap.size := by omega
        have zz1a : w.heap.size + 1 < w2.heap.size := by omega
        have zz1b : w.heap.size < w2.heap.size := by omega
        go_wp2
        refine bodyPost_ret (v := .tuple #[.agg #[.slice none 0 0, .int .i64 0, .int .i64 0], .int .i64 1]) (by simp [results, Tryd.results23, go_sem, hc1, hc2, z1]) rfl ⟨rfl, ?_⟩
        exact ((q2'.setCell (by simp; omega) _).setCell (by simp; omega) _).setCell (by simp; omega) _
      · have hs : 1099511627776 ≤ seq := by
          rcases hb with h | h | h | h | h
          · rw [hR] at h; cases h
          · omega
          · omega
          · cases h
          · exact h
        clear hb hR
        go_enter Tryd.func23, Tryd.ntmps23
        go_wp2_with fail
        (with_reducible refine (RI.out _ q0).mono ?_)
        rintro e1 w1 ⟨rfl, q1⟩
        have q1' := below_next q0 q0.size q1
        obtain ⟨hc1, hz1⟩ := bcell q1
        have hf1 : ∀ b o, b < w.heap.size + 3 → w1.frozen? ⟨b, o, none⟩ = _ := fun b o h => q1.frozen (p := ⟨b, o, none⟩) (by simpa using h)
        have z1 : w.heap.size + 1 + 1 < w1.heap.size := by simp at hz1; omega
        have z1a : w.heap.size + 1 < w1.heap.size := by omega
        have z1b : w.heap.size < w1.heap.size := by omega
        go_wp2_with fail
        (with_reducible refine (RF.out _).mono ?_)
        rintro e2 w2 ⟨rfl, q2⟩
        have q2' := below_next q1' q1'.size q2
        obtain ⟨hc2, hz2⟩ := bcell q2
        have hf2 : ∀ b o, b < w1.heap.size → w2.frozen? ⟨b, o, none⟩ = _ := fun b o h => q2.frozen (p := ⟨b, o, none⟩) h
        have zz1 : w.heap.size + 1 + 1 < w2.heap.size := by omega
        have zz1a : w.heap.size + 1 < w2.heap.size := by omega
        have zz1b : w.heap.size < w2.heap.size := by omega
        go_wp2
        refine bodyPost_ret (v := .tuple #[.agg #[.slice none 0 0, .int .i64 0, .int .i64 0], .int .i64 1]) (by simp [results, Tryd.results23, go_sem, hc1, hc2, z1]) rfl ⟨rfl, ?_⟩
        exact ((q2'.setCell (by simp; omega) _).setCell (by simp; omega) _).setCell (by simp; omega) _
    · rcases (show handle < 0 ∨ 1000000 < handle by omega) with h | h
      all_goals
        clear hb hR hh
        go_enter Tryd.func23, Tryd.ntmps23
        go_wp2_with fail
        (with_reducible refine (RI.out _ q0).mono ?_)
        rintro e1 w1 ⟨rfl, q1⟩
        have q1' := below_next q0 q0.size q1
        obtain ⟨hc1, hz1⟩ := bcell q1
        have hf1 : ∀ b o, b < w.heap.size + 3 → w1.frozen? ⟨b, o, none⟩ = _ := fun b o h => q1.frozen (p := ⟨b, o, none⟩) (by simpa using h)
        have z1 : w.heap.size + 1 + 1 < w1.heap.size := by simp at hz1; omega
        have z1a : w.heap.size + 1 < w1.heap.size := by omega
        have z1b : w.heap.size < w1.heap.size := by omega
        go_wp2
        all_goals
          refine bodyPost_ret (v := .tuple #[.agg #[.slice none 0 0, .int .i64 0, .int .i64 0], .int .i64 1]) (by simp [results, Tryd.results23, go_sem, hc1]) rfl ⟨rfl, ?_⟩
          exact ((q1'.setCell (by simp; omega) _).setCell (by simp; omega) _).setCell (by simp; omega) _
set_option maxRecDepth 100000 in
set_option maxHeartbeats 2000000 in
theorem put_busy (l : List Bx) (A : Option Addr) (c : Nat) (seq cap handle : Int) (f : Fr) (w : World) (hr : BxR w w.heap.size A l) (hcl : l.length ≤ c) (hid : ∀ x ∈ l, x.f.id < 4294967296) (hf : f.id < 4294967296)
    (hR : rightBx l seq cap = true) (h0 : 0 ≤ handle) (h1 : handle ≤ 1000000) (hfr : FP.rightB f = true) (hs : seq < 1099511627776) (hlc : cap ≤ (l.length : Int)) :
    Calls Tryd.prog 23 #[.agg #[.slice A l.length c, .int .i64 seq, .int .i64 cap], .int .i64 handle, .agg #[.int .u32 f.id, .bool f.ext, .bool f.rem, .int .i64 f.dlc, .string f.data]] w (NoBx 20 w) := by
  obtain ⟨r1, r2, r3, r4, r5, _⟩ := rightBx_iff.1 hR
  have RI := hide (fun W (q : Below w.heap.size w W) => bxRight_any l A c seq cap W (hr.next q q.size) (by omega) hcl hid)
  rw [hR] at RI
  have RF := hide (fun W => frRight_any f W hf)
  rw [hfr] at RF
  have CL := hide (fun W (q : Below w.heap.size w W) => cloneBx_any l A c W (hr.next q q.size) (by omega))
  have q0 : Below w.heap.size w (((w.alloc (.cells #[.slice A l.length c, .int .i64 seq, .int .i64 cap] 29)).alloc (.cells #[.int .u32 f.id, .bool f.ext, .bool f.rem, .int .i64 f.dlc, .string f.data] 24)).alloc (.cells #[.slice none 0 0, .int .i64 0, .int .i64 0] 29)) :=
    (((Below.refl _ _).alloc (Nat.le_refl _) _).alloc (by simp) _).alloc (by simp; omega) _
  clear hr hid hR hfr
  obtain ⟨id, ext, rem, dlc, data⟩ := f
  dsimp only at *
  go_enter Tryd.func23, Tryd.ntmps23
  go_wp2_with fail
  (with_reducible refine (RI.out _ q0).mono ?_)
  rintro e1 w1 ⟨rfl, q1⟩
  have q1' := below_next q0 q0.size q1
  obtain ⟨hc1, hz1⟩ := bcell q1
  have z1 : w.heap.size + 2 < w1.heap.size := by simp at hz1; omega
  have z1a : w.heap.size + 1 < w1.heap.size := by omega
  have z1b : w.heap.size < w1.heap.size := by omega
  go_wp2_with fail
  (with_reducible refine (RF.out _).mono ?_)
  rintro e2 w2 ⟨rfl, q2⟩
  have q2' := below_next q1' q1'.size q2
  obtain ⟨hc2, hz2⟩ := bcell q2
  go_wp2_with fail
  (with_reducible refine (CL.out _ q2').mono ?_)
  rintro e3 w3 ⟨A3, c3, rfl, o3, q3⟩
  have q3' := below_next q2' q2'.size q3
  obtain ⟨hc3, hz3⟩ := bcell q3
  have H3 := hide (HQ.new o3 q3)
  have q12 := q1.trans (q2.mono q1.size)
  have q2k := q2'
  have z3 : w.heap.size + 3 ≤ w3.heap.size := by have := q2.size; have := q3.size; omega
  have z2 : w.heap.size + 3 ≤ w2.heap.size := by have := q2.size; omega
  clear o3
  go_wp2_with fail
  have q4' : Below w.heap.size w (w3.alloc (.cells #[.slice A3 l.length c3] 73)) := q3'.alloc q3'.size _
  have z4 : w3.heap.size < (w3.alloc (.cells #[.slice A3 l.length c3] 73)).heap.size := by simp
  have Q4 : Below (w.heap.size + 3) (((w.alloc (.cells #[.slice A l.length c, .int .i64 seq, .int .i64 cap] 29)).alloc (.cells #[.int .u32 id, .bool ext, .bool rem, .int .i64 dlc, .string data] 24)).alloc (.cells #[.slice none 0 0, .int .i64 0, .int .i64 0] 29)) (w3.alloc (.cells #[.slice A3 l.length c3] 73)) :=
    ((((by simpa using q1 : Below (w.heap.size + 3) _ w1).trans (q2.mono (by omega))).trans (q3.mono (by omega))).alloc (by omega) _)
  have CELLS := hide (show ∀ W, Below (w.heap.size + 3) (((w.alloc (.cells #[.slice A l.length c, .int .i64 seq, .int .i64 cap] 29)).alloc (.cells #[.int .u32 id, .bool ext, .bool rem, .int .i64 dlc, .string data] 24)).alloc (.cells #[.slice none 0 0, .int .i64 0, .int .i64 0] 29)) W → W.cell? ⟨w.heap.size, 1, none⟩ = some (.int .i64 seq) ∧ W.cell? ⟨w.heap.size, 2, none⟩ = some (.int .i64 cap) ∧ W.cell? ⟨w.heap.size + 1, 0, none⟩ = some (.int .u32 id) ∧ W.cell? ⟨w.heap.size + 1, 1, none⟩ = some (.bool ext) ∧ W.cell? ⟨w.heap.size + 1, 2, none⟩ = some (.bool rem) ∧ W.cell? ⟨w.heap.size + 1, 3, none⟩ = some (.int .i64 dlc) ∧ W.cell? ⟨w.heap.size + 1, 4, none⟩ = some (.string data) ∧ W.cell? ⟨w.heap.size + 1 + 1, 0, none⟩ = some (.slice none 0 0) ∧ W.cell? ⟨w.heap.size + 1 + 1, 1, none⟩ = some (.int .i64 0) ∧ W.cell? ⟨w.heap.size + 1 + 1, 2, none⟩ = some (.int .i64 0) from fun W Q => ⟨cellBelow Q (by omega) (by simp [go_sem]), cellBelow Q (by omega) (by simp [go_sem]), cellBelow Q (by omega) (by simp [go_sem]), cellBelow Q (by omega) (by simp [go_sem]), cellBelow Q (by omega) (by simp [go_sem]), cellBelow Q (by omega) (by simp [go_sem]), cellBelow Q (by omega) (by simp [go_sem]), cellBelow Q (by omega) (by simp [go_sem]), cellBelow Q (by omega) (by simp [go_sem]), cellBelow Q (by omega) (by simp [go_sem])⟩)
  generalize w3.alloc (.cells #[.slice A3 l.length c3] 73) = w4 at *
  clear hc1 hc2 hc3 hz1 hz2 hz3 q1' q2' q3' q1 q3 q0
  have CL4 := CELLS.out w4 Q4
  refine wp_region_tame (by kernel_rfl) (by kernel_rfl) ?_
  have ml := fun s : InW w4 => meth_len s.W w3.heap.size l.length c3 A3 (H3.out.below s.h).cell
  have mc := fun s : InW w4 => s.cell (by omega) CL4.2.1
  clear CL4
  repeat (go_big_quiet_step (first | (go_at_call 114; exact tame_same (qLen_any _ _ _ _))))
  refine wpQuiet_nil ?_
  rintro _ ⟨s, rfl⟩
  obtain ⟨w5, q5⟩ := s
  dsimp only
  have q5' := below_next q4' q4'.size q5
  have Q5 := Q4.trans (q5.mono (by omega))
  obtain ⟨d1, d2, d3, d4, d5, d6, d7, d8, d9, d10⟩ := CELLS.out w5 Q5
  have hfz : ∀ b o, b < w.heap.size + 3 → w5.frozen? ⟨b, o, none⟩ = _ := fun b o h => Q5.frozen (p := ⟨b, o, none⟩) h
  clear ml mc H3 q4' q5 Q4
  go_wp2
  refine bodyPost_ret (v := .tuple #[.agg #[.slice none 0 0, .int .i64 0, .int .i64 0], .int .i64 20]) (by simp [results, Tryd.results23, go_sem, d8, d9, d10]) rfl ⟨rfl, ?_⟩
  exact ((q5'.setCell (by simp; omega) _).setCell (by simp; omega) _).setCell (by simp; omega) _

def zBx : Bx := ⟨0, ⟨0, false, false, 0, ⟨#[]⟩⟩, 0⟩
/-- What Best answers. -/
def bestA (l : List Bx) (seq cap : Int) : Bx × Int := if rightBx l seq cap = false then (zBx, 1) else if l.length = 0 then (zBx, 21) else (at' l 0, 0)
def BestV (b : Bx) (n : Int) (w : World) (e : Ending) (w' : World) : Prop := e = .returned (.tuple #[.agg #[.int .i64 b.h, .int .u32 b.f.id, .bool b.f.ext, .bool b.f.rem, .int .i64 b.f.dlc, .string b.f.data, .int .i64 b.s], .int .i64 n]) ∧ Below w.heap.size w w'

set_option maxRecDepth 100000 in
set_option maxHeartbeats 2000000 in
theorem best_any (l : List Bx) (A : Option Addr) (c : Nat) (seq cap : Int) (w : World) (hr : BxR w w.heap.size A l) (hl : l.length ≤ 1000) (hcl : l.length ≤ c) (hid : ∀ x ∈ l, x.f.id < 4294967296) :
    Calls Tryd.prog 33 #[.agg #[.slice A l.length c, .int .i64 seq, .int .i64 cap]] w (BestV (bestA l seq cap).1 (bestA l seq cap).2 w) := by
  have RI := hide (fun W (q : Below w.heap.size w W) => bxRight_any l A c seq cap W (hr.next q q.size) hl hcl hid)
  have q0 : Below w.heap.size w ((w.alloc (.cells #[.slice A l.length c, .int .i64 seq, .int .i64 cap] 29)).alloc (.cells #[.int .i64 0, .int .u32 0, .bool false, .bool false, .int .i64 0, .string ⟨#[]⟩, .int .i64 0] 60)) :=
    ((Below.refl _ _).alloc (Nat.le_refl _) _).alloc (by simp) _
  have HR := hide hr
  clear hr hid
  rcases hR : rightBx l seq cap with _ | _
  · have e : bestA l seq cap = (zBx, 1) := by unfold bestA; rw [if_pos hR]
    rw [e]
    rw [hR] at RI
    clear e hR
    go_enter Tryd.func33, Tryd.ntmps33
    go_wp2_with fail
    (with_reducible refine (RI.out _ q0).mono ?_)
    rintro e1 w1 ⟨rfl, q1⟩
    have q1' := below_next q0 q0.size q1
    obtain ⟨hc1, hz1⟩ := bcell q1
    have hf1 : ∀ b o, b < w.heap.size + 2 → w1.frozen? ⟨b, o, none⟩ = _ := fun b o h => q1.frozen (p := ⟨b, o, none⟩) (by simpa using h)
    have z1 : w.heap.size + 1 < w1.heap.size := by simp at hz1; omega
    go_wp2
    refine bodyPost_ret (v := .tuple #[.agg #[.int .i64 0, .int .u32 0, .bool false, .bool false, .int .i64 0, .string ⟨#[]⟩, .int .i64 0], .int .i64 1]) (by simp [results, Tryd.results33, go_sem, hc1]) rfl ⟨rfl, ?_⟩
    exact ((((((q1'.setCell (by simp) _).setCell (by simp) _).setCell (by simp) _).setCell (by simp) _).setCell (by simp) _).setCell (by simp) _).setCell (by simp) _
  · rw [hR] at RI
    by_cases h0 : l.length = 0
    · have e : bestA l seq cap = (zBx, 21) := by unfold bestA; rw [if_neg (by rw [hR]; simp), if_pos h0]
      rw [e]
      rw [h0] at RI ⊢
      rw [h0] at q0
      clear e hR h0
      go_enter Tryd.func33, Tryd.ntmps33
      go_wp2_with fail
      (with_reducible refine (RI.out _ q0).mono ?_)
      rintro e1 w1 ⟨rfl, q1⟩
      have q1' := below_next q0 q0.size q1
      obtain ⟨hc1, hz1⟩ := bcell q1
      have hf1 : ∀ b o, b < w.heap.size + 2 → w1.frozen? ⟨b, o, none⟩ = _ := fun b o h => q1.frozen (p := ⟨b, o, none⟩) (by simpa using h)
      have z1 : w.heap.size + 1 < w1.heap.size := by simp at hz1; omega
      have z0 : w.heap.size < w1.heap.size := by omega
      go_wp2
      refine bodyPost_ret (v := .tuple #[.agg #[.int .i64 0, .int .u32 0, .bool false, .bool false, .int .i64 0, .string ⟨#[]⟩, .int .i64 0], .int .i64 21]) (by simp [results, Tryd.results33, go_sem, hc1]) rfl ⟨rfl, ?_⟩
      exact ((((((q1'.setCell (by simp) _).setCell (by simp) _).setCell (by simp) _).setCell (by simp) _).setCell (by simp) _).setCell (by simp) _).setCell (by simp) _
    · have hlt : 0 < l.length := by omega
      have e : bestA l seq cap = (l[0], 0) := by unfold bestA; rw [if_neg (by rw [hR]; simp), if_neg h0, HP.at_lt hlt]
      rw [e]
      have hz : ((l.length : Int) == 0) = false := by rw [beq_eq_false_iff_ne]; omega
      obtain ⟨b, off, rfl, hb, _⟩ := HR.out.at_ hlt
      have hli : (0 : Int) < (l.length : Int) := by omega
      clear e hR h0
      go_enter Tryd.func33, Tryd.ntmps33
      go_wp2_with fail
      (with_reducible refine (RI.out _ q0).mono ?_)
      rintro e1 w1 ⟨rfl, q1⟩
      have q1' := below_next q0 q0.size q1
      obtain ⟨_, c0, c1, c2, c3, c4, c5, c6⟩ := (HR.out.next q1' q1'.size).at2 hlt
      simp only [Nat.zero_mul, Nat.add_zero] at c0 c1 c2 c3 c4 c5 c6
      obtain ⟨hc1, hz1⟩ := bcell q1
      have hf1 : ∀ b o, b < w.heap.size + 2 → w1.frozen? ⟨b, o, none⟩ = _ := fun b o h => q1.frozen (p := ⟨b, o, none⟩) (by simpa using h)
      have z1 : w.heap.size + 1 < w1.heap.size := by simp at hz1; omega
      have z0 : w.heap.size < w1.heap.size := by omega
      go_wp2
      refine bodyPost_ret (v := .tuple #[.agg #[.int .i64 l[0].h, .int .u32 l[0].f.id, .bool l[0].f.ext, .bool l[0].f.rem, .int .i64 l[0].f.dlc, .string l[0].f.data, .int .i64 l[0].s], .int .i64 0]) (by simp [results, Tryd.results33, go_sem, hc1]) rfl ⟨rfl, ?_⟩
      exact ((((((q1'.setCell (by simp) _).setCell (by simp) _).setCell (by simp) _).setCell (by simp) _).setCell (by simp) _).setCell (by simp) _).setCell (by simp) _
end Go.Proofs.YtkfedgjepiljiaaDoor
