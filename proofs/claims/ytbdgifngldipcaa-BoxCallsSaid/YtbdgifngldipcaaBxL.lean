/- box.Drop. -/
import Derived.Test.YtbdgifngldipcaaBxK
namespace Go.Proofs.Ytbdgifngldipcaa
open Go.ChangeShapes Go.WideShapes Go.ChangeAt Go.RowKit
open FP (Fr)
open HP (kB at' Hp UpI DnI)

set_option maxRecDepth 100000 in
theorem drop1_any (x : Bx) (s : Int) (bb : Nat) (w : World) (hb : bb < w.heap.size) (hc : w.cell? ⟨bb, 0, none⟩ = some (.int .i64 s)) :
    Calls Try.prog 69 #[.agg #[.int .i64 x.h, .int .u32 x.f.id, .bool x.f.ext, .bool x.f.rem, .int .i64 x.f.dlc, .string x.f.data, .int .i64 x.s], .pointer (some ⟨bb, 0, none⟩)] w fun e w' => e = .returned (.bool (x.h == s)) ∧ Below w.heap.size w w' := by
  obtain ⟨h, ⟨id, ext, rem, dlc, data⟩, s'⟩ := x
  dsimp only at *
  have q0 : Below w.heap.size w (w.alloc (.cells #[.int .i64 h, .int .u32 id, .bool ext, .bool rem, .int .i64 dlc, .string data, .int .i64 s'] 70)) := (Below.refl _ _).alloc (Nat.le_refl _) _
  go_enter Try.func69, Try.ntmps69
  go_wp2
  go_ret
  exact ⟨rfl, q0⟩

/-- What Drop's last loads ask. -/
def drR (a b : Nat) (cs : List Value) (v : Value) : Nat → World → Prop
  | 0, W => W.rangeAt a 0 cs
  | 2, W => W.cell? ⟨b, 0, none⟩ = some v
  | _, _ => True
theorem drR_all {a b : Nat} {cs : List Value} {v : Value} {W : World} (h0 : W.rangeAt a 0 cs) (h1 : W.cell? ⟨b, 0, none⟩ = some v) (j : Nat) : drR a b cs v j W := by
  unfold drR
  split
  · exact h0
  · exact h1
  · trivial
theorem drR_other {a b : Nat} {cs : List Value} {v : Value} {W : World} {j : Nat} (h0 : j ≠ 0) (h2 : j ≠ 2) : drR a b cs v j W := by
  unfold drR
  split <;> simp_all
def NoDrop (w : World) (e : Ending) (w' : World) : Prop := e = .returned (.tuple #[.agg #[.slice none 0 0, .int .i64 0, .int .i64 0], .int .i64 0, .int .i64 1]) ∧ Below w.heap.size w w'

set_option maxRecDepth 100000 in
set_option maxHeartbeats 2000000 in
theorem drop_bad (l : List Bx) (A : Option Addr) (c : Nat) (seq cap handle : Int) (w : World) (hr : BxR w w.heap.size A l) (hl : l.length ≤ 1000) (hcl : l.length ≤ c) (hid : ∀ x ∈ l, x.f.id < 4294967296) (hR : rightBx l seq cap = false) :
    Calls Try.prog 45 #[.agg #[.slice A l.length c, .int .i64 seq, .int .i64 cap], .int .i64 handle] w (NoDrop w) := by
  have RI := hide (fun W (q : Below w.heap.size w W) => bxRight_any l A c seq cap W (hr.next q q.size) hl hcl hid)
  rw [hR] at RI
  have q0 : Below w.heap.size w (((w.alloc (.cells #[.slice A l.length c, .int .i64 seq, .int .i64 cap] 65)).alloc (.cells #[.int .i64 handle] 3)).alloc (.cells #[.slice none 0 0, .int .i64 0, .int .i64 0] 65)) :=
    (((Below.refl _ _).alloc (Nat.le_refl _) _).alloc (by simp) _).alloc (by simp; omega) _
  clear hr hid hR
  go_enter Try.func45, Try.ntmps45
  go_wp2_with fail
  (with_reducible refine (RI.out _ q0).mono ?_)
  rintro e1 w1 ⟨rfl, q1⟩
  have q1' := below_next q0 q0.size q1
  obtain ⟨hc1, hz1⟩ := bcell q1
  have hf1 : ∀ b o, b < w.heap.size + 3 → w1.frozen? ⟨b, o, none⟩ = _ := fun b o h => q1.frozen (p := ⟨b, o, none⟩) (by simpa using h)
  have z1 : w.heap.size + 1 + 1 < w1.heap.size := by simp at hz1; omega
  go_wp2
  refine bodyPost_ret (v := .tuple #[.agg #[.slice none 0 0, .int .i64 0, .int .i64 0], .int .i64 0, .int .i64 1]) (by simp [results, Try.results45, go_sem, hc1]) rfl ⟨rfl, ?_⟩
  repeat (first | ((with_reducible refine Below.setCell ?_ ?_ _); rotate_left 1; (first | (simp; omega) | simp | omega)) | ((with_reducible refine Below.alloc ?_ ?_ _); rotate_left 1; (first | (simp; omega) | simp | omega)))
  all_goals exact q1'

def DropV (l : List Bx) (seq cap handle : Int) (w : World) (e : Ending) (w' : World) : Prop :=
  ∃ A c m, e = .returned (.tuple #[.agg #[.slice A m.length c, .int .i64 seq, .int .i64 cap], .int .i64 ((l.length : Int) - m.length), .int .i64 0]) ∧ Own w' w.heap.size 70 7 A c (m.map bxc) ∧ m.Perm (l.filter fun x => !(x.h == handle)) ∧ Hp m 0 m.length ∧ Below w.heap.size w w'

set_option maxRecDepth 100000 in
set_option maxHeartbeats 2000000 in
theorem drop_ok (l : List Bx) (A : Option Addr) (c : Nat) (seq cap handle : Int) (w : World) (hr : BxR w w.heap.size A l) (hcl : l.length ≤ c) (hid : ∀ x ∈ l, x.f.id < 4294967296) (hR : rightBx l seq cap = true) :
    Calls Try.prog 45 #[.agg #[.slice A l.length c, .int .i64 seq, .int .i64 cap], .int .i64 handle] w (DropV l seq cap handle w) := by
  obtain ⟨r1, r2, r3, r4, r5, _⟩ := rightBx_iff.1 hR
  have RI := hide (fun W (q : Below w.heap.size w W) => bxRight_any l A c seq cap W (hr.next q q.size) (by omega) hcl hid)
  rw [hR] at RI
  have q0 : Below w.heap.size w (((w.alloc (.cells #[.slice A l.length c, .int .i64 seq, .int .i64 cap] 65)).alloc (.cells #[.int .i64 handle] 3)).alloc (.cells #[.slice none 0 0, .int .i64 0, .int .i64 0] 65)) :=
    (((Below.refl _ _).alloc (Nat.le_refl _) _).alloc (by simp) _).alloc (by simp; omega) _
  have CL := hide (fun W (q : Below w.heap.size w W) => cloneBx_any l A c W (hr.next q q.size) (by omega))
  have HG := hide (right_good hR hid)
  have CELLS := hide (show ∀ W, Below (w.heap.size + 3) (((w.alloc (.cells #[.slice A l.length c, .int .i64 seq, .int .i64 cap] 65)).alloc (.cells #[.int .i64 handle] 3)).alloc (.cells #[.slice none 0 0, .int .i64 0, .int .i64 0] 65)) W → W.cell? ⟨w.heap.size, 0, none⟩ = some (.slice A l.length c) ∧ W.cell? ⟨w.heap.size, 1, none⟩ = some (.int .i64 seq) ∧ W.cell? ⟨w.heap.size, 2, none⟩ = some (.int .i64 cap) ∧ W.cell? ⟨w.heap.size + 1, 0, none⟩ = some (.int .i64 handle) ∧ W.cell? ⟨w.heap.size + 1 + 1, 0, none⟩ = some (.slice none 0 0) ∧ W.cell? ⟨w.heap.size + 1 + 1, 1, none⟩ = some (.int .i64 0) ∧ W.cell? ⟨w.heap.size + 1 + 1, 2, none⟩ = some (.int .i64 0) from fun W Q => ⟨cellBelow Q (by omega) (by simp [go_sem]), cellBelow Q (by omega) (by simp [go_sem]), cellBelow Q (by omega) (by simp [go_sem]), cellBelow Q (by omega) (by simp [go_sem]), cellBelow Q (by omega) (by simp [go_sem]), cellBelow Q (by omega) (by simp [go_sem]), cellBelow Q (by omega) (by simp [go_sem])⟩)
  clear hr hid hR
  go_enter Try.func45, Try.ntmps45
  go_wp2_with fail
  (with_reducible refine (RI.out _ q0).mono ?_)
  rintro e1 w1 ⟨rfl, q1⟩
  have q1' := below_next q0 q0.size q1
  have z1 : w.heap.size + 3 ≤ w1.heap.size := by have := q1.size; simp at this; omega
  have Q1 : Below (w.heap.size + 3) (((w.alloc (.cells #[.slice A l.length c, .int .i64 seq, .int .i64 cap] 65)).alloc (.cells #[.int .i64 handle] 3)).alloc (.cells #[.slice none 0 0, .int .i64 0, .int .i64 0] 65)) w1 := by simpa using q1
  obtain ⟨d1, d2, d3, d4, d5, d6, d7⟩ := CELLS.out w1 Q1
  clear q1
  go_wp2_with fail
  (with_reducible refine (CL.out _ q1').mono ?_)
  rintro e3 w3 ⟨A3, c3, rfl, o3, q3⟩
  have Q3 := Q1.trans (q3.mono z1)
  have z3 : w.heap.size + 3 ≤ w3.heap.size := by have := q3.size; omega
  have DL := hide (deleteBx_any 69 #[.pointer (some ⟨w.heap.size + 1, 0, none⟩)] (fun x => x.h == handle) (fun _ _ => rfl) w1.heap.size l A3 c3 w3 o3 q3.size (by omega) zBx (fun w => by kernel_rfl)
    (hide (fun f _ w' hw' => drop1_any f handle (w.heap.size + 1) w' (by have := hw'.size; omega) (CELLS.out w' (Q3.trans (hw'.mono z1))).2.2.2.1)))
  have HFG := hide (show GoodB (l.filter fun x => !(x.h == handle)) from fun x hx => HG.out x ((List.mem_filter.1 hx).1))
  have HFL := hide (List.length_filter_le (fun x => !(x.h == handle)) l)
  clear o3 d1 d2 d3 d4 d5 d6 d7
  go_wp2_with fail
  (with_reducible refine DL.out.mono ?_)
  rintro e4 w4 ⟨rfl, o4, q4⟩
  have q4' : Below w1.heap.size w1 w4 := q3.trans q4
  generalize hf : (l.filter fun x => !(x.h == handle)) = f at *
  have HF := hide hf
  clear hf
  have H4 : HQ w1.heap.size w1 w4.heap.size A3 c3 f (w4.alloc (.cells #[.slice A3 f.length c3] 97)) := ⟨World.alloc_heap_new w4 _, o4.alloc _, q4'.alloc q4'.size _, q4'.size⟩
  have hfl := HFL.out
  have INI := hide (hpInit_any _ _ _ _ _ _ _ H4 (by omega) HFG.out)
  have zz4 : w1.heap.size ≤ w4.heap.size := q4'.size
  clear o4 H4 q4 q3
  go_wp2_with fail
  (with_reducible refine INI.out.mono ?_)
  rintro e5 w5 ⟨rfl, A5, c5, m, h5, p5, hp5⟩
  have Q5 := Q1.trans (h5.q.mono z1)
  have qw5 : Below w.heap.size w w5 := q1'.trans (h5.q.mono (by omega))
  obtain ⟨d1, d2, d3, d4, d5, d6, d7⟩ := CELLS.out w5 Q5
  have hf5 : ∀ b o, b < w.heap.size + 3 → w5.frozen? ⟨b, o, none⟩ = _ := fun b o h => Q5.frozen (p := ⟨b, o, none⟩) h
  have hcell := h5.cell
  have hlt5 := h5.lt
  have zz5 : w.heap.size < w5.heap.size := by omega
  have hml := p5.length_eq
  have AB := hide (own_blk h5.own)
  have RD5 := hide h5.own
  have HLE := hide h5.le
  have FIN := hide (And.intro p5 hp5)
  have hmi : (m.length : Int) ≤ (l.length : Int) := by omega
  clear h5 p5 hp5 INI DL hml
  go_wp2_with fail
  have hx1 : w.heap.size ≠ w.heap.size + 1 + 1 := by omega
  have hx2 : w4.heap.size ≠ w.heap.size := by omega
  have hx3 : w4.heap.size ≠ w.heap.size + 1 + 1 := by omega
  have r0 : World.rangeAt (w5.setCell ⟨w.heap.size, 0, none⟩ (.slice A5 m.length c5)).drew w.heap.size 0 [.slice A5 m.length c5, .int .i64 seq, .int .i64 cap] :=
    range_cons (by simp [go_sem, d1]) (range_cons (by simp [go_sem, d2]) (range_cons (by simp [go_sem, d3]) range_nil))
  have c8 : (w5.setCell ⟨w.heap.size, 0, none⟩ (.slice A5 m.length c5)).drew.cell? ⟨w4.heap.size, 0, none⟩ = some (.slice A5 m.length c5) := by
    show (w5.setCell ⟨w.heap.size, 0, none⟩ (.slice A5 m.length c5)).cell? _ = _
    rw [World.cell?_setCell_other _ _ _ _ (by intro e; injection e with e; exact hx2 e.symm)]
    exact hcell
  have t4 : World.there (w5.setCell ⟨w.heap.size, 0, none⟩ (.slice A5 m.length c5)).drew (w.heap.size + 1 + 1) 0 3 :=
    there_of (cs := [.slice none 0 0, .int .i64 0, .int .i64 0]) (range_cons (by simp [go_sem, d5]) (range_cons (by simp [go_sem, d6]) (range_cons (by simp [go_sem, d7]) range_nil))) (fun j => by
      show (w5.setCell ⟨w.heap.size, 0, none⟩ (.slice A5 m.length c5)).frozen? _ = _
      rw [World.frozen?_setCell, hf5 _ _ (by omega)]
      simp [go_sem])
  have qW : Below w.heap.size w (w5.setCell ⟨w.heap.size, 0, none⟩ (.slice A5 m.length c5)).drew := (qw5.setCell (p := ⟨w.heap.size, 0, none⟩) (Nat.le_refl _) _).drew
  have far : ∀ g j, w1.heap.size ≤ g → g < w5.heap.size → (w5.setCell ⟨w.heap.size, 0, none⟩ (.slice A5 m.length c5)).drew.cell? ⟨g, j, none⟩ = w5.cell? ⟨g, j, none⟩ := fun g j h1 h2 => by
    show (w5.setCell ⟨w.heap.size, 0, none⟩ (.slice A5 m.length c5)).cell? _ = _
    rw [World.cell?_setCell_other _ _ _ _ (by intro e; injection e with e; omega)]
  have ow6 : Own (w5.setCell ⟨w.heap.size, 0, none⟩ (.slice A5 m.length c5)).drew w1.heap.size 70 7 A5 c5 (m.map bxc) := (own_setj RD5.out (by omega) 0 _).drew
  have zW : w5.heap.size = (w5.setCell ⟨w.heap.size, 0, none⟩ (.slice A5 m.length c5)).drew.heap.size := by simp [World.setCell]
  clear d1 d2 d3 d4 d5 d6 d7 hf5 hcell qw5
  refine wp_region_S [0, 1, 2, 3, 4] (drR w.heap.size w4.heap.size [.slice A5 m.length c5, .int .i64 seq, .int .i64 cap] (.slice A5 m.length c5)) (by kernel_rfl) ?_
  generalize (w5.setCell ⟨w.heap.size, 0, none⟩ (.slice A5 m.length c5)).drew = W6 at *
  refine wpAnyS_take (i := 0) (v := .agg #[.slice A5 m.length c5, .int .i64 seq, .int .i64 cap]) rfl (by simp) (by kernel_rfl) (by kernel_rfl) (by kernel_rfl) (fun _ _ _ h => h) rfl (fun W h => exec_load W w.heap.size 0 65 _ _ h Try.underlying65 rfl (by kernel_rfl) _ _ (.tmp 2) (by rfl) (by rfl)) (r0) ?_
  refine wpAnyS_take (i := 1) (v := .int .i64 (l.length : Int)) rfl (by simp) (by kernel_rfl) (by kernel_rfl) (by kernel_rfl) (fun _ _ _ h => h) rfl (fun _ _ => rfl) (drR_other (by decide) (by decide)) ?_
  refine wpAnyS_take (i := 2) (v := .slice A5 m.length c5) rfl (by simp) (by kernel_rfl) (by kernel_rfl) (by kernel_rfl) (fun _ _ _ h => h) rfl (fun W (h : W.cell? ⟨w4.heap.size, 0, none⟩ = some (.slice A5 m.length c5)) => by go_simp) (c8) ?_
  go_simp
  refine wpAnyS_take (i := 3) (v := .int .i64 (m.length : Int)) rfl (by simp) (by kernel_rfl) (by kernel_rfl) (by kernel_rfl) (fun _ _ _ h => h) rfl (fun W _ => by go_simp) (drR_other (by decide) (by decide)) ?_
  go_simp
  have hwr : IntKind.i64.wrap ((l.length : Int) - m.length) = (l.length : Int) - m.length := IntWalk.i64_in _ (by omega)
  refine wpAnyS_take (i := 4) (v := .int .i64 ((l.length : Int) - m.length)) rfl (by simp) (by kernel_rfl) (by kernel_rfl) (by kernel_rfl) (fun _ _ _ h => h) rfl (fun W _ => by go_simp) (drR_other (by decide) (by decide)) ?_
  go_simp
  refine wpAnyS_one (i := 5) (by kernel_rfl) ?_
  refine wpOp_do rfl rfl ?_
  refine wp_store_as 65 (.tmp 4) (.tmp 25) rfl (w.heap.size + 1 + 1) 0 [.slice A5 m.length c5, .int .i64 seq, .int .i64 cap] (by rfl) (by rfl) t4 (by kernel_rfl) (by simp [Value.oneCell']) ?_
  intro W7 e7
  have r0' : W7.rangeAt w.heap.size 0 [.slice A5 m.length c5, .int .i64 seq, .int .i64 cap] := by rw [e7]; exact World.rangeAt_setCells_apart (w := W6) r0 _ _ _ (.inl hx1)
  have c8' : W7.cell? ⟨w4.heap.size, 0, none⟩ = some (.slice A5 m.length c5) := by rw [e7, setCells_far hx3]; exact c8
  have s2 : W7.rangeAt (w.heap.size + 1 + 1) 0 [.slice A5 m.length c5, .int .i64 seq, .int .i64 cap] := by rw [e7]; exact World.rangeAt_setCells_same W6 _ _ _ t4
  have z7 : W7.heap.size = W6.heap.size := by rw [e7]; exact setCells_size _ _ _
  have far7 : ∀ g j, g ≠ w.heap.size + 1 + 1 → W7.cell? ⟨g, j, none⟩ = W6.cell? ⟨g, j, none⟩ := fun g j h => by rw [e7]; exact setCells_far h
  have g7 : Below w.heap.size W6 W7 := by rw [e7]; exact below_setCells _ _ _ (by omega)
  refine ⟨keeps_all (by decide) (fun i _ => drR_all r0' c8' i), ?_⟩
  have RD7 := hide (Own.mono (show Own W7 w1.heap.size 70 7 A5 c5 (m.map bxc) by rw [e7]; exact own_setCells (by omega) _ _ _ ow6) (show w.heap.size ≤ w1.heap.size by omega))
  have QW := hide (qW.trans g7)
  clear r0 c8 t4 e7 far far7 g7 qW
  refine wpAnyS_one (i := 6) (by kernel_rfl) ?_
  refine wpOp_do rfl rfl ?_
  go_simp
  refine ⟨keeps_all (by decide) (fun i _ => drR_all r0' c8' i), ?_⟩
  refine wpAnyS_one (i := 7) (by kernel_rfl) ?_
  refine wpOp_do rfl rfl ?_
  go_simp
  refine ⟨keeps_all (by decide) (fun i _ => drR_all r0' c8' i), ?_⟩
  refine wpAnyS_done (by kernel_rfl) ?_ _
  obtain ⟨y0, y1, y2⟩ : W7.cell? ⟨w.heap.size + 1 + 1, 0, none⟩ = some (.slice A5 m.length c5) ∧ W7.cell? ⟨w.heap.size + 1 + 1, 1, none⟩ = some (.int .i64 seq) ∧ W7.cell? ⟨w.heap.size + 1 + 1, 2, none⟩ = some (.int .i64 cap) := ⟨s2 0 _ rfl, s2 1 _ rfl, s2 2 _ rfl⟩
  clear s2 r0' c8'
  go_wp2
  refine bodyPost_ret (v := .tuple #[.agg #[.slice A5 m.length c5, .int .i64 seq, .int .i64 cap], .int .i64 ((l.length : Int) - m.length), .int .i64 0]) (by simp [results, Try.results45, go_sem, y0, y1, y2]) rfl ⟨A5, c5, m, rfl, RD7.out, by rw [HF.out]; exact FIN.out.1, FIN.out.2, QW.out⟩
end Go.Proofs.Ytbdgifngldipcaa
