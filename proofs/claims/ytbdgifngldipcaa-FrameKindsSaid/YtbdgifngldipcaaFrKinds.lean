/- The walk of FrameKinds. -/
import Derived.Test.YtbdgifngldipcaaFrD
import Derived.Test.YtbdgifngldipcaaFrHead
namespace Go.Proofs.Ytbdgifngldipcaa
open Go.ChangeShapes Go.WideShapes Go.ChangeAt Go.RowKit
open FP (bit bitsOf Fr bitB idPart dataPart headF)

theorem bytes_get {l : List UInt8} {i : Nat} {c : UInt8} (h : l[i]? = some c) : ∃ hi : i < (⟨l.toArray⟩ : ByteArray).size, (⟨l.toArray⟩ : ByteArray)[i] = c := by
  have hl : i < l.length := (List.getElem?_eq_some_iff.1 h).1
  refine ⟨by simpa [ByteArray.size] using hl, ?_⟩
  have := (List.getElem?_eq_some_iff.1 h).2
  simpa [ByteArray.getElem_eq_getElem_data] using this

theorem bytes_extract (l : List UInt8) (a b : Nat) : (⟨l.toArray⟩ : ByteArray).extract a b = ⟨(l.extract a b).toArray⟩ := by
  rw [ByteArray.ext_iff]
  simp [ByteArray.data_extract]

set_option maxRecDepth 100000 in
set_option maxHeartbeats 4000000 in
theorem kinds_no (f : Fr) (w : World) (hid : f.id < 4294967296) (hs : f.data.size ≤ maxLen) (hr : FP.rightB (cutF f) = false) :
    Calls Try.prog 6 #[.agg #[.int .u32 f.id, .bool f.ext, .bool f.rem, .int .i64 f.dlc, .string f.data]] w fun e w' => e = .returned (.bool true) ∧ Below w.heap.size w w' := by
  have FEW := hide (fun W => few04_any f W hs)
  have HD := hide (fun W => Head_any (cutF f) W hid)
  have RR := hide (fun W => refRight04_any (cutF f) W hid)
  have V : headV (cutF f) = ⟨#[]⟩ := by unfold headV; rw [hr]; rfl
  have E : headE (cutF f) = 1 := by unfold headE; rw [hr]; rfl
  rw [V, E] at HD
  rw [hr] at RR
  clear V E hr
  obtain ⟨id, ext, rem, dlc, data⟩ := f
  dsimp only [cutF] at *
  generalize data.extract 0 (min data.size 12) = dt at *
  have q0 : Below w.heap.size w (w.alloc (.cells #[.int .u32 id, .bool ext, .bool rem, .int .i64 dlc, .string data] 39)) := (Below.refl _ _).alloc (Nat.le_refl _) _
  go_enter Try.func6, Try.ntmps6
  go_wp2_with fail
  refine (FEW.out _).mono ?_
  rintro e1 w1 ⟨rfl, q1⟩
  have q1' := below_next q0 q0.size q1
  have f0 : ∀ i, w1.frozen? ⟨w.heap.size, i, none⟩ = false := fun i => by rw [q1.frozen (p := ⟨w.heap.size, i, none⟩) (by simp)]; simp [go_sem]
  have c0 : w1.cell? ⟨w.heap.size, 0, none⟩ = some (.int .u32 id) := cellBelow q1 (by simp) (by simp [go_sem])
  have c1 : w1.cell? ⟨w.heap.size, 1, none⟩ = some (.bool ext) := cellBelow q1 (by simp) (by simp [go_sem])
  have c2 : w1.cell? ⟨w.heap.size, 2, none⟩ = some (.bool rem) := cellBelow q1 (by simp) (by simp [go_sem])
  have c3 : w1.cell? ⟨w.heap.size, 3, none⟩ = some (.int .i64 dlc) := cellBelow q1 (by simp) (by simp [go_sem])
  have c4 : w1.cell? ⟨w.heap.size, 4, none⟩ = some (.string data) := cellBelow q1 (by simp) (by simp [go_sem])
  go_wp2_with fail
  generalize hW2 : ((((w1.setCell ⟨w.heap.size, 0, none⟩ (.int .u32 id)).setCell ⟨w.heap.size, 1, none⟩ (.bool ext)).setCell ⟨w.heap.size, 2, none⟩ (.bool rem)).setCell ⟨w.heap.size, 3, none⟩ (.int .i64 dlc)).setCell ⟨w.heap.size, 4, none⟩ (.string dt) = W2 at *
  have q2 : Below w.heap.size w W2 := by rw [← hW2]; exact ((((q1'.setCell (p := ⟨w.heap.size, 0, none⟩) (Nat.le_refl _) _).setCell (p := ⟨w.heap.size, 1, none⟩) (Nat.le_refl _) _).setCell (p := ⟨w.heap.size, 2, none⟩) (Nat.le_refl _) _).setCell (p := ⟨w.heap.size, 3, none⟩) (Nat.le_refl _) _).setCell (p := ⟨w.heap.size, 4, none⟩) (Nat.le_refl _) _
  have d0 : W2.cell? ⟨w.heap.size, 0, none⟩ = some (.int .u32 id) := by rw [← hW2]; simp [go_sem, c0]
  have d1 : W2.cell? ⟨w.heap.size, 1, none⟩ = some (.bool ext) := by rw [← hW2]; simp [go_sem, c1]
  have d2 : W2.cell? ⟨w.heap.size, 2, none⟩ = some (.bool rem) := by rw [← hW2]; simp [go_sem, c2]
  have d3 : W2.cell? ⟨w.heap.size, 3, none⟩ = some (.int .i64 dlc) := by rw [← hW2]; simp [go_sem, c3]
  have d4 : W2.cell? ⟨w.heap.size, 4, none⟩ = some (.string dt) := by rw [← hW2]; simp [go_sem, c4]
  have z2 : w.heap.size < W2.heap.size := by
    rw [← hW2]; have := q1.size; simp [World.setCell] at *; omega
  clear hW2 c0 c1 c2 c3 c4 f0 q1 q1' q0
  refine (HD.out _).mono ?_
  rintro e3 w3 ⟨rfl, q3⟩
  have q3' := below_next q2 q2.size q3
  go_wp2_with fail
  refine (alive04_any w3).mono ?_
  rintro e4 w4 ⟨rfl, q4⟩
  have q4' := below_next q3' q3'.size q4
  have k4 : Below W2.heap.size W2 w4 := below_next q3 q3.size q4
  have g0 := cellBelow k4 z2 d0
  have g1 := cellBelow k4 z2 d1
  have g2 := cellBelow k4 z2 d2
  have g3 := cellBelow k4 z2 d3
  have g4 := cellBelow k4 z2 d4
  go_wp2_with fail
  refine (RR.out _).mono ?_
  rintro e5 w5 ⟨rfl, q5⟩
  go_wp2
  go_ret
  exact ⟨rfl, below_next q4' q4'.size q5⟩

/-- What the law looks at in a short frame's head. -/
theorem short_facts (f : Fr) (hr : FP.rightB f = true) (he : f.ext = false) : ∃ HS : ByteArray, headV f = HS ∧ headE f = 0 ∧ (HS.size : Int) = 19 + 8 * f.data.size ∧
    (∃ h0 : 0 < HS.size, HS[0] = 48) ∧ (∃ h : 12 < HS.size, (((HS[12].toNat : Nat) : Int) == 49) = f.rem) ∧ (∃ h : 13 < HS.size, HS[13] = 48) ∧
    HS.extract 15 19 = ⟨(bitsOf f.dlc.toNat 4).toArray⟩ ∧ FP.numOf (HS.extract 1 12).data.toList = f.id ∧ (HS.extract 1 12).size ≤ 63 ∧ 0 ≤ f.dlc ∧ f.dlc ≤ 8 ∧ f.data.size ≤ 8 := by
  have V : headV f = ⟨(headF f).toArray⟩ := by unfold headV; rw [hr]; rfl
  have E : headE f = 0 := by unfold headE; rw [hr]; rfl
  have L := FP.head_length f
  rw [he] at L
  obtain ⟨a0, a12, a13, a4, a1⟩ := FP.short_at f he
  obtain ⟨i0, b0⟩ := bytes_get a0
  obtain ⟨i12, b12⟩ := bytes_get a12
  obtain ⟨i13, b13⟩ := bytes_get a13
  refine ⟨_, V, E, ?_, ⟨i0, b0⟩, ⟨i12, ?_⟩, ⟨i13, b13⟩, ?_, ?_, ?_, ?_⟩
  · have : (⟨(headF f).toArray⟩ : ByteArray).size = (headF f).length := by simp [ByteArray.size]
    rw [this, L]; simp
  · rw [b12]; cases f.rem <;> rfl
  · rw [bytes_extract, a4]
  · rw [bytes_extract, a1]; exact FP.id_short f hr he
  · rw [bytes_extract, a1]; simp [ByteArray.size, FP.bitsOf_length]
  · simp [FP.rightB, he] at hr
    obtain ⟨⟨⟨_, r1⟩, r2⟩, r3⟩ := hr
    generalize f.data.size = m at *
    cases hrem : f.rem <;> simp [hrem] at r3 <;> omega

set_option maxRecDepth 100000 in
set_option maxHeartbeats 2000000 in
theorem kinds_short (f : Fr) (w : World) (hid : f.id < 4294967296) (hs : f.data.size ≤ maxLen) (hr : FP.rightB (cutF f) = true) (he : f.ext = false) :
    Calls Try.prog 6 #[.agg #[.int .u32 f.id, .bool f.ext, .bool f.rem, .int .i64 f.dlc, .string f.data]] w fun e w' => e = .returned (.bool true) ∧ Below w.heap.size w w' := by
  have FEW := hide (fun W => few04_any f W hs)
  have HD := hide (fun W => Head_any (cutF f) W hid)
  obtain ⟨HS, V, E, hsz, ⟨i0, b0⟩, ⟨i12, b12⟩, ⟨i13, b13⟩, bx, bn, bl, hd0, hd8, hdt⟩ := short_facts (cutF f) hr he
  rw [V, E] at HD
  clear V E hr
  obtain ⟨id, ext, rem, dlc, data⟩ := f
  dsimp only [cutF] at *
  subst he
  generalize data.extract 0 (min data.size 12) = dt at *
  have NUM := hide (fun W => refNumber_any (HS.extract 1 12) bl W)
  rw [bn] at NUM
  clear bn bl
  have OF := hide (fun W => refOf_any dlc 4 dlc.toNat 4 (by omega) rfl (by omega) (by omega) W)
  generalize (⟨(bitsOf dlc.toNat 4).toArray⟩ : ByteArray) = D4 at *
  obtain ⟨I1, hI1⟩ : ∃ I1, HS.extract 1 12 = I1 := ⟨_, rfl⟩
  rw [hI1] at NUM
  have q0 : Below w.heap.size w (w.alloc (.cells #[.int .u32 id, .bool false, .bool rem, .int .i64 dlc, .string data] 39)) := (Below.refl _ _).alloc (Nat.le_refl _) _
  go_enter Try.func6, Try.ntmps6
  go_wp2_with fail
  refine (FEW.out _).mono ?_
  rintro e1 w1 ⟨rfl, q1⟩
  have q1' := below_next q0 q0.size q1
  have f0 : ∀ i, w1.frozen? ⟨w.heap.size, i, none⟩ = false := fun i => by rw [q1.frozen (p := ⟨w.heap.size, i, none⟩) (by simp)]; simp [go_sem]
  have c0 : w1.cell? ⟨w.heap.size, 0, none⟩ = some (.int .u32 id) := cellBelow q1 (by simp) (by simp [go_sem])
  have c1 : w1.cell? ⟨w.heap.size, 1, none⟩ = some (.bool false) := cellBelow q1 (by simp) (by simp [go_sem])
  have c2 : w1.cell? ⟨w.heap.size, 2, none⟩ = some (.bool rem) := cellBelow q1 (by simp) (by simp [go_sem])
  have c3 : w1.cell? ⟨w.heap.size, 3, none⟩ = some (.int .i64 dlc) := cellBelow q1 (by simp) (by simp [go_sem])
  have c4 : w1.cell? ⟨w.heap.size, 4, none⟩ = some (.string data) := cellBelow q1 (by simp) (by simp [go_sem])
  go_wp2_with fail
  generalize hW2 : ((((w1.setCell ⟨w.heap.size, 0, none⟩ (.int .u32 id)).setCell ⟨w.heap.size, 1, none⟩ (.bool false)).setCell ⟨w.heap.size, 2, none⟩ (.bool rem)).setCell ⟨w.heap.size, 3, none⟩ (.int .i64 dlc)).setCell ⟨w.heap.size, 4, none⟩ (.string dt) = W2 at *
  have q2 : Below w.heap.size w W2 := by rw [← hW2]; exact ((((q1'.setCell (p := ⟨w.heap.size, 0, none⟩) (Nat.le_refl _) _).setCell (p := ⟨w.heap.size, 1, none⟩) (Nat.le_refl _) _).setCell (p := ⟨w.heap.size, 2, none⟩) (Nat.le_refl _) _).setCell (p := ⟨w.heap.size, 3, none⟩) (Nat.le_refl _) _).setCell (p := ⟨w.heap.size, 4, none⟩) (Nat.le_refl _) _
  have d0 : W2.cell? ⟨w.heap.size, 0, none⟩ = some (.int .u32 id) := by rw [← hW2]; simp [go_sem, c0]
  have d1 : W2.cell? ⟨w.heap.size, 1, none⟩ = some (.bool false) := by rw [← hW2]; simp [go_sem, c1]
  have d2 : W2.cell? ⟨w.heap.size, 2, none⟩ = some (.bool rem) := by rw [← hW2]; simp [go_sem, c2]
  have d3 : W2.cell? ⟨w.heap.size, 3, none⟩ = some (.int .i64 dlc) := by rw [← hW2]; simp [go_sem, c3]
  have d4 : W2.cell? ⟨w.heap.size, 4, none⟩ = some (.string dt) := by rw [← hW2]; simp [go_sem, c4]
  have z2 : w.heap.size < W2.heap.size := by
    rw [← hW2]; have := q1.size; simp [World.setCell] at *; omega
  clear hW2 c0 c1 c2 c3 c4 f0 q1 q1' q0
  refine (HD.out _).mono ?_
  rintro e3 w3 ⟨rfl, q3⟩
  have q3' := below_next q2 q2.size q3
  have g0 := cellBelow q3 z2 d0
  have g1 := cellBelow q3 z2 d1
  have g2 := cellBelow q3 z2 d2
  have g3 := cellBelow q3 z2 d3
  have g4 := cellBelow q3 z2 d4
  have z3 : w.heap.size < w3.heap.size := by have := q3.size; omega
  have e13 : (((HS[13].toNat : Nat) : Int) == 49) = false := by rw [b13]; rfl
  have e0 : (((HS[0].toNat : Nat) : Int) != 48) = false := by rw [b0]; rfl
  have es : ((HS.size : Int) != 19 + 8 * (dt.size : Int)) = false := by simp [hsz]
  have j0 : (0 : Int) < (HS.size : Int) := by omega
  have j12 : (12 : Int) < (HS.size : Int) := by omega
  have j13 : (13 : Int) < (HS.size : Int) := by omega
  have j19 : (19 : Int) ≤ (HS.size : Int) := by omega
  have k12 : (12 : Int) ≤ (HS.size : Int) := by omega
  have k12' : 12 ≤ HS.size := by omega
  have wa : IntKind.i64.wrap (8 * (dt.size : Int)) = 8 * (dt.size : Int) := IntWalk.i64_in _ (by omega)
  have wb : IntKind.i64.wrap (19 + 8 * (dt.size : Int)) = 19 + 8 * (dt.size : Int) := IntWalk.i64_in _ (by omega)
  have wc : IntKind.i64.wrap 12 = 12 := by rfl
  have wd : IntKind.i64.wrap 15 = 15 := by rfl
  clear b13 b0 q3 q2 d0 d1 d2 d3 d4 FEW HD z2 hsz
  go_wp2_with fail
  have m0 := fun s : InW w3 => s.cell z3 g0
  have m1 := fun s : InW w3 => s.cell z3 g1
  have m2 := fun s : InW w3 => s.cell z3 g2
  have m3 := fun s : InW w3 => s.cell z3 g3
  have m4 := fun s : InW w3 => s.cell z3 g4
  refine wp_region_tame (by kernel_rfl) (by kernel_rfl) ?_
  repeat (go_big_quiet_step (first
    | (go_at_call 24; exact tame_same (OF.out _))
    | (go_at_call 22; exact tame_of (alive04_any _))))
  refine wpQuiet_nil ?_
  rintro _ ⟨s, rfl⟩
  have h0 := m0 s
  have h1 := m1 s
  have h2 := s.h
  clear m0 m1 m2 m3 m4 g0 g1 g2 g3 g4
  go_wp2_with fail
  have n0 := fun t : InW s.W => t.cell (Nat.lt_of_lt_of_le z3 s.h.size) h0
  have wid : IntKind.u64.wrap (id : Int) = (id : Int) := IntWalk.u64_in _ (by omega)
  refine wp_region_tame (by kernel_rfl) (by kernel_rfl) ?_
  repeat (go_big_quiet_step ((go_at_call 25; exact tame_same (NUM.out _))))
  refine wpQuiet_nil ?_
  rintro _ ⟨s2, rfl⟩
  have h3 := s2.h
  go_wp2
  go_ret
  exact ⟨rfl, (q3'.trans (h2.mono (by omega))).trans (h3.mono (by have := h2.size; omega))⟩

/-- What the law looks at in a long frame's head. -/
theorem long_facts (f : Fr) (hr : FP.rightB f = true) (he : f.ext = true) : ∃ HS : ByteArray, headV f = HS ∧ headE f = 0 ∧ (HS.size : Int) = 39 + 8 * f.data.size ∧
    (∃ h0 : 0 < HS.size, HS[0] = 48) ∧ (∃ h : 32 < HS.size, (((HS[32].toNat : Nat) : Int) == 49) = f.rem) ∧ (∃ h : 13 < HS.size, HS[13] = 49) ∧
    HS.extract 35 39 = ⟨(bitsOf f.dlc.toNat 4).toArray⟩ ∧ FP.numOf (HS.extract 1 12 ++ HS.extract 14 32).data.toList = f.id ∧ (HS.extract 1 12 ++ HS.extract 14 32).size ≤ 63 ∧ 0 ≤ f.dlc ∧ f.dlc ≤ 8 ∧ f.data.size ≤ 8 ∧ (HS.extract 1 12).size ≤ 63 ∧ (HS.extract 14 32).size ≤ 63 := by
  have V : headV f = ⟨(headF f).toArray⟩ := by unfold headV; rw [hr]; rfl
  have E : headE f = 0 := by unfold headE; rw [hr]; rfl
  have L := FP.head_length f
  rw [he] at L
  obtain ⟨a0, a13, a32, a4, a1, a2⟩ := FP.long_at f he
  obtain ⟨i0, b0⟩ := bytes_get a0
  obtain ⟨i32, b32⟩ := bytes_get a32
  obtain ⟨i13, b13⟩ := bytes_get a13
  have hcat : ((⟨(headF f).toArray⟩ : ByteArray).extract 1 12 ++ (⟨(headF f).toArray⟩ : ByteArray).extract 14 32) = ⟨(bitsOf (f.id / 262144) 11 ++ bitsOf (f.id % 262144) 18).toArray⟩ := by
    rw [bytes_extract, bytes_extract, a1, a2, ByteArray.ext_iff]
    simp
  refine ⟨_, V, E, ?_, ⟨i0, b0⟩, ⟨i32, ?_⟩, ⟨i13, b13⟩, ?_, ?_, ?_, ?_⟩
  · have : (⟨(headF f).toArray⟩ : ByteArray).size = (headF f).length := by simp [ByteArray.size]
    rw [this, L]; simp
  · rw [b32]; cases f.rem <;> rfl
  · rw [bytes_extract, a4]
  · rw [hcat]; exact FP.id_long f hr he
  · rw [hcat]; simp [ByteArray.size, FP.bitsOf_length]
  · refine ⟨?_, ?_, ?_, by rw [bytes_extract, a1]; simp [ByteArray.size, FP.bitsOf_length], by rw [bytes_extract, a2]; simp [ByteArray.size, FP.bitsOf_length]⟩
    all_goals
      simp [FP.rightB, he] at hr
      obtain ⟨⟨⟨_, r1⟩, r2⟩, r3⟩ := hr
      generalize f.data.size = m at *
      cases hrem : f.rem <;> simp [hrem] at r3 <;> omega

set_option maxRecDepth 100000 in
set_option maxHeartbeats 2000000 in
theorem kinds_long (f : Fr) (w : World) (hid : f.id < 4294967296) (hs : f.data.size ≤ maxLen) (hr : FP.rightB (cutF f) = true) (he : f.ext = true) :
    Calls Try.prog 6 #[.agg #[.int .u32 f.id, .bool f.ext, .bool f.rem, .int .i64 f.dlc, .string f.data]] w fun e w' => e = .returned (.bool true) ∧ Below w.heap.size w w' := by
  have FEW := hide (fun W => few04_any f W hs)
  have HD := hide (fun W => Head_any (cutF f) W hid)
  obtain ⟨HS, V, E, hsz, ⟨i0, b0⟩, ⟨i32, b32⟩, ⟨i13, b13⟩, bx, bn, bl, hd0, hd8, hdt, l1, l2⟩ := long_facts (cutF f) hr he
  rw [V, E] at HD
  clear V E hr
  obtain ⟨id, ext, rem, dlc, data⟩ := f
  dsimp only [cutF] at *
  subst he
  generalize data.extract 0 (min data.size 12) = dt at *
  have NUM := hide (fun W => refNumber_any (HS.extract 1 12 ++ HS.extract 14 32) bl W)
  rw [bn] at NUM
  clear bn bl
  have OF := hide (fun W => refOf_any dlc 4 dlc.toNat 4 (by omega) rfl (by omega) (by omega) W)
  generalize (⟨(bitsOf dlc.toNat 4).toArray⟩ : ByteArray) = D4 at *
  obtain ⟨I1, hI1⟩ : ∃ I1, HS.extract 1 12 = I1 := ⟨_, rfl⟩
  obtain ⟨I2, hI2⟩ : ∃ I2, HS.extract 14 32 = I2 := ⟨_, rfl⟩
  rw [hI1, hI2] at NUM
  rw [hI1] at l1
  rw [hI2] at l2
  have q0 : Below w.heap.size w (w.alloc (.cells #[.int .u32 id, .bool true, .bool rem, .int .i64 dlc, .string data] 39)) := (Below.refl _ _).alloc (Nat.le_refl _) _
  go_enter Try.func6, Try.ntmps6
  go_wp2_with fail
  refine (FEW.out _).mono ?_
  rintro e1 w1 ⟨rfl, q1⟩
  have q1' := below_next q0 q0.size q1
  have f0 : ∀ i, w1.frozen? ⟨w.heap.size, i, none⟩ = false := fun i => by rw [q1.frozen (p := ⟨w.heap.size, i, none⟩) (by simp)]; simp [go_sem]
  have c0 : w1.cell? ⟨w.heap.size, 0, none⟩ = some (.int .u32 id) := cellBelow q1 (by simp) (by simp [go_sem])
  have c1 : w1.cell? ⟨w.heap.size, 1, none⟩ = some (.bool true) := cellBelow q1 (by simp) (by simp [go_sem])
  have c2 : w1.cell? ⟨w.heap.size, 2, none⟩ = some (.bool rem) := cellBelow q1 (by simp) (by simp [go_sem])
  have c3 : w1.cell? ⟨w.heap.size, 3, none⟩ = some (.int .i64 dlc) := cellBelow q1 (by simp) (by simp [go_sem])
  have c4 : w1.cell? ⟨w.heap.size, 4, none⟩ = some (.string data) := cellBelow q1 (by simp) (by simp [go_sem])
  go_wp2_with fail
  generalize hW2 : ((((w1.setCell ⟨w.heap.size, 0, none⟩ (.int .u32 id)).setCell ⟨w.heap.size, 1, none⟩ (.bool true)).setCell ⟨w.heap.size, 2, none⟩ (.bool rem)).setCell ⟨w.heap.size, 3, none⟩ (.int .i64 dlc)).setCell ⟨w.heap.size, 4, none⟩ (.string dt) = W2 at *
  have q2 : Below w.heap.size w W2 := by rw [← hW2]; exact ((((q1'.setCell (p := ⟨w.heap.size, 0, none⟩) (Nat.le_refl _) _).setCell (p := ⟨w.heap.size, 1, none⟩) (Nat.le_refl _) _).setCell (p := ⟨w.heap.size, 2, none⟩) (Nat.le_refl _) _).setCell (p := ⟨w.heap.size, 3, none⟩) (Nat.le_refl _) _).setCell (p := ⟨w.heap.size, 4, none⟩) (Nat.le_refl _) _
  have d0 : W2.cell? ⟨w.heap.size, 0, none⟩ = some (.int .u32 id) := by rw [← hW2]; simp [go_sem, c0]
  have d1 : W2.cell? ⟨w.heap.size, 1, none⟩ = some (.bool true) := by rw [← hW2]; simp [go_sem, c1]
  have d2 : W2.cell? ⟨w.heap.size, 2, none⟩ = some (.bool rem) := by rw [← hW2]; simp [go_sem, c2]
  have d3 : W2.cell? ⟨w.heap.size, 3, none⟩ = some (.int .i64 dlc) := by rw [← hW2]; simp [go_sem, c3]
  have d4 : W2.cell? ⟨w.heap.size, 4, none⟩ = some (.string dt) := by rw [← hW2]; simp [go_sem, c4]
  have z2 : w.heap.size < W2.heap.size := by
    rw [← hW2]; have := q1.size; simp [World.setCell] at *; omega
  clear hW2 c0 c1 c2 c3 c4 f0 q1 q1' q0
  refine (HD.out _).mono ?_
  rintro e3 w3 ⟨rfl, q3⟩
  have q3' := below_next q2 q2.size q3
  have g0 := cellBelow q3 z2 d0
  have g1 := cellBelow q3 z2 d1
  have g2 := cellBelow q3 z2 d2
  have g3 := cellBelow q3 z2 d3
  have g4 := cellBelow q3 z2 d4
  have z3 : w.heap.size < w3.heap.size := by have := q3.size; omega
  have e13 : (((HS[13].toNat : Nat) : Int) == 49) = true := by rw [b13]; rfl
  have e0 : (((HS[0].toNat : Nat) : Int) != 48) = false := by rw [b0]; rfl
  have es : ((HS.size : Int) != 39 + 8 * (dt.size : Int)) = false := by simp [hsz]
  have j0 : (0 : Int) < (HS.size : Int) := by omega
  have j32 : (32 : Int) < (HS.size : Int) := by omega
  have j13 : (13 : Int) < (HS.size : Int) := by omega
  have j39 : (39 : Int) ≤ (HS.size : Int) := by omega
  have k12 : (12 : Int) ≤ (HS.size : Int) := by omega
  have k12' : 12 ≤ HS.size := by omega
  have k32 : (32 : Int) ≤ (HS.size : Int) := by omega
  have wa : IntKind.i64.wrap (8 * (dt.size : Int)) = 8 * (dt.size : Int) := IntWalk.i64_in _ (by omega)
  have wb : IntKind.i64.wrap (39 + 8 * (dt.size : Int)) = 39 + 8 * (dt.size : Int) := IntWalk.i64_in _ (by omega)
  have wc : IntKind.i64.wrap 32 = 32 := by rfl
  have wd : IntKind.i64.wrap 35 = 35 := by rfl
  clear b13 b0 q3 q2 d0 d1 d2 d3 d4 FEW HD z2 hsz
  go_wp2_with fail
  have m0 := fun s : InW w3 => s.cell z3 g0
  have m1 := fun s : InW w3 => s.cell z3 g1
  have m2 := fun s : InW w3 => s.cell z3 g2
  have m3 := fun s : InW w3 => s.cell z3 g3
  have m4 := fun s : InW w3 => s.cell z3 g4
  refine wp_region_tame (by kernel_rfl) (by kernel_rfl) ?_
  repeat (go_big_quiet_step (first
    | (go_at_call 24; exact tame_same (OF.out _))
    | (go_at_call 22; exact tame_of (alive04_any _))))
  refine wpQuiet_nil ?_
  rintro _ ⟨s, rfl⟩
  have h0 := m0 s
  have h1 := m1 s
  have h2 := s.h
  clear m0 m1 m2 m3 m4 g0 g1 g2 g3 g4
  go_wp2_with fail
  have n0 := fun t : InW s.W => t.cell (Nat.lt_of_lt_of_le z3 s.h.size) h0
  have wid : IntKind.u64.wrap (id : Int) = (id : Int) := IntWalk.u64_in _ (by omega)
  refine wp_region_tame (by kernel_rfl) (by kernel_rfl) ?_
  repeat (go_big_quiet_step ((go_at_call 25; exact tame_same (NUM.out _))))
  refine wpQuiet_nil ?_
  rintro _ ⟨s2, rfl⟩
  have h3 := s2.h
  go_wp2
  go_ret
  exact ⟨rfl, (q3'.trans (h2.mono (by omega))).trans (h3.mono (by have := h2.size; omega))⟩
end Go.Proofs.Ytbdgifngldipcaa
