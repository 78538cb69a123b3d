/- Plain: one's own frame that ends in an error. -/
import Derived.Test.YtpfbobcilphncaaGreatDoorMgCsCP
import Derived.Ground.NamesProg
import Derived.Shelf.Strings.Repeat
import Derived.Test.YtpfbobcilphncaaGreatDoorChecked
import Derived.Test.YtpfbobcilphncaaGreatDoorMem
import Derived.Test.YtpfbobcilphncaaGreatDoorCsS
namespace Go.Proofs.YtpfbobcilphncaaGreatDoor
open Go.ChangeShapes Go.WideShapes Go.ChangeAt Go.RowKit
open FP (Fr bitsF bodyF tenF)

/-- Behind the error. -/
def errC (f : Fr) : Cl := { idleC with tc := 8, st := 3, was := true, hard := true, has := true, f := f }
theorem err_14 (f : Fr) (i : Nat) : (mid (idleC.give f) true f i).fail 14 = errC f := by rfl
theorem err_12 (f : Fr) (i : Nat) : (mid (idleC.give f) true f i).fail 12 = errC f := by rfl
/-- The sender behind i bits, the last one of them the error's. -/
def erS (f : Fr) (p i : Nat) : Cl := if i ≤ p then sndS (idleC.give f) f i else errC f
/-- The bit on the bus. -/
def erB (f : Fr) (p : Nat) (a : Nat) (i : Nat) (b : UInt8) : UInt8 := if 0 < a ∧ i = p then 48 else b
theorem er_step {f : Fr} (hr : FP.rightB f = true) {a p i : Nat} (ha : a ≤ 8) (hp : p = (bodyF f).length + 1 + a) (hi : i ≤ p) {b : UInt8} (hb : (if 0 < a then toldF f else bitsF f)[i]? = some b) :
    (erS f p i).samp (erB f p a i b) = ⟨erS f p (i + 1), if i = p then 3 else 0, zFr, if i = p then (if 0 < a then 12 else 14) else 0⟩ := by
  have hl := FP.body_len f
  have e0 : erS f p i = sndS (idleC.give f) f i := if_pos hi
  obtain ⟨b0, hb0, hbit⟩ := bits_some f (i := i) (by omega)
  have hbb : b = if 0 < a then busB f i b0 else b0 := by
    by_cases h : 0 < a
    · rw [if_pos h] at hb ⊢
      rw [told_at f hb0] at hb
      exact (Option.some.inj hb).symm
    · rw [if_neg h] at hb ⊢
      rw [hb0] at hb
      exact (Option.some.inj hb).symm
  rw [e0]
  by_cases hip : i = p
  · have em : sndS (idleC.give f) f i = mid (idleC.give f) true f i := by unfold sndS; rw [if_neg (by omega), if_pos (by omega)]
    have e1 : erS f p (i + 1) = errC f := if_neg (by omega)
    rw [em, e1, if_pos hip, if_pos hip]
    by_cases h : 0 < a
    · have eb : erB f p a i b = 48 := if_pos ⟨h, hip⟩
      rw [eb, if_pos h, mid_form (by omega) (by omega), err_12]
    · have eb : erB f p a i b = b := if_neg (fun q => h q.1)
      have hb49 : b0 = 49 := by rw [bits_tail f (by omega) (by omega)] at hb0; exact (Option.some.inj hb0).symm
      rw [eb, if_neg h, hbb, if_neg h, hb49, mid_ack (by omega) (by decide), err_14]
  · have e1 : erS f p (i + 1) = sndS (idleC.give f) f (i + 1) := if_pos (by omega)
    have eb : erB f p a i b = b := if_neg (fun q => hip q.2)
    have hbus : b = busB f i b0 := by
      rw [hbb]
      by_cases h : 0 < a
      · rw [if_pos h]
      · rw [if_neg h]; unfold busB; rw [if_neg (by omega)]
    have st := (snd_step hr (g := idleC.give f) rfl rfl rfl (i := i) (by omega) hb0).2
    rw [eb, hbus, st, e1, if_neg hip, if_neg hip, if_neg (by omega), if_neg (by omega)]
theorem er_bit {f : Fr} {a p i : Nat} {b : UInt8} (hb : (if 0 < a then toldF f else bitsF f)[i]? = some b) (hi : i < (bitsF f).length) : b = 48 ∨ b = 49 := by
  obtain ⟨b0, hb0, hbit⟩ := bits_some f (i := i) hi
  by_cases h : 0 < a
  · rw [if_pos h, told_at f hb0] at hb
    rw [← Option.some.inj hb]
    exact busB_bit hbit
  · rw [if_neg h, hb0] at hb
    rw [← Option.some.inj hb]
    exact hbit
theorem erC_ok {f : Fr} (hr : FP.rightB f = true) : (errC f).Ok :=
  ⟨rfl, rfl, fun _ => hr, (fun e => by cases e), (by decide : (0 : Int) ≤ 3), (by decide : (3 : Int) ≤ 8), Int.le_refl 0, (by decide : (0 : Int) ≤ topN 3), (fun e => by cases e), fun _ => ⟨rfl, rfl, rfl, rfl, rfl, rfl, rfl, rfl, rfl⟩, (fun e => by cases e)⟩
theorem give_idle {f : Fr} (hr : FP.rightB f = true) : (idleC.give f).Ok :=
  ⟨rfl, rfl, fun _ => hr, (fun e => by cases e), (by decide : (0 : Int) ≤ 1), (by decide : (1 : Int) ≤ 8), Int.le_refl 0, (by decide : (0 : Int) ≤ topN 1), (fun e => by cases e), fun _ => ⟨rfl, rfl, rfl, rfl, rfl, rfl, rfl, rfl, rfl⟩, (fun e => by cases e)⟩
theorem er_ok {f : Fr} (hr : FP.rightB f = true) {p i : Nat} (hp : p < (bitsF f).length) : (erS f p i).Ok := by
  unfold erS
  split
  · exact snd_ok (give_idle hr) hr rfl rfl rfl i (by omega)
  · exact erC_ok hr
/-- The flag of the error. -/
def flS (f : Fr) (k : Nat) : Cl := if k < 6 then { errC f with n := k } else { errC f with st := 4, n := 0 }
theorem fl_step (f : Fr) {k : Nat} (hk : k < 6) : (flS f k).drv = 48 ∧ (flS f k).samp 48 = ⟨flS f (k + 1), 0, zFr, 0⟩ := by
  obtain rfl | rfl | rfl | rfl | rfl | rfl : k = 0 ∨ k = 1 ∨ k = 2 ∨ k = 3 ∨ k = 4 ∨ k = 5 := by omega
  all_goals exact ⟨rfl, rfl⟩
theorem fl_ok {f : Fr} (hr : FP.rightB f = true) : ∀ k, k ≤ 6 → (flS f k).Ok
  | 0, _ => erC_ok hr
  | k + 1, h => by
    have := (fl_ok hr k (by omega)).samp 48 (.inl rfl)
    rw [(fl_step f (by omega)).2] at this
    exact this
theorem run_cons (c : Cl) (b : UInt8) (l : List UInt8) : c.run (b :: l) = (c.samp b).c.run l := rfl
/-- So many recessive bits behind the flag. -/
def ecS (f : Fr) (k : Nat) : Cl := if k = 0 then flS f 6 else if k < 8 then { errC f with st := 5, n := k } else if k < 11 then { errC f with st := 6, n := (k - 8 : Nat) } else { errC f with st := 1 }
theorem ec_step (f : Fr) {k : Nat} (hk : k < 11) : ((ecS f k).samp 49).c = ecS f (k + 1) := by
  obtain rfl | rfl | rfl | rfl | rfl | rfl | rfl | rfl | rfl | rfl | rfl : k = 0 ∨ k = 1 ∨ k = 2 ∨ k = 3 ∨ k = 4 ∨ k = 5 ∨ k = 6 ∨ k = 7 ∨ k = 8 ∨ k = 9 ∨ k = 10 := by omega
  all_goals rfl
theorem ec_run (f : Fr) : ∀ n k, k + n = 11 → (ecS f k).run (List.replicate n 49) = ecS f 11
  | 0, k, h => by rw [show k = 11 by omega]; rfl
  | n + 1, k, h => by rw [List.replicate_succ, run_cons, ec_step f (by omega)]; exact ec_run f n (k + 1) (by omega)
theorem fl_end (f : Fr) : ((flS f 6).run (List.replicate 11 49)).st = 1 ∧ ((flS f 6).run (List.replicate 11 49)).has = true := by
  have h := ec_run f 11 0 rfl
  rw [show ecS f 0 = flS f 6 from rfl] at h
  rw [h]
  exact ⟨rfl, rfl⟩
end Go.Proofs.YtpfbobcilphncaaGreatDoor

/-
  DERIVED: THE SHELF's CONTRACTS AT THIS DUMP, IN PLAIN WORDS (tools/lay-plain.mjs out of 'TryzShelf.lean', which tools/lay-shelf.mjs wrote): THE SAME DECLARATIONS UNDER THE SAME NAMES: 'import', 'namespace', 'open', 'def', 'theorem' AND NOTHING ELSE: no command of the shelf's: FOR A HAND-IN. Each laying: the table of numbers ('.._ren') and one theorem, a field a fact of the dump's own or the kernel's comparison; each contract: ONE APPLICATION.
-/
namespace Go.Proofs
open Go.Shelf
def Tryz.lays105_ren : Go.Shelf.Ren := ⟨fun | 105 => 15 | 212 => 25 | 99 => 26 | 165 => 27 | 166 => 28 | 170 => 29 | 169 => 30 | 263 => 48 | 264 => 49 | 206 => 50 | 240 => 51 | 241 => 52 | 276 => 66 | 277 => 67 | n => n, fun | 9 => 9 | 3 => 3 | 4 => 4 | 20 => 20 | 0 => 0 | 46 => 60 | 109 => 61 | 5 => 5 | 72 => 67 | 76 => 71 | 51 => 22 | 146 => 82 | 53 => 79 | 148 => 84 | 70 => 64 | 37 => 65 | 75 => 70 | 127 => 86 | 164 => 99 | 80 => 74 | n => n, fun | n => n⟩
theorem Tryz.lays105 : Go.Proofs.Lays.n105 Tryz.prog Tryz.lays105_ren := {
  mixed := by kernel_rfl
  f99 := Tryz.func26.trans (congrArg some (by kernel_rfl))
  f105 := Tryz.func15.trans (congrArg some (by kernel_rfl))
  f165 := Tryz.func27.trans (congrArg some (by kernel_rfl))
  f166 := Tryz.func28.trans (congrArg some (by kernel_rfl))
  f169 := Tryz.func30.trans (congrArg some (by kernel_rfl))
  f170 := Tryz.func29.trans (congrArg some (by kernel_rfl))
  f206 := Tryz.func50.trans (congrArg some (by kernel_rfl))
  f212 := Tryz.func25.trans (congrArg some (by kernel_rfl))
  f240 := Tryz.func51.trans (congrArg some (by kernel_rfl))
  f241 := Tryz.func52.trans (congrArg some (by kernel_rfl))
  f263 := Tryz.func48.trans (congrArg some (by kernel_rfl))
  f264 := Tryz.func49.trans (congrArg some (by kernel_rfl))
  f276 := Tryz.func66.trans (congrArg some (by kernel_rfl))
  f277 := Tryz.func67.trans (congrArg some (by kernel_rfl))
  t0 := Tryz.underlying0
  a0 := Tryz.isAgg0
  z0 := Tryz.sizeOf0
  v0 := Tryz.zeroValue0
  t3 := Tryz.underlying3
  a3 := Tryz.isAgg3
  z3 := Tryz.sizeOf3
  v3 := Tryz.zeroValue3
  t4 := Tryz.underlying4
  a4 := Tryz.isAgg4
  z4 := Tryz.sizeOf4
  v4 := Tryz.zeroValue4
  t5 := Tryz.underlying5
  a5 := Tryz.isAgg5
  z5 := Tryz.sizeOf5
  v5 := Tryz.zeroValue5
  t9 := Tryz.underlying9
  a9 := Tryz.isAgg9
  z9 := Tryz.sizeOf9
  v9 := Tryz.zeroValue9
  t20 := Tryz.underlying20
  a20 := Tryz.isAgg20
  z20 := Tryz.sizeOf20
  v20 := Tryz.zeroValue20
  t37 := Tryz.underlying65
  a37 := Tryz.isAgg65
  z37 := Tryz.sizeOf65
  v37 := Tryz.zeroValue65
  t46 := Tryz.underlying60
  a46 := Tryz.isAgg60
  z46 := Tryz.sizeOf60
  v46 := Tryz.zeroValue60
  t51 := Tryz.underlying22
  a51 := Tryz.isAgg22
  z51 := Tryz.sizeOf22
  v51 := Tryz.zeroValue22
  t53 := Tryz.underlying79
  a53 := Tryz.isAgg79
  z53 := Tryz.sizeOf79
  v53 := Tryz.zeroValue79
  t70 := Tryz.underlying64
  a70 := Tryz.isAgg64
  z70 := Tryz.sizeOf64
  v70 := Tryz.zeroValue64
  t72 := Tryz.underlying67
  a72 := Tryz.isAgg67
  z72 := Tryz.sizeOf67
  v72 := Tryz.zeroValue67
  t75 := Tryz.underlying70
  a75 := Tryz.isAgg70
  z75 := Tryz.sizeOf70
  v75 := Tryz.zeroValue70
  t76 := Tryz.underlying71
  a76 := Tryz.isAgg71
  z76 := Tryz.sizeOf71
  v76 := Tryz.zeroValue71
  t109 := Tryz.underlying61
  a109 := Tryz.isAgg61
  z109 := Tryz.sizeOf61
  v109 := Tryz.zeroValue61
  t127 := Tryz.underlying86
  a127 := Tryz.isAgg86
  z127 := Tryz.sizeOf86
  v127 := Tryz.zeroValue86
  t146 := Tryz.underlying82
  a146 := Tryz.isAgg82
  z146 := Tryz.sizeOf82
  v146 := Tryz.zeroValue82
  t148 := Tryz.underlying84
  a148 := Tryz.isAgg84
  z148 := Tryz.sizeOf84
  v148 := Tryz.zeroValue84
  t164 := Tryz.underlying99
  a164 := Tryz.isAgg99
  z164 := Tryz.sizeOf99
  v164 := Tryz.zeroValue99 }
theorem Tryz.Builder_Extra_105 : Builder.Extra Tryz.prog Tryz.lays105_ren := {
  sizeBuilder := by kernel_rfl
  liesBuilder := by kernel_rfl
  t5 := Tryz.underlying5
  a5 := Tryz.isAgg5
  z5 := Tryz.sizeOf5
  v5 := Tryz.zeroValue5
  infoByte := by kernel_rfl
  cellsByte := by kernel_rfl
  sizeByte := by kernel_rfl
  neB5 := by decide }
end Go.Proofs

/- strings.Repeat of one byte. -/
namespace Go.Proofs.YtpfbobcilphncaaGreatDoor
open Go.ChangeShapes Go.WideShapes Go.ChangeAt Go.RowKit

theorem repeat_one (c : UInt8) (n : Nat) : Lib.repeatL [c] n = List.replicate n c := by
  induction n with
  | zero => rfl
  | succ n ih => rw [Lib.repeatL, ih, List.replicate_succ]; rfl

theorem repeat_any (c : UInt8) (n : Nat) (w : World) (hn : n ≤ 1000) :
    Calls Tryz.prog 15 #[.string ⟨#[c]⟩, .int .i64 n] w fun e w' => e = .returned (.string ⟨(List.replicate n c).toArray⟩) ∧ Below w.heap.size w w' := by
  have h := Any.strings_Repeat Tryz.lays105 Tryz.Builder_Extra_105 ⟨#[c]⟩ n w (by omega) (by show 1 * n ≤ 140737488355328; omega)
  have e : Lib.repeatL (⟨#[c]⟩ : ByteArray).data.toList n = List.replicate n c := repeat_one c n
  rw [e] at h
  exact h
end Go.Proofs.YtpfbobcilphncaaGreatDoor

/- The walk of campanilelaw07.CtlErrs. -/
namespace Go.Proofs.YtpfbobcilphncaaGreatDoor
open Go.ChangeShapes Go.WideShapes Go.ChangeAt Go.RowKit
open FP (Fr bitsF bodyF)

theorem tmod9 (a : Int) : ∃ A : Nat, (wrap64 (a.tmod 9 + 9)).tmod 9 = (A : Int) ∧ A ≤ 8 := by
  have h : -8 ≤ a.tmod 9 ∧ a.tmod 9 ≤ 8 := by
    rw [Int.tmod_eq_emod]
    split <;> omega
  have hw : wrap64 (a.tmod 9 + 9) = a.tmod 9 + 9 := IntWalk.wrap64_in _ (by omega)
  have h2 : (a.tmod 9 + 9).tmod 9 = (a.tmod 9 + 9) % 9 := Int.tmod_eq_emod_of_nonneg (by omega)
  rw [hw, h2]
  exact ⟨((a.tmod 9 + 9) % 9).toNat, by omega, by omega⟩

set_option maxRecDepth 100000 in
set_option maxHeartbeats 64000000 in
theorem ctlErrs_walk (f : Fr) (a : Int) (w : World) (hid : f.id < 4294967296) (hs : f.data.size ≤ maxLen) : Calls Tryz.prog 3 #[.agg (frc f).toArray, .int .i64 a] w fun e w' => e = .returned (.bool true) ∧ Below w.heap.size w w' := by
  obtain ⟨w0, hw0⟩ : ∃ w0, w0 = w.alloc (.cells (frc f).toArray 24) := ⟨_, rfl⟩
  have B0 := hide (World.alloc_heap_new w (.cells (frc f).toArray 24))
  have Q0 : Hid (Below w.heap.size w w0) := by rw [hw0]; exact hide ((Below.refl _ _).alloc (Nat.le_refl _) _)
  rw [← hw0] at B0
  have FW := hide (few07_any f w0 hs)
  clear hs
  go_enter Tryz.func3, Tryz.ntmps3
  go_upto_region 1 with fail
  change Code.wp _ _ _ _ (w.alloc (.cells (frc f).toArray 24))
  rw [← hw0]
  clear hw0
  go_wp2_with (refine wpList_load_row rfl 24 (.tmp 2) (by rfl) w.heap.size (by rfl) 24 (frc f).toArray (0, 0) _ (by exact B0.out) Tryz.underlying24 (by rfl) (by kernel_rfl) ?_)
  (with_reducible refine (FW.out).mono ?_)
  rintro e1 w1 ⟨rfl, q1⟩
  have B1 := hide (heap_below B0.out q1)
  have Q1 := hide (below_next Q0.out Q0.out.size q1)
  have TH := hide (show w1.there w.heap.size 0 5 from there_heap (cs := frc f) B1.out)
  have hid2 : (cut7 f).id < 4294967296 := hid
  clear q1 B0 Q0 FW hid
  generalize cut7 f = g at *
  go_wp2_with (refine wpList_store_hid (by rfl) 24 (.tmp 2) (.tmp 25) (by rfl) w.heap.size 0 (frc g) (by rfl) (by rfl) (by exact TH.out) (by kernel_rfl) (by simp [Value.oneCell', frc]) ?_)
  intro w2 e2
  have G2 := hide (show w2.heap[w.heap.size]? = some (.cells (frc g).toArray 24 (0, 0)) by rw [e2.out]; exact whole_heap (frc g) (xs := frc f) B1.out rfl)
  have Q2 := hide (show Below w.heap.size w w2 by rw [e2.out]; exact Q1.out.trans (below_setCells _ _ _ (Nat.le_refl _)))
  clear e2 TH B1 Q1
  have RY := hide (ready_any w2)
  obtain ⟨c0, hc0⟩ : ∃ c0, c0 = idleC := ⟨_, rfl⟩
  rw [← hc0] at RY
  have HC0 := hide hc0
  clear hc0
  go_wp2_with fail
  (with_reducible refine (RY.out).mono ?_)
  rintro e3 w3 ⟨rfl, q3⟩
  have qa : Below w3.heap.size w3 (w3.alloc (.cells zCl.cs.toArray 31)) := (Below.refl _ _).alloc (Nat.le_refl _) _
  have G3 := hide (heap_below (heap_below G2.out q3) qa)
  have C3 := hide (World.alloc_heap_new w3 (.cells zCl.cs.toArray 31))
  have Q3 := hide (below_next (below_next Q2.out Q2.out.size q3) (below_next Q2.out Q2.out.size q3).size qa)
  have z3 : w.heap.size < w3.heap.size := heap_lt (heap_below G2.out q3)
  have T3 := hide (show (w3.alloc (.cells zCl.cs.toArray 31)).there w3.heap.size 0 23 from there_heap (cs := zCl.cs) C3.out)
  obtain ⟨y, hy⟩ : ∃ y, y = w3.heap.size := ⟨_, rfl⟩
  clear q3 qa G2 Q2 RY
  go_wp2_with (refine wpList_store_hid (by rfl) 31 (.tmp 5) (.tmp 28) (by rfl) w3.heap.size 0 c0.cs (by rfl) (by rfl) (by exact T3.out) (by kernel_rfl) (by simp [Value.oneCell', Cl.cs]) ?_)
  intro w4 e4
  have C4 := hide (show w4.heap[w3.heap.size]? = some (.cells c0.cs.toArray 31 (0, 0)) by rw [e4.out]; exact whole_heap c0.cs (xs := zCl.cs) C3.out rfl)
  have G4 := hide (show w4.heap[w.heap.size]? = some (.cells (frc g).toArray 24 (0, 0)) by rw [e4.out]; exact other_heap (by omega) _ _ _ G3.out)
  have Q4 := hide (show Below w.heap.size w w4 by rw [e4.out]; exact Q3.out.trans (below_setCells _ _ _ (by omega)))
  clear e4 T3 C3 G3 Q3
  rw [← hy] at C4 z3
  have SU := hide (show Calls Tryz.prog 8 #[.agg c0.cs.toArray, .agg (frc g).toArray] w4 _ from ctlSubmit_q c0 g w4 (by rw [HC0.out]; exact idle_q) (by rw [HC0.out]; rfl) hid2)
  simp only [← hy]
  clear hy
  go_wp2_with (first | (refine wpList_load_row rfl 31 (.tmp 5) (by rfl) y (by rfl) 31 c0.cs.toArray (0, 0) _ (by exact C4.out) Tryz.underlying31 (by rfl) (by kernel_rfl) ?_) | (refine wpList_load_row rfl 24 (.tmp 2) (by rfl) w.heap.size (by rfl) 24 (frc g).toArray (0, 0) _ (by exact G4.out) Tryz.underlying24 (by rfl) (by kernel_rfl) ?_))
  (with_reducible refine (SU.out).mono ?_)
  rintro e5 w5 ⟨hsub, q5⟩
  have C5 := hide (heap_below C4.out q5)
  have G5 := hide (heap_below G4.out q5)
  have Q5 := hide (below_next Q4.out Q4.out.size q5)
  have T5 := hide (show w5.there y 0 23 from there_heap (cs := c0.cs) C5.out)
  have RR := hide (fun W => show Calls Tryz.prog 10 #[.agg (frc g).toArray] W fun e w' => e = .returned (.bool (FP.rightB g)) ∧ Below W.heap.size W w' from refRight04_any g W hid2)
  have AL := hide (fun W => alive07_any W)
  clear q5 C4 G4 Q4 SU
  rcases hsub with ⟨hr, rfl⟩ | ⟨hr, rfl⟩
  case inr =>
    rw [hr] at RR
    go_wp2_with (refine wpList_store_hid (by rfl) 31 (.tmp 5) (.tmp 34) (by rfl) y 0 zCl.cs (by rfl) (by rfl) (by exact T5.out) (by kernel_rfl) (by simp [Value.oneCell', Cl.cs]) ?_)
    intro w6 e6
    have G6 := hide (show w6.heap[w.heap.size]? = some (.cells (frc g).toArray 24 (0, 0)) by rw [e6.out]; exact other_heap (by omega) _ _ _ G5.out)
    have Q6 := hide (show Below w.heap.size w w6 by rw [e6.out]; exact Q5.out.trans (below_setCells _ _ _ (by omega)))
    clear e6 T5 C5 G5 Q5
    go_wp2_with fail
    (with_reducible refine (AL.out _).mono ?_)
    rintro e7 w7 ⟨rfl, q7⟩
    have G7 := hide (heap_below G6.out q7)
    have Q7 := hide (below_next Q6.out Q6.out.size q7)
    clear q7 G6 Q6
    go_wp2_with (refine wpList_load_rowG (by kernel_rfl) 24 (.tmp 2) (by rfl) w.heap.size (by rfl) 24 (frc g).toArray (0, 0) _ (by exact G7.out) Tryz.underlying24 (by rfl) (by kernel_rfl) ?_)
    (with_reducible refine (RR.out _).mono ?_)
    rintro e8 w8 ⟨rfl, q8⟩
    have Q8 := hide (below_next Q7.out Q7.out.size q8)
    go_wp2_with fail
    go_ret
    exact ⟨rfl, Q8.out⟩
  case inl =>
  obtain ⟨gc, hgc⟩ : ∃ gc, gc = c0.give g := ⟨_, rfl⟩
  rw [← hgc]
  have HG := hide (show gc = idleC.give g by rw [hgc, HC0.out])
  clear hgc
  go_wp2_with (refine wpList_store_hid (by rfl) 31 (.tmp 5) (.tmp 34) (by rfl) y 0 gc.cs (by rfl) (by rfl) (by exact T5.out) (by kernel_rfl) (by simp [Value.oneCell', Cl.cs]) ?_)
  intro w6 e6
  have C6 := hide (show w6.heap[y]? = some (.cells gc.cs.toArray 31 (0, 0)) by rw [e6.out]; exact whole_heap gc.cs (xs := c0.cs) C5.out rfl)
  have G6 := hide (show w6.heap[w.heap.size]? = some (.cells (frc g).toArray 24 (0, 0)) by rw [e6.out]; exact other_heap (by omega) _ _ _ G5.out)
  have Q6 := hide (show Below w.heap.size w w6 by rw [e6.out]; exact Q5.out.trans (below_setCells _ _ _ (by omega)))
  have RB := hide (fun W => show Calls Tryz.prog 11 #[.agg (frc g).toArray] W fun e w' => e = .returned (.string ⟨(bitsF g).toArray⟩) ∧ Below W.heap.size W w' from refBits_any g W hr)
  obtain ⟨S, hS⟩ : ∃ S : ByteArray, S = ⟨(bitsF g).toArray⟩ := ⟨_, rfl⟩
  rw [← hS] at RB
  have HSL := hide (show S.data.toList = bitsF g by rw [hS])
  clear e6 T5 C5 G5 Q5 hS RR
  go_wp2_with (refine wpList_load_row rfl 24 (.tmp 2) (by rfl) w.heap.size (by rfl) 24 (frc g).toArray (0, 0) _ (by exact G6.out) Tryz.underlying24 (by rfl) (by kernel_rfl) ?_)
  (with_reducible refine (RB.out _).mono ?_)
  rintro e8 w8 ⟨rfl, q8⟩
  have C8 := hide (heap_below C6.out q8)
  have G8 := hide (heap_below G6.out q8)
  have Q8 := hide (below_next Q6.out Q6.out.size q8)
  clear q8 C6 G6 Q6 RB
  have hsz : S.size = (bitsF g).length := by rw [← HSL.out]; exact Array.length_toList.symm
  have HN := hide (show S.size = (bodyF g).length + 10 by rw [hsz]; exact FP.body_len g)
  have HSZ := hide hsz
  have hn2 : S.size ≤ 157 := by have := FP.body_le hr; have := HN.out; omega
  have hn3 : 44 ≤ S.size := by have := FP.body_ge hr; have := HN.out; omega
  clear hsz
  go_upto_region 8 with fail
  go_cut [1] (fun v W => ∃ A : Nat, v = .int .i64 A ∧ A ≤ 8 ∧ W = w8)
  case first =>
    go_wp2_with fail
    go_meet
    obtain ⟨A, hA, hA8⟩ := tmod9 a
    exact ⟨A, by rw [hA], hA8, rfl⟩
  case rest =>
  obtain ⟨A, rfl, hA8, rfl⟩ := hcut
  obtain ⟨P, hP⟩ : ∃ P, P = S.size - 9 + A := ⟨_, rfl⟩
  obtain ⟨m1, hm1⟩ : ∃ m1 : Nat, (S.size : Int) - 9 = m1 := ⟨S.size - 9, by omega⟩
  obtain ⟨m2, hm2⟩ : ∃ m2 : Nat, (S.size : Int) - 8 = m2 := ⟨S.size - 8, by omega⟩
  obtain ⟨TS, hTS⟩ : ∃ TS : ByteArray, TS = if 0 < A then S.extract 0 m1 ++ ⟨#[48]⟩ ++ S.extract m2 S.size else S := ⟨_, rfl⟩
  have HTL := hide (show TS.data.toList = if 0 < A then toldF g else bitsF g by
    rw [hTS]
    split
    · rw [ByteArray.data_append, ByteArray.data_append, Array.toList_append, Array.toList_append, toList_extract, toList_extract, HSL.out, List.extract_eq_take_drop, List.extract_eq_take_drop, List.drop_zero]
      unfold toldF
      have hsz := HSZ.out
      rw [show m1 - 0 = (bitsF g).length - 9 by omega, show m2 = (bitsF g).length - 8 by omega, List.take_of_length_le (l := (bitsF g).drop _) (by rw [List.length_drop]; omega)]
      simp
    · exact HSL.out)
  have HTZ := hide (show TS.size = S.size from by
    have h1 : TS.data.toList.length = TS.size := Array.length_toList
    rw [← h1, HTL.out, HSZ.out]
    split
    · exact told_len g
    · rfl)
  obtain ⟨WB, hWB⟩ : ∃ WB : Int, WB = if 0 < A then 12 else 14 := ⟨_, rfl⟩
  have HTS := hide hTS
  have HWB := hide hWB
  have HP := hide hP
  clear hTS hWB hP
  go_upto_if 55 with fail
  go_cut [8, 10, 11, 55] (fun v8 v10 v11 _ W => v8 = .string TS ∧ v10 = .int .i64 WB ∧ v11 = .int .i64 P ∧ Hid (W.heap[y]? = some (.cells gc.cs.toArray 31 (0, 0))) ∧ Hid (W.heap[w.heap.size]? = some (.cells (frc g).toArray 24 (0, 0))) ∧ Hid (Below w.heap.size w W))
  case first =>
    clear HTL HTZ HSL HSZ HN
    by_cases h0 : 0 < A
    · have e1 := HTS.out
      have e2 := HWB.out
      have e3 := HP.out
      rw [if_pos h0] at e1 e2
      have hd : decide ((0 : Int) < (A : Int)) = true := decide_eq_true (by omega)
      have hml1 : (m1 : Int) ≤ S.size := by omega
      have hml2 : (m2 : Int) ≤ S.size := by omega
      have hm14 : (m1 : Int) ≤ 157 := by omega
      have hm24 : (m2 : Int) ≤ 157 := by omega
      have hPA : (m1 : Int) + (A : Int) = (P : Int) := by omega
      have hP2 : (P : Int) ≤ 157 := by omega
      have E1 := hide e1
      have E2 := hide e2
      clear e1 e2 e3 HTS HWB HP
      go_wp2_with fail
      have hw1 : IntKind.i64.wrap (m1 : Int) = (m1 : Int) := IntWalk.i64_in _ (by omega)
      have hw2 : IntKind.i64.wrap (m2 : Int) = (m2 : Int) := IntWalk.i64_in _ (by omega)
      have hc1 : ¬ 9223372036854775807 < (S.extract 0 m1).size + 1 := by rw [ByteArray.size_extract]; omega
      have hc2 : ¬ 9223372036854775807 < (S.extract 0 m1 ++ ⟨#[48]⟩ : ByteArray).size + (S.extract m2 S.size).size := by rw [ByteArray.size_append, ByteArray.size_extract, ByteArray.size_extract]; show ¬ 9223372036854775807 < _ + 1 + _; omega
      have hc3 : ¬ 9223372036854775807 < min m1 S.size + 1 := by omega
      have hc4 : ¬ 9223372036854775807 < min m1 S.size + 1 + (S.size - m2) := by omega
      refine wp_region_L [0, 1, 2, 3, 4, 5, 6, 7, 8, 9] [] (by kernel_rfl) ?_
      have C9 := hide (show wc.drew.heap[y]? = some (.cells gc.cs.toArray 31 (0, 0)) from C8.out)
      have G9 := hide (show wc.drew.heap[w.heap.size]? = some (.cells (frc g).toArray 24 (0, 0)) from G8.out)
      have Q9 := hide (show Below w.heap.size w wc.drew from Q8.out.drew)
      clear C8 G8 Q8
      generalize wc.drew = wd at *
      refine wpAnyL_pure (i := 0) (v := .string S) rfl rfl (by kernel_rfl) (by kernel_rfl) (by kernel_rfl) (by kernel_rfl) (by kernel_rfl) (fun _ _ _ h => h) rfl (fun W => by go_simp) ?_
      go_simp
      refine wpAnyL_pure (i := 1) (v := .int .i64 S.size) rfl rfl (by kernel_rfl) (by kernel_rfl) (by kernel_rfl) (by kernel_rfl) (by kernel_rfl) (fun _ _ _ h => h) rfl (fun W => by go_simp) ?_
      go_simp
      refine wpAnyL_pure (i := 2) (v := .int .i64 m1) rfl rfl (by kernel_rfl) (by kernel_rfl) (by kernel_rfl) (by kernel_rfl) (by kernel_rfl) (fun _ _ _ h => h) rfl (fun W => by go_simp) ?_
      go_simp
      refine wpAnyL_pure (i := 3) (v := .string (S.extract 0 m1)) rfl rfl (by kernel_rfl) (by kernel_rfl) (by kernel_rfl) (by kernel_rfl) (by kernel_rfl) (fun _ _ _ h => h) rfl (fun W => by go_simp) ?_
      go_simp
      refine wpAnyL_pure (i := 4) (v := .string (S.extract 0 m1 ++ ⟨#[48]⟩)) rfl rfl (by kernel_rfl) (by kernel_rfl) (by kernel_rfl) (by kernel_rfl) (by kernel_rfl) (fun _ _ _ h => h) rfl (fun W => by go_simp) ?_
      go_simp
      refine wpAnyL_pure (i := 5) (v := .string S) rfl rfl (by kernel_rfl) (by kernel_rfl) (by kernel_rfl) (by kernel_rfl) (by kernel_rfl) (fun _ _ _ h => h) rfl (fun W => by go_simp) ?_
      go_simp
      refine wpAnyL_pure (i := 6) (v := .int .i64 S.size) rfl rfl (by kernel_rfl) (by kernel_rfl) (by kernel_rfl) (by kernel_rfl) (by kernel_rfl) (fun _ _ _ h => h) rfl (fun W => by go_simp) ?_
      go_simp
      refine wpAnyL_pure (i := 7) (v := .int .i64 m2) rfl rfl (by kernel_rfl) (by kernel_rfl) (by kernel_rfl) (by kernel_rfl) (by kernel_rfl) (fun _ _ _ h => h) rfl (fun W => by go_simp) ?_
      go_simp
      refine wpAnyL_pure (i := 8) (v := .string (S.extract m2 S.size)) rfl rfl (by kernel_rfl) (by kernel_rfl) (by kernel_rfl) (by kernel_rfl) (by kernel_rfl) (fun _ _ _ h => h) rfl (fun W => by go_simp) ?_
      go_simp
      refine wpAnyL_pure (i := 9) (v := .string (S.extract 0 m1 ++ ⟨#[48]⟩ ++ S.extract m2 S.size)) rfl rfl (by kernel_rfl) (by kernel_rfl) (by kernel_rfl) (by kernel_rfl) (by kernel_rfl) (fun _ _ _ h => h) rfl (fun W => by go_simp) ?_
      go_simp
      refine wpAnyL_one (i := 10) (by kernel_rfl) ?_
      refine wpOp_do rfl rfl ?_
      go_simp
      refine ⟨keepsL_all (by kernel_rfl) (by kernel_rfl), ?_⟩
      refine wpAnyL_done (by kernel_rfl) ?_ _
      go_wp2_with fail
      go_meet
      exact ⟨by rw [E1.out], by rw [E2.out], by first | rfl | simp, C9, G9, Q9⟩
    · have e1 := HTS.out
      have e2 := HWB.out
      have e3 := HP.out
      rw [if_neg h0] at e1 e2
      have hd : decide ((0 : Int) < (A : Int)) = false := decide_eq_false (by omega)
      obtain rfl : A = 0 := by omega
      have hPA : (m1 : Int) = (P : Int) := by omega
      have E1 := hide e1
      have E2 := hide e2
      clear e1 e2 e3 HTS HWB HP
      go_wp2_with fail
      go_meet
      exact ⟨by rw [E1.out], by rw [E2.out], by rw [← hPA], C8, G8, Q8⟩
  case rest =>
  obtain ⟨rfl, rfl, rfl, C9, G9, Q9⟩ := hcut
  clear C8 G8 Q8
  have hP1 : P = (bodyF g).length + 1 + A := by have := HP.out; have := HN.out; omega
  have STEP := hide (fun (i : Nat) (hi : i ≤ P) => show (erS g P i).Ok ∧ ∃ h : i < TS.size, (erB g P A i TS[i] = 48 ∨ erB g P A i TS[i] = 49) ∧ (erS g P i).samp (erB g P A i TS[i]) = ⟨erS g P (i + 1), if i = P then 3 else 0, zFr, if i = P then (if 0 < A then 12 else 14) else 0⟩ from by
    have hN := HN.out
    have hZ := HSZ.out
    have hT := HTZ.out
    have h : i < TS.size := by omega
    have hb : (if 0 < A then toldF g else bitsF g)[i]? = some TS[i] := by rw [← HTL.out]; exact get_some TS i h
    have hbit := er_bit (p := P) hb (by omega)
    refine ⟨er_ok hr (by omega), h, ?_, er_step hr hA8 hP1 hi hb⟩
    unfold erB
    split
    · exact .inl rfl
    · exact hbit)
  have HBB := hide (fun i (b : UInt8) => show erB g P A i b = if 0 < A ∧ i = P then 48 else b from rfl)
  have EG : erS g P 0 = gc := by rw [HG.out]; rfl
  have C := C9
  rw [← EG] at C
  have G := G9
  have Q := Q9
  clear EG C9 G9 Q9
  have hP157 : P ≤ 157 := by have := HP.out; omega
  have ERC := hide (show erS g P (P + 1) = errC g from if_neg (by omega))
  have WBE := hide (HWB.out)
  have OKF := hide (fl_ok (f := g) hr)
  clear HTL HSL HSZ HN HP HTS HG HWB hP1 hm1 hm2
  go_wp2_with fail
  (with_reducible refine (AL.out _).mono ?_)
  rintro ew1' w1' ⟨rfl, qw1'⟩
  replace C := hide (heap_below C.out qw1')
  replace G := hide (heap_below G.out qw1')
  replace Q := hide (below_next Q.out Q.out.size qw1')
  clear qw1'
  clear AL
  go_upto_block 0 with fail
  go_cut [] (fun W => Hid (W.heap[y]? = some (.cells ((errC g).cs).toArray 31 (0, 0))) ∧ Hid (W.heap[w.heap.size]? = some (.cells (frc g).toArray 24 (0, 0))) ∧ Hid (Below w.heap.size w W))
  case first =>
    go_wp2_with fail
    go_loopw [78] (fun vi W => ∃ k : Nat, k ≤ P + 1 ∧ vi = .int .i64 k ∧ Hid (W.heap[y]? = some (.cells ((erS g P k).cs).toArray 31 (0, 0))) ∧ Hid (W.heap[w.heap.size]? = some (.cells (frc g).toArray 24 (0, 0))) ∧ Hid (Below w.heap.size w W)) (fun vi _ => P + 1 - (intOf vi).toNat)
    case atStart => exact ⟨0, Nat.zero_le _, rfl, C, G, Q⟩
    case round =>
      clear C G Q OKF
      obtain ⟨k, hk, rfl, C, G, Q⟩ := hrel
      by_cases hlt : k < P + 1
      · obtain ⟨hok, hkt, hbit, hsamp⟩ := STEP.out k (by omega)
        have hbb := HBB.out k TS[k]
        obtain ⟨bt, hbt⟩ : ∃ bt, bt = erB g P A k TS[k] := ⟨_, rfl⟩
        rw [← hbt] at hbit hsamp hbb
        have SA := hide (fun W => ctlSample_ok (erS g P k) bt hbit W hok)
        rw [hsamp] at SA
        obtain ⟨kd, hkd⟩ : ∃ kd : Int, kd = if k = P then 3 else 0 := ⟨_, rfl⟩
        obtain ⟨bd, hbd⟩ : ∃ bd : Int, bd = if k = P then (if 0 < A then 12 else 14) else 0 := ⟨_, rfl⟩
        rw [← hkd, ← hbd] at SA
        have HKD := hide hkd
        have HBD := hide hbd
        have HBT := hide hbb
        generalize hdk : erS g P k = d at *
        obtain ⟨e2, hd2⟩ : ∃ d2, d2 = erS g P (k + 1) := ⟨_, rfl⟩
        rw [← hd2] at SA
        have HD2 := hide hd2
        clear hok hbit hsamp hkd hbd hbb hbt hdk hd2
        have hki : (k : Int) < (P : Int) + 1 := by omega
        have hkT : (k : Int) < (TS.size : Int) := by omega
        obtain ⟨xb, hxb⟩ : ∃ xb : Bool, xb = decide (0 < A ∧ k = P) := ⟨_, rfl⟩
        have HXB := hide hxb
        clear hxb
        go_upto_region 19 with fail
        go_cut [90] (fun v W => v = .bool xb ∧ W = wr)
        case first =>
          have hb2 := HXB.out
          clear HBT SA HKD HBD HD2 C G Q STEP HBB HXB
          by_cases h0 : 0 < A
          · have hd : decide ((0 : Int) < (A : Int)) = true := decide_eq_true (by omega)
            by_cases h9 : k = P
            · rw [decide_eq_true ⟨h0, h9⟩] at hb2
              subst hb2
              have hq : ((k : Int) == (P : Int)) = true := by rw [beq_iff_eq]; omega
              clear h9
              go_wp2_with fail
              go_meet
              exact ⟨rfl, rfl⟩
            · rw [decide_eq_false (fun q => h9 q.2)] at hb2
              subst hb2
              have hq : ((k : Int) == (P : Int)) = false := by rw [beq_eq_false_iff_ne]; omega
              clear h9
              go_wp2_with fail
              go_meet
              exact ⟨rfl, rfl⟩
          · rw [decide_eq_false (fun q => h0 q.1)] at hb2
            subst hb2
            obtain rfl : A = 0 := by omega
            go_wp2_with fail
            go_meet
            exact ⟨rfl, rfl⟩
        case rest =>
        rename_i hK2 _ hK
        obtain ⟨rfl, rfl⟩ := hcut
        refine hK _ _ ?_
        clear hK
        go_cut [13, 90] (fun v _ W => v = .int .u8 bt.toNat ∧ W = wc)
        case first =>
          have hb2 := HBT.out
          have hx2 := HXB.out
          clear HBT SA HKD HBD HD2 C G Q STEP HBB HXB hK2
          cases xb with
          | true =>
            rw [if_pos (of_decide_eq_true hx2.symm)] at hb2
            subst hb2
            go_wp2_with fail
            go_meet
            exact ⟨rfl, rfl⟩
          | false =>
            rw [if_neg (of_decide_eq_false hx2.symm)] at hb2
            subst hb2
            go_wp2_with fail
            go_meet
            exact ⟨rfl, rfl⟩
        case rest =>
        obtain ⟨rfl, rfl⟩ := hcut
        refine hK2 _ _ ?_
        clear hK2
        go_wp2_with (refine wpList_load_row rfl 31 (.tmp 5) (by rfl) y (by rfl) 31 d.cs.toArray (0, 0) _ (by exact C.out) Tryz.underlying31 (by rfl) (by kernel_rfl) ?_)
        (with_reducible refine (SA.out _).mono ?_)
        rintro ew2' w2' ⟨rfl, qw2'⟩
        replace C := hide (heap_below C.out qw2')
        replace G := hide (heap_below G.out qw2')
        replace Q := hide (below_next Q.out Q.out.size qw2')
        clear qw2'
        clear SA
        have q3' : Below w2'.heap.size w2' ((w2'.alloc (.cells zCl.cs.toArray 31)).alloc (.cells ((evL 0 zFr 0)).toArray 41)) := ((Below.refl _ _).alloc (Nat.le_refl _) _).alloc (by simp) _
        have N7 := heap_below (World.alloc_heap_new w2' (.cells zCl.cs.toArray 31)) ((Below.refl _ _).alloc (Nat.le_refl _) (.cells ((evL 0 zFr 0)).toArray 41))
        have V := World.alloc_heap_new (w2'.alloc (.cells zCl.cs.toArray 31)) (.cells ((evL 0 zFr 0)).toArray 41)
        simp only [World.size_alloc] at V
        have zCx : y < w2'.heap.size := heap_lt C.out
        have zGx : w.heap.size < w2'.heap.size := heap_lt G.out
        replace C := hide (heap_below C.out q3')
        replace G := hide (heap_below G.out q3')
        replace Q := hide (below_next Q.out Q.out.size q3')
        clear q3'
        obtain ⟨w4', hw4'⟩ : ∃ wx, wx = (w2'.alloc (.cells zCl.cs.toArray 31)).alloc (.cells ((evL 0 zFr 0)).toArray 41) := ⟨_, rfl⟩
        rw [← hw4'] at Q C G N7 V
        replace N7 := hide N7
        replace V := hide V
        have Tw5' := hide (show ((w2'.alloc (.cells zCl.cs.toArray 31)).alloc (.cells ((evL 0 zFr 0)).toArray 41)).there w2'.heap.size 0 23 by rw [← hw4']; exact there_heap (cs := zCl.cs) N7.out)
        go_wp2_with (refine wpList_store_hid (by rfl) 31 (.tmp 14) (.tmp 95) (by rfl) w2'.heap.size 0 e2.cs (by rfl) (by rfl) (by exact Tw5'.out) (by kernel_rfl) (by simp [Value.oneCell', Cl.cs]) ?_)
        intro w5' ew5'
        replace ew5' : Hid (w5' = w4'.setCells w2'.heap.size 0 e2.cs) := by rw [hw4']; exact ew5'
        replace C := hide (show w5'.heap[y]? = some (.cells d.cs.toArray 31 (0, 0)) by rw [ew5'.out]; exact other_heap (by omega) _ _ _ C.out)
        replace G := hide (show w5'.heap[w.heap.size]? = some (.cells (frc g).toArray 24 (0, 0)) by rw [ew5'.out]; exact other_heap (by omega) _ _ _ G.out)
        replace V := hide (show w5'.heap[w2'.heap.size + 1]? = some (.cells ((evL 0 zFr 0)).toArray 41 (0, 0)) by rw [ew5'.out]; exact other_heap (by omega) _ _ _ V.out)
        replace Q := hide (show Below w.heap.size w w5' by rw [ew5'.out]; exact Q.out.trans (below_setCells _ _ _ (by have := Q.out.size; omega)))
        replace N7 := hide (show w5'.heap[w2'.heap.size]? = some (.cells e2.cs.toArray 31 (0, 0)) by rw [ew5'.out]; exact whole_heap e2.cs (xs := zCl.cs) N7.out rfl)
        clear ew5' Tw5' hw4'
        have Tw6' := hide (show w5'.there (w2'.heap.size + 1) 0 7 from there_heap (cs := (evL 0 zFr 0)) V.out)
        go_wp2_with (refine wpList_store_hid (by rfl) 41 (.tmp 15) (.tmp 96) (by rfl) (w2'.heap.size + 1) 0 (evL kd zFr bd) (by rfl) (by rfl) (by exact Tw6'.out) (by kernel_rfl) (by simp [Value.oneCell', evL]) ?_)
        intro w6' ew6'
        replace C := hide (show w6'.heap[y]? = some (.cells d.cs.toArray 31 (0, 0)) by rw [ew6'.out]; exact other_heap (by omega) _ _ _ C.out)
        replace G := hide (show w6'.heap[w.heap.size]? = some (.cells (frc g).toArray 24 (0, 0)) by rw [ew6'.out]; exact other_heap (by omega) _ _ _ G.out)
        replace N7 := hide (show w6'.heap[w2'.heap.size]? = some (.cells e2.cs.toArray 31 (0, 0)) by rw [ew6'.out]; exact other_heap (by omega) _ _ _ N7.out)
        replace Q := hide (show Below w.heap.size w w6' by rw [ew6'.out]; exact Q.out.trans (below_setCells _ _ _ (by have := Q.out.size; omega)))
        replace V := hide (show w6'.heap[w2'.heap.size + 1]? = some (.cells (evL kd zFr bd).toArray 41 (0, 0)) by rw [ew6'.out]; exact whole_heap (evL kd zFr bd) (xs := (evL 0 zFr 0)) V.out rfl)
        clear ew6' Tw6'
        generalize w2'.heap.size = x at *
        go_upto_region 22 with fail
        go_cut [119] (fun v W => v = .bool false ∧ W = w6')
        case first =>
          obtain ⟨v0, v1, v2, v3, v4, v5, v6⟩ := ev_cells V.out
          have hk2 := HKD.out
          have he2 := HBD.out
          have hwb := WBE.out
          clear HKD HBD HD2 C G N7 V Q STEP HBB WBE
          by_cases hl : k = P
          · rw [if_pos hl] at hk2 he2
            rw [← hwb] at he2
            subst hk2
            subst he2
            have hq : ((k : Int) == (P : Int)) = true := by rw [beq_iff_eq]; omega
            clear hl hwb
            go_wp2_with fail
            go_meet
            exact ⟨rfl, rfl⟩
          · rw [if_neg hl] at hk2 he2
            subst hk2
            subst he2
            have hq : ((k : Int) == (P : Int)) = false := by rw [beq_eq_false_iff_ne]; omega
            clear hl hwb
            go_wp2_with fail
            go_meet
            exact ⟨rfl, rfl⟩
        case rest =>
        rename_i hK2 _ hK
        obtain ⟨rfl, rfl⟩ := hcut
        refine hK _ _ ?_
        refine wp_cond_false (by rfl) (wp_skip ?_)
        refine hK2 _ _ ?_
        clear hK hK2
        clear V HKD HBD HBT
        have Tw7' := hide (show World.there _ y 0 23 from there_heap (cs := d.cs) C.out)
        go_wp2_with (first | (refine wpList_load_row rfl 31 (.tmp 14) (by rfl) x (by rfl) 31 e2.cs.toArray (0, 0) _ (by exact N7.out) Tryz.underlying31 (by rfl) (by kernel_rfl) ?_) | (refine wpList_store_hid (by rfl) 31 (.tmp 5) (.tmp 120) (by rfl) y 0 e2.cs (by rfl) (by rfl) (by exact Tw7'.out) (by kernel_rfl) (by simp [Value.oneCell', Cl.cs]) ?_))
        intro w7' ew7'
        replace G := hide (show w7'.heap[w.heap.size]? = some (.cells (frc g).toArray 24 (0, 0)) by rw [ew7'.out]; exact other_heap (by omega) _ _ _ G.out)
        replace N7 := hide (show w7'.heap[x]? = some (.cells e2.cs.toArray 31 (0, 0)) by rw [ew7'.out]; exact other_heap (by omega) _ _ _ N7.out)
        replace Q := hide (show Below w.heap.size w w7' by rw [ew7'.out]; exact Q.out.trans (below_setCells _ _ _ (by have := Q.out.size; omega)))
        replace C := hide (show w7'.heap[y]? = some (.cells e2.cs.toArray 31 (0, 0)) by rw [ew7'.out]; exact whole_heap e2.cs (xs := d.cs) C.out rfl)
        clear ew7' Tw7'
        rw [HD2.out] at C
        go_wp2_with fail
        go_roundw
        case rel => exact ⟨k + 1, by omega, by go_num, C, G, Q⟩
        case measure => simp [intOf]; omega
      · obtain rfl : k = P + 1 := by omega
        rw [ERC.out] at C
        go_wp2_with fail
        go_meet
        exact ⟨C, G, Q⟩
  case rest =>
  clear C G Q STEP HBB ERC WBE
  obtain ⟨C, G, Q⟩ := hcut
  obtain ⟨c0', c4', c7', c8', c9', c10', c11', c12', c13'⟩ : wc.cell? ⟨y, 0, none⟩ = some (.int .i64 8) ∧ wc.cell? ⟨y, 4, none⟩ = some (.int .i64 3) ∧ wc.cell? ⟨y, 7, none⟩ = some (.bool true) ∧ wc.cell? ⟨y, 8, none⟩ = some (.bool true) ∧ wc.cell? ⟨y, 9, none⟩ = some (.int .u32 g.id) ∧ wc.cell? ⟨y, 10, none⟩ = some (.bool g.ext) ∧ wc.cell? ⟨y, 11, none⟩ = some (.bool g.rem) ∧ wc.cell? ⟨y, 12, none⟩ = some (.int .i64 g.dlc) ∧ wc.cell? ⟨y, 13, none⟩ = some (.string g.data) := by
    obtain ⟨⟨a0, -⟩, ⟨a4, -, -, a7, a8⟩, ⟨a9, a10, a11, a12, a13⟩, -⟩ := cl_cells C.out
    exact ⟨a0, a4, a7, a8, a9, a10, a11, a12, a13⟩
  obtain ⟨g0', g1', g2', g3', g4'⟩ := frCells G.out
  have CF := hide (show wc.heap[y]? = some (.cells (flS g 0).cs.toArray 31 (0, 0)) from C.out)
  clear C
  have C := CF
  clear CF
  go_upto_block 2 with fail
  clear c0' c4' c7' c8' c9' c10' c11' c12' c13' g0' g1' g2' g3' g4' G
  go_cut [] (fun W => Hid (W.heap[y]? = some (.cells ((flS g 6).cs).toArray 31 (0, 0))) ∧ Hid (Below w.heap.size w W))
  case first =>
    go_wp2_with fail
    go_loopw [147] (fun vi W => ∃ k : Nat, k ≤ 6 ∧ vi = .int .i64 k ∧ Hid (W.heap[y]? = some (.cells ((flS g k).cs).toArray 31 (0, 0))) ∧ Hid (Below w.heap.size w W)) (fun vi _ => 6 - (intOf vi).toNat)
    case atStart => exact ⟨0, Nat.zero_le _, rfl, C, Q⟩
    case round =>
      clear C Q
      obtain ⟨k, hk, rfl, C, Q⟩ := hrel
      by_cases hlt : k < 6
      · have hok := OKF.out k (by omega)
        have st := fl_step g hlt
        obtain ⟨db, hdb⟩ : ∃ db : UInt8, db = 48 := ⟨_, rfl⟩
        have hbit : db = 48 ∨ db = 49 := .inl hdb
        rw [← hdb] at st
        have DR := hide (fun W => ctlDrive_ok (flS g k) W hok)
        have SA := hide (fun W => ctlSample_ok (flS g k) db hbit W hok)
        rw [st.1] at DR
        rw [st.2] at SA
        have HDB := hide hdb
        generalize hdk : flS g k = d at *
        obtain ⟨e2, hd2⟩ : ∃ d2, d2 = flS g (k + 1) := ⟨_, rfl⟩
        rw [← hd2] at SA
        have HD2 := hide hd2
        clear hok st hdk hd2 hdb hbit
        have hki : (k : Int) < 6 := by omega
        go_wp2_with (refine wpList_load_row rfl 31 (.tmp 5) (by rfl) y (by rfl) 31 d.cs.toArray (0, 0) _ (by exact C.out) Tryz.underlying31 (by rfl) (by kernel_rfl) ?_)
        (with_reducible refine (DR.out _).mono ?_)
        rintro ew8' w8' ⟨rfl, qw8'⟩
        replace C := hide (heap_below C.out qw8')
        replace Q := hide (below_next Q.out Q.out.size qw8')
        clear qw8'
        clear DR
        go_wp2_with (refine wpList_load_row rfl 31 (.tmp 5) (by rfl) y (by rfl) 31 d.cs.toArray (0, 0) _ (by exact C.out) Tryz.underlying31 (by rfl) (by kernel_rfl) ?_)
        (with_reducible refine (SA.out _).mono ?_)
        rintro ew9' w9' ⟨rfl, qw9'⟩
        replace C := hide (heap_below C.out qw9')
        replace Q := hide (below_next Q.out Q.out.size qw9')
        clear qw9'
        clear SA
        have q10' : Below w9'.heap.size w9' ((w9'.alloc (.cells zCl.cs.toArray 31)).alloc (.cells ((evL 0 zFr 0)).toArray 41)) := ((Below.refl _ _).alloc (Nat.le_refl _) _).alloc (by simp) _
        have N7 := heap_below (World.alloc_heap_new w9' (.cells zCl.cs.toArray 31)) ((Below.refl _ _).alloc (Nat.le_refl _) (.cells ((evL 0 zFr 0)).toArray 41))
        have V := World.alloc_heap_new (w9'.alloc (.cells zCl.cs.toArray 31)) (.cells ((evL 0 zFr 0)).toArray 41)
        simp only [World.size_alloc] at V
        have zCx : y < w9'.heap.size := heap_lt C.out
        replace C := hide (heap_below C.out q10')
        replace Q := hide (below_next Q.out Q.out.size q10')
        clear q10'
        obtain ⟨w11', hw11'⟩ : ∃ wx, wx = (w9'.alloc (.cells zCl.cs.toArray 31)).alloc (.cells ((evL 0 zFr 0)).toArray 41) := ⟨_, rfl⟩
        rw [← hw11'] at Q C N7 V
        replace N7 := hide N7
        replace V := hide V
        have Tw12' := hide (show ((w9'.alloc (.cells zCl.cs.toArray 31)).alloc (.cells ((evL 0 zFr 0)).toArray 41)).there w9'.heap.size 0 23 by rw [← hw11']; exact there_heap (cs := zCl.cs) N7.out)
        go_wp2_with (refine wpList_store_hid (by rfl) 31 (.tmp 19) (.tmp 158) (by rfl) w9'.heap.size 0 e2.cs (by rfl) (by rfl) (by exact Tw12'.out) (by kernel_rfl) (by simp [Value.oneCell', Cl.cs]) ?_)
        intro w12' ew12'
        replace ew12' : Hid (w12' = w11'.setCells w9'.heap.size 0 e2.cs) := by rw [hw11']; exact ew12'
        replace C := hide (show w12'.heap[y]? = some (.cells d.cs.toArray 31 (0, 0)) by rw [ew12'.out]; exact other_heap (by omega) _ _ _ C.out)
        replace V := hide (show w12'.heap[w9'.heap.size + 1]? = some (.cells ((evL 0 zFr 0)).toArray 41 (0, 0)) by rw [ew12'.out]; exact other_heap (by omega) _ _ _ V.out)
        replace Q := hide (show Below w.heap.size w w12' by rw [ew12'.out]; exact Q.out.trans (below_setCells _ _ _ (by have := Q.out.size; omega)))
        replace N7 := hide (show w12'.heap[w9'.heap.size]? = some (.cells e2.cs.toArray 31 (0, 0)) by rw [ew12'.out]; exact whole_heap e2.cs (xs := zCl.cs) N7.out rfl)
        clear ew12' Tw12' hw11'
        have Tw13' := hide (show w12'.there (w9'.heap.size + 1) 0 7 from there_heap (cs := (evL 0 zFr 0)) V.out)
        go_wp2_with (refine wpList_store_hid (by rfl) 41 (.tmp 20) (.tmp 159) (by rfl) (w9'.heap.size + 1) 0 (evL 0 zFr 0) (by rfl) (by rfl) (by exact Tw13'.out) (by kernel_rfl) (by simp [Value.oneCell', evL]) ?_)
        intro w13' ew13'
        replace C := hide (show w13'.heap[y]? = some (.cells d.cs.toArray 31 (0, 0)) by rw [ew13'.out]; exact other_heap (by omega) _ _ _ C.out)
        replace N7 := hide (show w13'.heap[w9'.heap.size]? = some (.cells e2.cs.toArray 31 (0, 0)) by rw [ew13'.out]; exact other_heap (by omega) _ _ _ N7.out)
        replace Q := hide (show Below w.heap.size w w13' by rw [ew13'.out]; exact Q.out.trans (below_setCells _ _ _ (by have := Q.out.size; omega)))
        replace V := hide (show w13'.heap[w9'.heap.size + 1]? = some (.cells (evL 0 zFr 0).toArray 41 (0, 0)) by rw [ew13'.out]; exact whole_heap (evL 0 zFr 0) (xs := (evL 0 zFr 0)) V.out rfl)
        clear ew13' Tw13'
        generalize w9'.heap.size = x at *
        go_upto_region 32 with fail
        go_cut [170] (fun v W => v = .bool false ∧ W = w13')
        case first =>
          have hdb2 := HDB.out
          clear HDB HD2 C N7 V Q OKF
          subst hdb2
          go_wp2_with fail
          go_meet
          exact ⟨rfl, rfl⟩
        case rest =>
        rename_i hK2 _ hK
        obtain ⟨rfl, rfl⟩ := hcut
        refine hK _ _ ?_
        refine wp_cond_false (by rfl) (wp_skip ?_)
        refine hK2 _ _ ?_
        clear hK hK2 V HDB
        have Tw14' := hide (show World.there _ y 0 23 from there_heap (cs := d.cs) C.out)
        go_wp2_with (first | (refine wpList_load_row rfl 31 (.tmp 19) (by rfl) x (by rfl) 31 e2.cs.toArray (0, 0) _ (by exact N7.out) Tryz.underlying31 (by rfl) (by kernel_rfl) ?_) | (refine wpList_store_hid (by rfl) 31 (.tmp 5) (.tmp 171) (by rfl) y 0 e2.cs (by rfl) (by rfl) (by exact Tw14'.out) (by kernel_rfl) (by simp [Value.oneCell', Cl.cs]) ?_))
        intro w14' ew14'
        replace N7 := hide (show w14'.heap[x]? = some (.cells e2.cs.toArray 31 (0, 0)) by rw [ew14'.out]; exact other_heap (by omega) _ _ _ N7.out)
        replace Q := hide (show Below w.heap.size w w14' by rw [ew14'.out]; exact Q.out.trans (below_setCells _ _ _ (by have := Q.out.size; omega)))
        replace C := hide (show w14'.heap[y]? = some (.cells e2.cs.toArray 31 (0, 0)) by rw [ew14'.out]; exact whole_heap e2.cs (xs := d.cs) C.out rfl)
        clear ew14' Tw14'
        rw [HD2.out] at C
        go_wp2_with fail
        go_roundw
        case rel => exact ⟨k + 1, by omega, by go_num, C, Q⟩
        case measure => simp [intOf]; omega
      · obtain rfl : k = 6 := by omega
        go_wp2_with fail
        go_meet
        exact ⟨C, Q⟩
  case rest =>
  clear C Q
  obtain ⟨C, Q⟩ := hcut
  obtain ⟨R11, hR11⟩ : ∃ R11 : ByteArray, R11 = ⟨(List.replicate 11 (49 : UInt8)).toArray⟩ := ⟨_, rfl⟩
  have RP := hide (fun W => show Calls Tryz.prog 15 #[.string ⟨#[49]⟩, .int .i64 11] W fun e w' => e = .returned (.string R11) ∧ Below W.heap.size W w' from by rw [hR11]; exact repeat_any 49 11 W (by decide))
  obtain ⟨RS, hRS⟩ : ∃ RS, RS = (flS g 6).run (List.replicate 11 49) := ⟨_, rfl⟩
  have FD := hide (fun W => show Calls Tryz.prog 14 #[.agg (flS g 6).cs.toArray, .string R11] W fun e w' => e = .returned (.tuple #[.agg RS.cs.toArray, .bool true]) ∧ Below W.heap.size W w' from by
    have h := feed_any (flS g 6) R11 W (OKF.out 6 (by omega)) (by rw [hR11]; decide) (by rw [hR11]; decide)
    rw [hRS]
    rw [show R11.data.toList = List.replicate 11 49 by rw [hR11]] at h
    exact h)
  have HRS := hide (show RS.st = 1 ∧ RS.has = true by rw [hRS]; exact fl_end g)
  clear hR11 hRS OKF
  obtain ⟨dF, hdF⟩ : ∃ dF, dF = flS g 6 := ⟨_, rfl⟩
  rw [← hdF] at FD C
  clear hdF
  go_upto_region 36 with fail
  refine wp_region_L [0, 3, 4, 5] [(0, fun W => W.heap[y]? = some (.cells dF.cs.toArray 31 (0, 0)))] (by kernel_rfl) ?_
  replace C := hide (show wc.drew.heap[y]? = some (.cells dF.cs.toArray 31 (0, 0)) from C.out)
  replace Q := hide (show Below w.heap.size w wc.drew from Q.out.drew)
  generalize wc.drew = wd at *
  refine wpAnyL_load (i := 0) (v := .agg dF.cs.toArray) rfl rfl (by kernel_rfl) (by kernel_rfl) (by kernel_rfl) (by kernel_rfl) (by kernel_rfl) (fun _ _ _ h => h) rfl (fun W h => exec_heap W y 31 _ _ h Tryz.underlying31 rfl (by kernel_rfl) _ _ (.tmp 5) (by rfl) (by rfl)) (C.out) ?_
  go_simp
  refine wpAnyL_two (i := 1) (k := 6) (by kernel_rfl) ?_ ?_
  · refine wpOp_do rfl rfl ?_
    go_simp
    (with_reducible refine (RP.out _).mono ?_)
    rintro eA wA ⟨rfl, q⟩
    replace C := hide (heap_below C.out q)
    replace Q := hide (below_next Q.out Q.out.size q)
    clear q
    go_simp
    refine ⟨keepsL_mk (by kernel_rfl) (.cons C.out .nil), ?_⟩
    go_simp
    refine wpAnyL_two (i := 2) (k := 6) (by kernel_rfl) ?_ ?_
    · refine wpOp_do rfl rfl ?_
      go_simp
      (with_reducible refine (FD.out _).mono ?_)
      rintro eA1 wA1 ⟨rfl, q⟩
      replace C := hide (heap_below C.out q)
      replace Q := hide (below_next Q.out Q.out.size q)
      clear q
      go_simp
      refine ⟨keepsL_mk (by kernel_rfl) (.cons C.out .nil), ?_⟩
      go_simp
      refine wpAnyL_pure (i := 3) (v := .tuple #[.agg RS.cs.toArray, .bool true]) rfl rfl (by kernel_rfl) (by kernel_rfl) (by kernel_rfl) (by kernel_rfl) (by kernel_rfl) (fun _ _ _ h => h) rfl (fun W => by go_simp) ?_
      go_simp
      refine wpAnyL_pure (i := 4) (v := .agg RS.cs.toArray) rfl rfl (by kernel_rfl) (by kernel_rfl) (by kernel_rfl) (by kernel_rfl) (by kernel_rfl) (fun _ _ _ h => h) rfl (fun W => by go_simp) ?_
      go_simp
      refine wpAnyL_pure (i := 5) (v := .bool true) rfl rfl (by kernel_rfl) (by kernel_rfl) (by kernel_rfl) (by kernel_rfl) (by kernel_rfl) (fun _ _ _ h => h) rfl (fun W => by go_simp) ?_
      go_simp
      refine wpAnyL_one (i := 6) (by kernel_rfl) ?_
      refine wpOp_do rfl rfl ?_
      go_simp
      have q : Below wA1.heap.size wA1 (wA1.alloc (.cells zCl.cs.toArray 31)) := (Below.refl _ _).alloc (Nat.le_refl _) _
      have N := hide (World.alloc_heap_new wA1 (.cells zCl.cs.toArray 31))
      have zn : w.heap.size ≤ wA1.heap.size := Q.out.size
      replace C := hide (heap_below C.out q)
      replace Q := hide (below_next Q.out Q.out.size q)
      clear q
      refine ⟨keepsL_mk (by kernel_rfl) (.cons C.out .nil), ?_⟩
      change wpAnyL _ _ _ _ _ _ _ _ _ (wA1.alloc (.cells zCl.cs.toArray 31))
      generalize wA1.alloc (.cells zCl.cs.toArray 31) = wA1n at *
      generalize wA1.heap.size = xn at *
      go_simp
      have T7 := hide (show World.there _ xn 0 23 from there_heap (cs := zCl.cs) N.out)
      refine wpAnyL_one (i := 7) (by kernel_rfl) ?_
      refine wpOp_do rfl rfl ?_
      refine wp_store_as 31 (.tmp 22) (.tmp 177) rfl xn 0 RS.cs (by rfl) (by rfl) (by exact T7.out) (by kernel_rfl) (by simp [Value.oneCell', Cl.cs]) ?_
      intro wa ea
      have Na := hide (show wa.heap[xn]? = some (.cells RS.cs.toArray 31 (0, 0)) by rw [ea]; exact whole_heap RS.cs (xs := zCl.cs) N.out rfl)
      have Qa := hide (show Below w.heap.size w wa by rw [ea]; exact Q.out.trans (below_setCells _ _ _ (by omega)))
      clear ea T7 N Q
      refine ⟨keepsL_all (by kernel_rfl) (by kernel_rfl), ?_⟩
      go_simp
      refine wpAnyL_one (i := 8) (by kernel_rfl) ?_
      refine wpOp_do rfl rfl ?_
      go_simp
      refine ⟨keepsL_all (by kernel_rfl) (by kernel_rfl), ?_⟩
      go_simp
      refine wpAnyL_done (by kernel_rfl) ?_ _
      obtain ⟨-, ⟨c4', -, -, -, c8'⟩, -⟩ := cl_cells Na.out
      rw [HRS.out.1] at c4'
      rw [HRS.out.2] at c8'
      go_wp2_with fail
      go_ret
      exact ⟨rfl, Qa.out⟩
    · refine wpOp_do rfl rfl ?_
      go_simp
      have q : Below wA.heap.size wA (wA.alloc (.cells zCl.cs.toArray 31)) := (Below.refl _ _).alloc (Nat.le_refl _) _
      have N := hide (World.alloc_heap_new wA (.cells zCl.cs.toArray 31))
      have zn : w.heap.size ≤ wA.heap.size := Q.out.size
      replace C := hide (heap_below C.out q)
      replace Q := hide (below_next Q.out Q.out.size q)
      clear q
      refine ⟨keepsL_mk (by kernel_rfl) (.cons C.out .nil), ?_⟩
      change wpAnyL _ _ _ _ _ _ _ _ _ (wA.alloc (.cells zCl.cs.toArray 31))
      generalize wA.alloc (.cells zCl.cs.toArray 31) = wAn at *
      generalize wA.heap.size = xn at *
      go_simp
      refine wpAnyL_one (i := 2) (by kernel_rfl) ?_
      refine wpOp_do rfl rfl ?_
      go_simp
      (with_reducible refine (FD.out _).mono ?_)
      rintro eA2 wA2 ⟨rfl, q⟩
      replace C := hide (heap_below C.out q)
      replace Q := hide (below_next Q.out Q.out.size q)
      replace N := hide (heap_below N.out q)
      clear q
      go_simp
      refine ⟨keepsL_mk (by kernel_rfl) (.cons C.out .nil), ?_⟩
      go_simp
      refine wpAnyL_pure (i := 3) (v := .tuple #[.agg RS.cs.toArray, .bool true]) rfl rfl (by kernel_rfl) (by kernel_rfl) (by kernel_rfl) (by kernel_rfl) (by kernel_rfl) (fun _ _ _ h => h) rfl (fun W => by go_simp) ?_
      go_simp
      refine wpAnyL_pure (i := 4) (v := .agg RS.cs.toArray) rfl rfl (by kernel_rfl) (by kernel_rfl) (by kernel_rfl) (by kernel_rfl) (by kernel_rfl) (fun _ _ _ h => h) rfl (fun W => by go_simp) ?_
      go_simp
      refine wpAnyL_pure (i := 5) (v := .bool true) rfl rfl (by kernel_rfl) (by kernel_rfl) (by kernel_rfl) (by kernel_rfl) (by kernel_rfl) (fun _ _ _ h => h) rfl (fun W => by go_simp) ?_
      go_simp
      have T7 := hide (show World.there _ xn 0 23 from there_heap (cs := zCl.cs) N.out)
      refine wpAnyL_one (i := 7) (by kernel_rfl) ?_
      refine wpOp_do rfl rfl ?_
      refine wp_store_as 31 (.tmp 22) (.tmp 177) rfl xn 0 RS.cs (by rfl) (by rfl) (by exact T7.out) (by kernel_rfl) (by simp [Value.oneCell', Cl.cs]) ?_
      intro wa ea
      have Na := hide (show wa.heap[xn]? = some (.cells RS.cs.toArray 31 (0, 0)) by rw [ea]; exact whole_heap RS.cs (xs := zCl.cs) N.out rfl)
      have Qa := hide (show Below w.heap.size w wa by rw [ea]; exact Q.out.trans (below_setCells _ _ _ (by omega)))
      clear ea T7 N Q
      refine ⟨keepsL_all (by kernel_rfl) (by kernel_rfl), ?_⟩
      go_simp
      refine wpAnyL_one (i := 8) (by kernel_rfl) ?_
      refine wpOp_do rfl rfl ?_
      go_simp
      refine ⟨keepsL_all (by kernel_rfl) (by kernel_rfl), ?_⟩
      go_simp
      refine wpAnyL_done (by kernel_rfl) ?_ _
      obtain ⟨-, ⟨c4', -, -, -, c8'⟩, -⟩ := cl_cells Na.out
      rw [HRS.out.1] at c4'
      rw [HRS.out.2] at c8'
      go_wp2_with fail
      go_ret
      exact ⟨rfl, Qa.out⟩
  · refine wpOp_do rfl rfl ?_
    go_simp
    have q : Below wd.heap.size wd (wd.alloc (.cells zCl.cs.toArray 31)) := (Below.refl _ _).alloc (Nat.le_refl _) _
    have N := hide (World.alloc_heap_new wd (.cells zCl.cs.toArray 31))
    have zn : w.heap.size ≤ wd.heap.size := Q.out.size
    replace C := hide (heap_below C.out q)
    replace Q := hide (below_next Q.out Q.out.size q)
    clear q
    refine ⟨keepsL_mk (by kernel_rfl) (.cons C.out .nil), ?_⟩
    change wpAnyL _ _ _ _ _ _ _ _ _ (wd.alloc (.cells zCl.cs.toArray 31))
    generalize wd.alloc (.cells zCl.cs.toArray 31) = wdn at *
    generalize wd.heap.size = xn at *
    go_simp
    refine wpAnyL_one (i := 1) (by kernel_rfl) ?_
    refine wpOp_do rfl rfl ?_
    go_simp
    (with_reducible refine (RP.out _).mono ?_)
    rintro eB wB ⟨rfl, q⟩
    replace C := hide (heap_below C.out q)
    replace Q := hide (below_next Q.out Q.out.size q)
    replace N := hide (heap_below N.out q)
    clear q
    go_simp
    refine ⟨keepsL_mk (by kernel_rfl) (.cons C.out .nil), ?_⟩
    go_simp
    refine wpAnyL_one (i := 2) (by kernel_rfl) ?_
    refine wpOp_do rfl rfl ?_
    go_simp
    (with_reducible refine (FD.out _).mono ?_)
    rintro eB2 wB2 ⟨rfl, q⟩
    replace C := hide (heap_below C.out q)
    replace Q := hide (below_next Q.out Q.out.size q)
    replace N := hide (heap_below N.out q)
    clear q
    go_simp
    refine ⟨keepsL_mk (by kernel_rfl) (.cons C.out .nil), ?_⟩
    go_simp
    refine wpAnyL_pure (i := 3) (v := .tuple #[.agg RS.cs.toArray, .bool true]) rfl rfl (by kernel_rfl) (by kernel_rfl) (by kernel_rfl) (by kernel_rfl) (by kernel_rfl) (fun _ _ _ h => h) rfl (fun W => by go_simp) ?_
    go_simp
    refine wpAnyL_pure (i := 4) (v := .agg RS.cs.toArray) rfl rfl (by kernel_rfl) (by kernel_rfl) (by kernel_rfl) (by kernel_rfl) (by kernel_rfl) (fun _ _ _ h => h) rfl (fun W => by go_simp) ?_
    go_simp
    refine wpAnyL_pure (i := 5) (v := .bool true) rfl rfl (by kernel_rfl) (by kernel_rfl) (by kernel_rfl) (by kernel_rfl) (by kernel_rfl) (fun _ _ _ h => h) rfl (fun W => by go_simp) ?_
    go_simp
    have T7 := hide (show World.there _ xn 0 23 from there_heap (cs := zCl.cs) N.out)
    refine wpAnyL_one (i := 7) (by kernel_rfl) ?_
    refine wpOp_do rfl rfl ?_
    refine wp_store_as 31 (.tmp 22) (.tmp 177) rfl xn 0 RS.cs (by rfl) (by rfl) (by exact T7.out) (by kernel_rfl) (by simp [Value.oneCell', Cl.cs]) ?_
    intro wa ea
    have Na := hide (show wa.heap[xn]? = some (.cells RS.cs.toArray 31 (0, 0)) by rw [ea]; exact whole_heap RS.cs (xs := zCl.cs) N.out rfl)
    have Qa := hide (show Below w.heap.size w wa by rw [ea]; exact Q.out.trans (below_setCells _ _ _ (by omega)))
    clear ea T7 N Q
    refine ⟨keepsL_all (by kernel_rfl) (by kernel_rfl), ?_⟩
    go_simp
    refine wpAnyL_one (i := 8) (by kernel_rfl) ?_
    refine wpOp_do rfl rfl ?_
    go_simp
    refine ⟨keepsL_all (by kernel_rfl) (by kernel_rfl), ?_⟩
    go_simp
    refine wpAnyL_done (by kernel_rfl) ?_ _
    obtain ⟨-, ⟨c4', -, -, -, c8'⟩, -⟩ := cl_cells Na.out
    rw [HRS.out.1] at c4'
    rw [HRS.out.2] at c8'
    go_wp2_with fail
    go_ret
    exact ⟨rfl, Qa.out⟩
end Go.Proofs.YtpfbobcilphncaaGreatDoor
