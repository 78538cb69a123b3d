/- Plain: one's own frame, alone on a bus. -/
import Derived.Test.YtpfbobcilphncaaGreatDoorCsR
import Derived.Test.YtpfbobcilphncaaGreatDoorRdR
import Derived.Test.YtpfbobcilphncaaGreatDoorCtG
import Derived.Test.YtpfbobcilphncaaGreatDoorMgFrR
namespace Go.Proofs.YtpfbobcilphncaaGreatDoor
open Go.ChangeShapes Go.WideShapes Go.ChangeAt Go.RowKit
open FP (Fr bitsF bodyF tenF)

theorem bits_tail (f : Fr) {i : Nat} (h1 : (bodyF f).length ≤ i) (h2 : i < (bitsF f).length) : (bitsF f)[i]? = some 49 := by
  have hl := FP.body_len f
  show (bodyF f ++ tenF)[i]? = _
  rw [List.getElem?_append_right h1]
  have : ∀ j : Fin 10, tenF[j.val]? = some 49 := by decide
  exact this ⟨i - (bodyF f).length, by omega⟩
theorem bits_some (f : Fr) {i : Nat} (h : i < (bitsF f).length) : ∃ b, (bitsF f)[i]? = some b ∧ (b = 48 ∨ b = 49) := by
  refine ⟨(bitsF f)[i], List.getElem?_eq_getElem h, FP.bits_bits f _ (List.getElem_mem h)⟩
theorem bits_zero (f : Fr) : (bitsF f)[0]? = some 48 := by
  obtain ⟨m, h⟩ := FP.body_first f
  show (bodyF f ++ tenF)[0]? = _
  rw [h]; rfl

/-- The sender behind i bits. -/
def sndS (g : Cl) (f : Fr) (i : Nat) : Cl := if i = 0 then g else if i ≤ (bodyF f).length + 9 then mid g true f i else (mid g true f ((bodyF f).length + 9)).sent
/-- The bit that the bus has: one is told that it came. -/
def busB (f : Fr) (i : Nat) (b : UInt8) : UInt8 := if i = (bodyF f).length + 1 then 48 else b

theorem snd_step {g : Cl} {f : Fr} (hr : FP.rightB f = true) (h1 : g.st = 1) (hh : g.has = true) (hf : g.f = f) {i : Nat} (hi : i < (bitsF f).length) {b : UInt8} (hb : (bitsF f)[i]? = some b) :
    (sndS g f i).drv = b ∧ (sndS g f i).samp (busB f i b) = ⟨sndS g f (i + 1), if i + 1 = (bitsF f).length then 1 else 0, if i + 1 = (bitsF f).length then f else zFr, 0⟩ := by
  have hl := FP.body_len f
  have hge := FP.body_ge hr
  by_cases h0 : i = 0
  · subst h0
    have hb0 : b = 48 := by rw [bits_zero] at hb; exact (Option.some.inj hb).symm
    subst hb0
    have e0 : sndS g f 0 = g := if_pos rfl
    have e1 : sndS g f 1 = mid g true f 1 := by unfold sndS; rw [if_neg (by decide), if_pos (by omega)]
    have eb : busB f 0 48 = 48 := by unfold busB; split <;> rfl
    rw [e0, eb]
    refine ⟨by unfold Cl.drv; rw [if_pos h1, if_pos hh], ?_⟩
    rw [if_neg (by omega), if_neg (by omega)]
    show _ = (⟨sndS g f 1, 0, zFr, 0⟩ : Mc)
    unfold Cl.samp
    rw [if_neg (by omega), if_pos h1, if_pos rfl, if_pos hh, e1, mid_begin1, hf]
    rfl
  · by_cases h9 : i = (bodyF f).length + 9
    · have hb1 : b = 49 := by rw [bits_tail f (by omega) hi] at hb; exact (Option.some.inj hb).symm
      have eb : busB f i b = 49 := by unfold busB; rw [if_neg (by omega)]; exact hb1
      have e0 : sndS g f i = mid g true f i := by unfold sndS; rw [if_neg h0, if_pos (by omega)]
      have e1 : sndS g f (i + 1) = (mid g true f i).sent := by unfold sndS; rw [if_neg (by omega), if_neg (by omega), h9]
      rw [e0, eb, e1, if_pos (by omega), if_pos (by omega)]
      exact ⟨mid_drvS hb, by rw [mid_endS h9 (by decide), hf]⟩
    · have e0 : sndS g f i = mid g true f i := by unfold sndS; rw [if_neg h0, if_pos (by omega)]
      have e1 : sndS g f (i + 1) = mid g true f (i + 1) := by unfold sndS; rw [if_neg (by omega), if_pos (by omega)]
      rw [e0, e1, if_neg (by omega), if_neg (by omega)]
      refine ⟨mid_drvS hb, ?_⟩
      by_cases hlt : i < (bodyF f).length
      · have eb : busB f i b = b := by unfold busB; rw [if_neg (by omega)]
        rw [eb]
        exact mid_step hr hlt (by rw [← FP.body_get f i hlt]; exact hb)
      · have hb1 : b = 49 := by rw [bits_tail f (by omega) hi] at hb; exact (Option.some.inj hb).symm
        refine mid_next (by omega) (by omega) (fun e => by cases e) ?_
        by_cases h1 : i = (bodyF f).length + 1
        · rw [if_pos h1]; intro _; unfold busB; rw [if_pos h1]
        · rw [if_neg h1]; unfold busB; rw [if_neg h1, hb1]; decide
theorem busB_bit {f : Fr} {i : Nat} {b : UInt8} (hb : b = 48 ∨ b = 49) : busB f i b = 48 ∨ busB f i b = 49 := by unfold busB; split; exact .inl rfl; exact hb
theorem snd_ok {g : Cl} {f : Fr} (hg : g.Ok) (hr : FP.rightB f = true) (h1 : g.st = 1) (hh : g.has = true) (hf : g.f = f) : ∀ i, i ≤ (bitsF f).length → (sndS g f i).Ok
  | 0, _ => by rw [show sndS g f 0 = g from if_pos rfl]; exact hg
  | i + 1, hi => by
    obtain ⟨b, hb, hbit⟩ := bits_some f (i := i) (by omega)
    have h := snd_step hr h1 hh hf (i := i) (by omega) hb
    have := (snd_ok hg hr h1 hh hf i (by omega)).samp (busB f i b) (busB_bit hbit)
    rw [h.2] at this
    exact this
/-- It is sent. -/
theorem snd_end {g : Cl} {f : Fr} (hg : g.Ok) (h1 : g.st = 1) (ht : g.tc = 0) (hrc : g.rc = 0) : (sndS g f (bitsF f).length).has = false ∧ (sndS g f (bitsF f).length).st = 6 ∧ (sndS g f (bitsF f).length).tc = 0 ∧ (sndS g f (bitsF f).length).rc = 0 ∧ (sndS g f (bitsF f).length).off = false ∧ (sndS g f (bitsF f).length).rs = 0 := by
  have hl := FP.body_len f
  have ho := hg.on (by omega)
  have hrs := (cnt_on hg.cnt ho).1
  have e : sndS g f (bitsF f).length = (mid g true f ((bodyF f).length + 9)).sent := by unfold sndS; rw [if_neg (by omega), if_neg (by omega)]
  rw [e]
  have e2 : ((mid g true f ((bodyF f).length + 9)).to 6).count 1 = { (mid g true f ((bodyF f).length + 9)).to 6 with tc := cntTc 1 g.tc, rc := cntRc 1 g.rc } := by
    refine count_low 1 ?_
    show cntTc 1 g.tc ≤ 255
    rw [ht]; decide
  unfold Cl.sent
  rw [e2]
  refine ⟨rfl, rfl, ?_, ?_, ho, hrs⟩
  · show cntTc 1 g.tc = 0
    rw [ht]; decide
  · show cntRc 1 g.rc = 0
    rw [hrc]; decide
end Go.Proofs.YtpfbobcilphncaaGreatDoor

/- campanilelaw07: alive, few. -/
namespace Go.Proofs.YtpfbobcilphncaaGreatDoor
open Go.ChangeShapes Go.WideShapes Go.ChangeAt Go.RowKit
open FP (Fr)

def cut7 (f : Fr) : Fr := { f with data := f.data.extract 0 (min f.data.size 12) }

set_option maxRecDepth 100000 in
set_option maxHeartbeats 1000000 in
theorem few07_any (f : Fr) (w : World) (hs : f.data.size ≤ maxLen) :
    Calls Tryz.prog 6 #[.agg (frc f).toArray] w fun e w' => e = .returned (.agg (frc (cut7 f)).toArray) ∧ Below w.heap.size w w' := by
  obtain ⟨id, ext, rem, dlc, data⟩ := f
  unfold frc cut7
  dsimp only at *
  unfold maxLen at hs
  obtain ⟨m, em, hm⟩ := run_min (P := Tryz.prog) (data.size : Int) 12
  obtain ⟨k, hk⟩ : ∃ k : Nat, k = min data.size 12 := ⟨_, rfl⟩
  have hmk : m = k := by omega
  subst hmk
  have hkl : k ≤ data.size := by omega
  rw [← hk]
  clear hk em
  go_enter Tryz.func6, Tryz.ntmps6
  go_wp2
  refine bodyPost_ret (v := .agg #[.int .u32 id, .bool ext, .bool rem, .int .i64 dlc, .string (data.extract 0 k)]) (by simp [results, Tryz.results6, go_sem]) rfl ⟨rfl, ?_⟩
  exact ((Below.refl _ _).alloc (Nat.le_refl _) _).alloc (by simp) _

/-- A controller that has counted nothing, in a state. -/
def qCl (f : Fr) (hh : Bool) (st n : Int) : Cl := ⟨0, 0, false, 0, st, n, false, false, hh, f, false, ⟨#[]⟩, 0, 0, 0, ⟨#[]⟩, false, 0, false⟩
theorem q_join (f : Fr) (hh : Bool) {n : Int} (h : ¬ n = 10) : (qCl f hh 0 n).one = qCl f hh 0 (n + 1) := by
  unfold Cl.one Cl.join1
  rw [if_pos (show (qCl f hh 0 n).st = 0 from rfl), if_neg (show ¬ (qCl f hh 0 n).n = 10 from h)]
  rfl
theorem q_joins (f : Fr) (hh : Bool) : (qCl f hh 0 10).one = qCl f hh 1 0 := rfl
theorem q_idle (f : Fr) (hh : Bool) : (qCl f hh 1 0).one = qCl f hh 1 0 := rfl
/-- Behind so many recessive bits. -/
def stQ (k : Nat) : Int := if k < 11 then 0 else 1
def nQ (k : Nat) : Int := if k < 11 then k else 0
theorem q_next (f : Fr) (hh : Bool) (k : Nat) : (qCl f hh (stQ k) (nQ k)).one = qCl f hh (stQ (k + 1)) (nQ (k + 1)) := by
  unfold stQ nQ
  by_cases h : k < 11
  · by_cases e : k = 10
    · subst e
      exact q_joins f hh
    · rw [if_pos h, if_pos h, if_pos (show k + 1 < 11 by omega), if_pos (show k + 1 < 11 by omega), q_join f hh (by omega)]
      rfl
  · rw [if_neg h, if_neg h, if_neg (show ¬ k + 1 < 11 by omega), if_neg (show ¬ k + 1 < 11 by omega), q_idle]
theorem ones_q0 (f : Fr) (hh : Bool) : ∀ k : Nat, ones (qCl f hh 0 0) k = qCl f hh (stQ k) (nQ k)
  | 0 => rfl
  | k + 1 => by
    show (ones _ k).one = _
    rw [ones_q0 f hh k, q_next]

def s11 : ByteArray := ⟨#[49, 49, 49, 49, 49, 49, 49, 49, 49, 49, 49]⟩
theorem s11_at (k : Nat) (h : k < s11.size) (W : World) : (Instr.index 9 (.string s11) (.int .i64 k)).run Tryz.prog W = .ok (.int .u8 49) W := by
  have hk : k < 11 := h
  rw [run_index_string _ _ _ _ _ Tryz.underlying9]
  have h1 : (0 : Int) ≤ k ∧ (k : Int) < s11.size := ⟨by omega, by show (k : Int) < 11; omega⟩
  rw [dif_pos h1]
  have e : ∀ j (hj : j < s11.size), (s11[j]'hj) = 49 := by
    intro j hj
    have hj' : j < 11 := hj
    match j, hj' with
    | 0, _ => rfl
    | 1, _ => rfl
    | 2, _ => rfl
    | 3, _ => rfl
    | 4, _ => rfl
    | 5, _ => rfl
    | 6, _ => rfl
    | 7, _ => rfl
    | 8, _ => rfl
    | 9, _ => rfl
    | 10, _ => rfl
    | j + 11, h => exact absurd h (by omega)
  simp only [Int.toNat_natCast]
  rw [e k h]
  rfl

set_option maxRecDepth 100000 in
set_option maxHeartbeats 4000000 in
theorem alive07_any (w : World) : Calls Tryz.prog 9 #[] w fun e w' => e = .returned (.bool true) ∧ Below w.heap.size w w' := by
  have NW := hide (ctlNew_any w)
  have FE := hide (fun W => feed_ones zCl s11 W zCl_q (by decide) s11_at)
  have RT := hide (fun W => ctlRight_q (ones zCl s11.size) W (ones_q zCl_q _))
  have HS := hide (show (ones zCl s11.size).st = 1 by
    have : ones zCl s11.size = qCl zFr false 1 0 := ones_q0 zFr false 11
    rw [this]
    rfl)
  generalize ones zCl s11.size = d at *
  go_enter Tryz.func9, Tryz.ntmps9
  go_wp2_with fail
  (with_reducible refine (NW.out).mono ?_)
  rintro e1 w1 ⟨rfl, q1⟩
  have F1 := hide (FE.out w1)
  unfold s11 at F1
  go_wp2_with fail
  (with_reducible refine (F1.out).mono ?_)
  rintro e2 w2 ⟨rfl, q2⟩
  have Q2 := hide (below_next q1 q1.size q2)
  have q3 : Below w2.heap.size w2 (w2.alloc (.cells zCl.cs.toArray 31)) := (Below.refl _ _).alloc (Nat.le_refl _) _
  have g3 := World.alloc_heap_new w2 (.cells zCl.cs.toArray 31)
  have TH := hide (show (w2.alloc (.cells zCl.cs.toArray 31)).there w2.heap.size 0 23 from there_heap (cs := zCl.cs) g3)
  clear q1 q2 F1 FE NW
  go_wp2_with (refine wpList_store_hid (by rfl) 31 (.tmp 1) (.tmp 6) (by rfl) w2.heap.size 0 d.cs (by rfl) (by rfl) (by exact TH.out) (by kernel_rfl) (by simp [Value.oneCell', Cl.cs]) ?_)
  intro w4 e4
  have X4 := hide (show w4.heap[w2.heap.size]? = some (.cells d.cs.toArray 31 (0, 0)) by rw [e4.out]; exact whole_heap d.cs (xs := zCl.cs) g3 rfl)
  have Q4 := hide (show Below w.heap.size w w4 by rw [e4.out]; exact Q2.out.trans (q3.mono Q2.out.size |>.trans (below_setCells _ _ _ Q2.out.size)))
  obtain ⟨_, ⟨c4, _⟩, _⟩ := cl_cells X4.out
  rw [HS.out] at c4
  clear e4 TH g3 q3 Q2
  have R4 := hide (RT.out w4)
  go_wp2_with (refine wpList_load_rowG (by kernel_rfl) 31 (.tmp 1) (by rfl) w2.heap.size (by rfl) 31 d.cs.toArray (0, 0) _ (by exact X4.out) Tryz.underlying31 (by rfl) (by kernel_rfl) ?_)
  (with_reducible refine (R4.out).mono ?_)
  rintro e5 w5 ⟨rfl, q5⟩
  have Q5 := hide (below_next Q4.out Q4.out.size q5)
  go_wp2_with fail
  go_ret
  exact ⟨rfl, Q5.out⟩
end Go.Proofs.YtpfbobcilphncaaGreatDoor
