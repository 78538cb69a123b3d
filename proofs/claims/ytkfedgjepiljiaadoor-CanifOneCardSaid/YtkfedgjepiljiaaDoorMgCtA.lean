/- Controllers: their cells; plain: what may be counted, what may be out of a frame. -/
import Derived.Test.YtkfedgjepiljiaaDoorMgFrPlain
import Derived.Test.YtkfedgjepiljiaaDoorOrdL
import Derived.Test.YtkfedgjepiljiaaDoorMgMem
namespace Go.Proofs.YtkfedgjepiljiaaDoor
open Go.ChangeShapes Go.WideShapes Go.ChangeAt Go.RowKit
open FP (Fr)

structure Cl where
  tc : Int
  rc : Int
  off : Bool
  rs : Int
  st : Int
  n : Int
  was : Bool
  hard : Bool
  has : Bool
  f : Fr
  sends : Bool
  out : ByteArray
  at_ : Int
  last : Int
  sn : Int
  got : ByteArray
  en : Bool
  tail : Int
  good : Bool
def zFr : Fr := ⟨0, false, false, 0, ⟨#[]⟩⟩
def zCl : Cl := ⟨0, 0, false, 0, 0, 0, false, false, false, zFr, false, ⟨#[]⟩, 0, 0, 0, ⟨#[]⟩, false, 0, false⟩
def frL (f : Fr) : List Value := [.int .u32 f.id, .bool f.ext, .bool f.rem, .int .i64 f.dlc, .string f.data]
def Cl.cs (c : Cl) : List Value := [.int .i64 c.tc, .int .i64 c.rc, .bool c.off, .int .i64 c.rs, .int .i64 c.st, .int .i64 c.n, .bool c.was, .bool c.hard, .bool c.has, .int .u32 c.f.id, .bool c.f.ext, .bool c.f.rem, .int .i64 c.f.dlc, .string c.f.data, .bool c.sends, .string c.out, .int .i64 c.at_, .int .u8 c.last, .int .i64 c.sn, .string c.got, .bool c.en, .int .i64 c.tail, .bool c.good]
theorem cl_cells {W : World} {B : Nat} {c : Cl} {t : TypeId} {fz : Nat × Nat} (h : W.heap[B]? = some (.cells c.cs.toArray t fz)) :
    (W.cell? ⟨B, 0, none⟩ = some (.int .i64 c.tc) ∧ W.cell? ⟨B, 1, none⟩ = some (.int .i64 c.rc) ∧ W.cell? ⟨B, 2, none⟩ = some (.bool c.off) ∧ W.cell? ⟨B, 3, none⟩ = some (.int .i64 c.rs)) ∧
    (W.cell? ⟨B, 4, none⟩ = some (.int .i64 c.st) ∧ W.cell? ⟨B, 5, none⟩ = some (.int .i64 c.n) ∧ W.cell? ⟨B, 6, none⟩ = some (.bool c.was) ∧ W.cell? ⟨B, 7, none⟩ = some (.bool c.hard) ∧ W.cell? ⟨B, 8, none⟩ = some (.bool c.has)) ∧
    (W.cell? ⟨B, 9, none⟩ = some (.int .u32 c.f.id) ∧ W.cell? ⟨B, 10, none⟩ = some (.bool c.f.ext) ∧ W.cell? ⟨B, 11, none⟩ = some (.bool c.f.rem) ∧ W.cell? ⟨B, 12, none⟩ = some (.int .i64 c.f.dlc) ∧ W.cell? ⟨B, 13, none⟩ = some (.string c.f.data)) ∧
    (W.cell? ⟨B, 14, none⟩ = some (.bool c.sends) ∧ W.cell? ⟨B, 15, none⟩ = some (.string c.out) ∧ W.cell? ⟨B, 16, none⟩ = some (.int .i64 c.at_) ∧ W.cell? ⟨B, 17, none⟩ = some (.int .u8 c.last) ∧ W.cell? ⟨B, 18, none⟩ = some (.int .i64 c.sn) ∧ W.cell? ⟨B, 19, none⟩ = some (.string c.got) ∧ W.cell? ⟨B, 20, none⟩ = some (.bool c.en) ∧ W.cell? ⟨B, 21, none⟩ = some (.int .i64 c.tail) ∧ W.cell? ⟨B, 22, none⟩ = some (.bool c.good)) := by
  simp [World.cell?, h, Cl.cs]
theorem cl_froz {W : World} {B : Nat} {cs : Array Value} {t : TypeId} (h : W.heap[B]? = some (.cells cs t (0, 0))) (o : Nat) : W.frozen? ⟨B, o, none⟩ = false := by simp [World.frozen?, h]

/-- May it be counted? -/
def cntB (tc rc : Int) (off : Bool) (rs : Int) : Bool := if off = true then decide (tc = 0 ∧ rc = 0 ∧ 1 ≤ rs ∧ rs ≤ 128) else decide (0 ≤ tc ∧ tc ≤ 255 ∧ 0 ≤ rc ∧ rc ≤ 255 ∧ rs = 0)
/-- Is nothing of a frame kept? -/
def Cl.Out (c : Cl) : Prop := c.sends = false ∧ c.out = ⟨#[]⟩ ∧ c.at_ = 0 ∧ c.last = 0 ∧ c.sn = 0 ∧ c.got = ⟨#[]⟩ ∧ c.en = false ∧ c.tail = 0 ∧ c.good = false
/-- Out of any frame, in a state. -/
def Cl.to (c : Cl) (s : Int) : Cl := { c with st := s, n := 0, sends := false, out := ⟨#[]⟩, at_ := 0, last := 0, sn := 0, got := ⟨#[]⟩, en := false, tail := 0, good := false }

/-- A machine: a controller and what happened. -/
structure Mc where
  c : Cl
  kind : Int
  ef : Fr
  bad : Int
def Mc.cs (m : Mc) : List Value := m.c.cs ++ [.int .i64 m.kind, .int .u32 m.ef.id, .bool m.ef.ext, .bool m.ef.rem, .int .i64 m.ef.dlc, .string m.ef.data, .int .i64 m.bad]
def evL (kind : Int) (f : Fr) (bad : Int) : List Value := [.int .i64 kind, .int .u32 f.id, .bool f.ext, .bool f.rem, .int .i64 f.dlc, .string f.data, .int .i64 bad]
end Go.Proofs.YtkfedgjepiljiaaDoor

/- The ends of a walk that answers a Bool. Nothing of the program's text. -/
namespace Go.Proofs.YtkfedgjepiljiaaDoor
theorem r_true {r : Bool} {p : Prop} (h : r = true ↔ p) (hp : p) : true = r := (h.2 hp).symm
theorem r_false {r : Bool} {p : Prop} (h : r = true ↔ p) (hp : ¬ p) : false = r := by
  cases hr : r with
  | false => rfl
  | true => exact absurd (h.1 hr) hp
theorem r_dec {r : Bool} {p q : Prop} [Decidable q] (h : r = true ↔ p) (hq : p ↔ q) : decide q = r := by
  cases hr : r with
  | false => exact decide_eq_false (fun hq2 => by rw [h.2 (hq.2 hq2)] at hr; cases hr)
  | true => exact decide_eq_true (hq.1 (h.1 hr))
end Go.Proofs.YtkfedgjepiljiaaDoor

/- Walks of count.Right, ctl.out, ctl.Right out of a frame. -/
namespace Go.Proofs.YtkfedgjepiljiaaDoor
open Go.ChangeShapes Go.WideShapes Go.ChangeAt Go.RowKit
open FP (Fr)

theorem four_cells {W : World} {B : Nat} {a b c d : Value} {t : TypeId} {fz : Nat × Nat} (h : W.heap[B]? = some (.cells #[a, b, c, d] t fz)) : W.cell? ⟨B, 0, none⟩ = some a ∧ W.cell? ⟨B, 1, none⟩ = some b ∧ W.cell? ⟨B, 2, none⟩ = some c ∧ W.cell? ⟨B, 3, none⟩ = some d := by
  simp [World.cell?, h]

set_option maxRecDepth 100000 in
set_option maxHeartbeats 4000000 in
theorem cntRight_any (tc rc : Int) (off : Bool) (rs : Int) (w : World) : Calls Tryd.prog 29 #[.agg #[.int .i64 tc, .int .i64 rc, .bool off, .int .i64 rs]] w fun e w' => e = .returned (.bool (cntB tc rc off rs)) ∧ Below w.heap.size w w' := by
  obtain ⟨r, hr⟩ : ∃ r, r = cntB tc rc off rs := ⟨_, rfl⟩
  rw [← hr]
  unfold cntB at hr
  have q0 : Below w.heap.size w (w.alloc (.cells #[.int .i64 tc, .int .i64 rc, .bool off, .int .i64 rs] 36)) := (Below.refl _ _).alloc (Nat.le_refl _) _
  obtain ⟨c0, c1, c2, c3⟩ := four_cells (World.alloc_heap_new w (.cells #[.int .i64 tc, .int .i64 rc, .bool off, .int .i64 rs] 36))
  have Q0 := hide q0
  clear q0
  generalize hw0 : w.alloc (.cells #[.int .i64 tc, .int .i64 rc, .bool off, .int .i64 rs] 36) = w0 at *
  cases off with
  | true =>
    have HR := hide (show r = true ↔ (tc = 0 ∧ rc = 0 ∧ 1 ≤ rs ∧ rs ≤ 128) by rw [hr]; simp)
    clear hr
    go_enter Tryd.func29, Tryd.ntmps29
    go_upto_region 1 with fail
    clear hw0
    go_wp2_with fail
    all_goals go_ret
    all_goals refine ⟨ret_bool ?_, Q0.out⟩
    all_goals (first | exact r_true HR.out (by omega) | exact r_false HR.out (by omega) | exact r_dec HR.out (by omega))
  | false =>
    have HR := hide (show r = true ↔ (0 ≤ tc ∧ tc ≤ 255 ∧ 0 ≤ rc ∧ rc ≤ 255 ∧ rs = 0) by rw [hr]; simp)
    clear hr
    go_enter Tryd.func29, Tryd.ntmps29
    go_upto_region 1 with fail
    clear hw0
    go_wp2_with fail
    all_goals go_ret
    all_goals refine ⟨ret_bool ?_, Q0.out⟩
    all_goals (first | exact r_true HR.out (by omega) | exact r_false HR.out (by omega) | exact r_dec HR.out (by omega))

set_option maxRecDepth 100000 in
set_option maxHeartbeats 4000000 in
theorem ctlOut_ok (c : Cl) (w : World) (h : c.Out) : Calls Tryd.prog 32 #[.agg c.cs.toArray] w fun e w' => e = .returned (.bool true) ∧ Below w.heap.size w w' := by
  obtain ⟨w0, hw0⟩ : ∃ w0, w0 = w.alloc (.cells c.cs.toArray 40) := ⟨_, rfl⟩
  have B0 := hide (World.alloc_heap_new w (.cells c.cs.toArray 40))
  have Q0 : Hid (Below w.heap.size w w0) := by rw [hw0]; exact hide ((Below.refl _ _).alloc (Nat.le_refl _) _)
  rw [← hw0] at B0
  obtain ⟨_, _, _, d0, d1, d2, d3, d4, d5, d6, d7, d8⟩ := cl_cells B0.out
  obtain ⟨h0, h1, h2, h3, h4, h5, h6, h7, h8⟩ := h
  rw [h0] at d0
  rw [h1] at d1
  rw [h2] at d2
  rw [h3] at d3
  rw [h4] at d4
  rw [h5] at d5
  rw [h6] at d6
  rw [h7] at d7
  rw [h8] at d8
  clear h0 h1 h2 h3 h4 h5 h6 h7 h8 B0
  go_enter Tryd.func32, Tryd.ntmps32
  go_upto_region 1 with fail
  change Code.wp _ _ _ _ (w.alloc (.cells c.cs.toArray 40))
  rw [← hw0]
  clear hw0
  go_wp2_with fail
  go_ret
  exact ⟨rfl, Q0.out⟩

/-- A controller that may be, and joins or is idle. -/
structure Cl.Q (c : Cl) : Prop where
  cnt : cntB c.tc c.rc c.off c.rs = true
  offs : c.off = (c.st == 8)
  has : c.has = true → FP.rightB c.f = true
  hasn : c.has = false → c.f = zFr
  out : c.Out
  st : (c.st = 0 ∧ 0 ≤ c.n ∧ c.n ≤ 10) ∨ (c.st = 1 ∧ c.n = 0)
theorem right_id {f : Fr} (h : FP.rightB f = true) : f.id < 4294967296 := by
  unfold FP.rightB at h
  simp only [Bool.and_eq_true, decide_eq_true_eq] at h
  have := h.1.1.1
  split at this <;> omega

set_option maxRecDepth 100000 in
set_option maxHeartbeats 16000000 in
theorem ctlRight_q (c : Cl) (w : World) (h : c.Q) : Calls Tryd.prog 18 #[.agg c.cs.toArray] w fun e w' => e = .returned (.bool true) ∧ Below w.heap.size w w' := by
  obtain ⟨hcnt, hoff, hhas, hhasn, hout, hst⟩ := h
  have OU := hide (fun W => ctlOut_ok c W hout)
  clear hout
  obtain ⟨tc, rc, off, rs, st, n, was, hard, has, f, sends, out, at_, last, sn, got, en, tail, good⟩ := c
  dsimp only at *
  have HN := hide (show has = false → f = ⟨0, false, false, 0, ⟨#[]⟩⟩ from hhasn)
  have HR := hide hhas
  clear hhas hhasn
  rcases hst with ⟨rfl, hn1, hn2⟩ | ⟨rfl, rfl⟩
  all_goals (first | obtain rfl : off = true := hoff | obtain rfl : off = false := hoff)
  all_goals have CN := hide (fun W => hcnt ▸ cntRight_any tc rc _ rs W)
  all_goals clear hcnt
  all_goals cases has
  all_goals (first | obtain rfl := HN.out rfl | have FR := hide (fun W => HR.out rfl ▸ frRight_any f W (right_id (HR.out rfl))))
  all_goals clear HN HR
  all_goals generalize hc : (⟨tc, rc, _, rs, _, _, was, hard, _, _, sends, out, at_, last, sn, got, en, tail, good⟩ : Cl) = c at OU
  all_goals have HC := hide hc
  all_goals clear hc
  all_goals obtain ⟨w0, hw0⟩ : ∃ w0, w0 = w.alloc (.cells c.cs.toArray 40) := ⟨_, rfl⟩
  all_goals have B0 := hide (World.alloc_heap_new w (.cells c.cs.toArray 40))
  all_goals have Q0 : Hid (Below w.heap.size w w0) := by rw [hw0]; exact hide ((Below.refl _ _).alloc (Nat.le_refl _) _)
  all_goals rw [← hw0] at B0
  all_goals obtain ⟨⟨c0, c1, c2, c3⟩, ⟨c4, c5, c6, c7, c8⟩, ⟨c9, c10, c11, c12, c13⟩, _⟩ := cl_cells B0.out
  all_goals rw [← HC.out] at c0 c1 c2 c3 c4 c5 c8 c9 c10 c11 c12 c13
  all_goals dsimp only at c0 c1 c2 c3 c4 c5 c8 c9 c10 c11 c12 c13
  all_goals clear c6 c7
  all_goals
    go_enter Tryd.func18, Tryd.ntmps18
    go_upto_region 1 with fail
    change Code.wp _ _ _ _ (w.alloc (.cells c.cs.toArray 40))
    rw [← hw0]
    clear hw0
    go_wp2_with fail
    (with_reducible refine (CN.out _).mono ?_)
    rintro e1 w1 ⟨rfl, q1⟩
    have B1 := hide (heap_below B0.out q1)
    have Q1 := hide (below_next Q0.out Q0.out.size q1)
    clear q1 B0 Q0 CN c0 c1 c2 c3 c4 c5 c8 c9 c10 c11 c12 c13
    obtain ⟨⟨c0, c1, c2, c3⟩, ⟨c4, c5, c6, c7, c8⟩, ⟨c9, c10, c11, c12, c13⟩, _⟩ := cl_cells B1.out
    rw [← HC.out] at c0 c1 c2 c3 c4 c5 c8 c9 c10 c11 c12 c13
    dsimp only at c0 c1 c2 c3 c4 c5 c8 c9 c10 c11 c12 c13
    clear c6 c7
    first
    | (go_wp2_with fail
       (with_reducible refine (FR.out _).mono ?_)
       rintro e2 w2 ⟨rfl, q2⟩
       have B2 := hide (heap_below B1.out q2)
       have Q2 := hide (below_next Q1.out Q1.out.size q2)
       clear q2 B1 Q1 FR c0 c1 c2 c3 c4 c5 c8 c9 c10 c11 c12 c13
       obtain ⟨⟨c0, c1, c2, c3⟩, ⟨c4, c5, c6, c7, c8⟩, ⟨c9, c10, c11, c12, c13⟩, _⟩ := cl_cells B2.out
       rw [← HC.out] at c4 c8
       dsimp only at c4 c8
       clear c0 c1 c2 c3 c5 c6 c7 c9 c10 c11 c12 c13
       go_wp2_with (refine wpList_load_row rfl 40 (.tmp 1) (by rfl) w.heap.size (by rfl) 40 c.cs.toArray (0, 0) _ (by exact B2.out) Tryd.underlying40 (by rfl) (by kernel_rfl) ?_)
       (with_reducible refine (OU.out _).mono ?_)
       rintro e3 w3 ⟨rfl, q3⟩
       have Q3 := hide (below_next Q2.out Q2.out.size q3)
       go_wp2_with fail
       go_ret
       exact ⟨rfl, Q3.out⟩)
    | (go_wp2_with (refine wpList_load_row rfl 40 (.tmp 1) (by rfl) w.heap.size (by rfl) 40 c.cs.toArray (0, 0) _ (by exact B1.out) Tryd.underlying40 (by rfl) (by kernel_rfl) ?_)
       (with_reducible refine (OU.out _).mono ?_)
       rintro e3 w3 ⟨rfl, q3⟩
       have Q3 := hide (below_next Q1.out Q1.out.size q3)
       go_wp2_with fail
       go_ret
       exact ⟨rfl, Q3.out⟩)
end Go.Proofs.YtkfedgjepiljiaaDoor
