/- Controllers: their cells; plain: what may be counted, what may be out of a frame. -/
import Derived.Test.YtkfedgjepiljiaaGreatDoorMgFrPlain
import Derived.Test.YtkfedgjepiljiaaGreatDoorOrdL
import Derived.Test.YtkfedgjepiljiaaGreatDoorMgMem
import Derived.Test.YtkfedgjepiljiaaGreatDoorMgRng
import Derived.Test.YtkfedgjepiljiaaGreatDoorOwS
namespace Go.Proofs.YtkfedgjepiljiaaGreatDoor
open Go.ChangeShapes Go.WideShapes Go.ChangeAt Go.RowKit
open FP (Fr)

structure Cl where
  tc : Int
  rc : Int
  off : Bool
  rs : Int
  st : Int
  n : Int
  was : Bool
  hard : Bool
  has : Bool
  f : Fr
  sends : Bool
  out : ByteArray
  at_ : Int
  last : Int
  sn : Int
  got : ByteArray
  en : Bool
  tail : Int
  good : Bool
def zFr : Fr := ⟨0, false, false, 0, ⟨#[]⟩⟩
def zCl : Cl := ⟨0, 0, false, 0, 0, 0, false, false, false, zFr, false, ⟨#[]⟩, 0, 0, 0, ⟨#[]⟩, false, 0, false⟩
def frL (f : Fr) : List Value := [.int .u32 f.id, .bool f.ext, .bool f.rem, .int .i64 f.dlc, .string f.data]
def Cl.cs (c : Cl) : List Value := [.int .i64 c.tc, .int .i64 c.rc, .bool c.off, .int .i64 c.rs, .int .i64 c.st, .int .i64 c.n, .bool c.was, .bool c.hard, .bool c.has, .int .u32 c.f.id, .bool c.f.ext, .bool c.f.rem, .int .i64 c.f.dlc, .string c.f.data, .bool c.sends, .string c.out, .int .i64 c.at_, .int .u8 c.last, .int .i64 c.sn, .string c.got, .bool c.en, .int .i64 c.tail, .bool c.good]
theorem cl_cells {W : World} {B : Nat} {c : Cl} {t : TypeId} {fz : Nat × Nat} (h : W.heap[B]? = some (.cells c.cs.toArray t fz)) :
    (W.cell? ⟨B, 0, none⟩ = some (.int .i64 c.tc) ∧ W.cell? ⟨B, 1, none⟩ = some (.int .i64 c.rc) ∧ W.cell? ⟨B, 2, none⟩ = some (.bool c.off) ∧ W.cell? ⟨B, 3, none⟩ = some (.int .i64 c.rs)) ∧
    (W.cell? ⟨B, 4, none⟩ = some (.int .i64 c.st) ∧ W.cell? ⟨B, 5, none⟩ = some (.int .i64 c.n) ∧ W.cell? ⟨B, 6, none⟩ = some (.bool c.was) ∧ W.cell? ⟨B, 7, none⟩ = some (.bool c.hard) ∧ W.cell? ⟨B, 8, none⟩ = some (.bool c.has)) ∧
    (W.cell? ⟨B, 9, none⟩ = some (.int .u32 c.f.id) ∧ W.cell? ⟨B, 10, none⟩ = some (.bool c.f.ext) ∧ W.cell? ⟨B, 11, none⟩ = some (.bool c.f.rem) ∧ W.cell? ⟨B, 12, none⟩ = some (.int .i64 c.f.dlc) ∧ W.cell? ⟨B, 13, none⟩ = some (.string c.f.data)) ∧
    (W.cell? ⟨B, 14, none⟩ = some (.bool c.sends) ∧ W.cell? ⟨B, 15, none⟩ = some (.string c.out) ∧ W.cell? ⟨B, 16, none⟩ = some (.int .i64 c.at_) ∧ W.cell? ⟨B, 17, none⟩ = some (.int .u8 c.last) ∧ W.cell? ⟨B, 18, none⟩ = some (.int .i64 c.sn) ∧ W.cell? ⟨B, 19, none⟩ = some (.string c.got) ∧ W.cell? ⟨B, 20, none⟩ = some (.bool c.en) ∧ W.cell? ⟨B, 21, none⟩ = some (.int .i64 c.tail) ∧ W.cell? ⟨B, 22, none⟩ = some (.bool c.good)) := by
  simp [World.cell?, h, Cl.cs]
theorem cl_froz {W : World} {B : Nat} {cs : Array Value} {t : TypeId} (h : W.heap[B]? = some (.cells cs t (0, 0))) (o : Nat) : W.frozen? ⟨B, o, none⟩ = false := by simp [World.frozen?, h]

/-- May it be counted? -/
def cntB (tc rc : Int) (off : Bool) (rs : Int) : Bool := if off = true then decide (tc = 0 ∧ rc = 0 ∧ 1 ≤ rs ∧ rs ≤ 128) else decide (0 ≤ tc ∧ tc ≤ 255 ∧ 0 ≤ rc ∧ rc ≤ 255 ∧ rs = 0)
/-- Is nothing of a frame kept? -/
def Cl.Out (c : Cl) : Prop := c.sends = false ∧ c.out = ⟨#[]⟩ ∧ c.at_ = 0 ∧ c.last = 0 ∧ c.sn = 0 ∧ c.got = ⟨#[]⟩ ∧ c.en = false ∧ c.tail = 0 ∧ c.good = false
/-- Out of any frame, in a state. -/
def Cl.to (c : Cl) (s : Int) : Cl := { c with st := s, n := 0, sends := false, out := ⟨#[]⟩, at_ := 0, last := 0, sn := 0, got := ⟨#[]⟩, en := false, tail := 0, good := false }

/-- A machine: a controller and what happened. -/
structure Mc where
  c : Cl
  kind : Int
  ef : Fr
  bad : Int
def Mc.cs (m : Mc) : List Value := m.c.cs ++ [.int .i64 m.kind, .int .u32 m.ef.id, .bool m.ef.ext, .bool m.ef.rem, .int .i64 m.ef.dlc, .string m.ef.data, .int .i64 m.bad]
def evL (kind : Int) (f : Fr) (bad : Int) : List Value := [.int .i64 kind, .int .u32 f.id, .bool f.ext, .bool f.rem, .int .i64 f.dlc, .string f.data, .int .i64 bad]
end Go.Proofs.YtkfedgjepiljiaaGreatDoor

/- The ends of a walk that answers a Bool. Nothing of the program's text. -/
namespace Go.Proofs.YtkfedgjepiljiaaGreatDoor
theorem r_true {r : Bool} {p : Prop} (h : r = true ↔ p) (hp : p) : true = r := (h.2 hp).symm
theorem r_false {r : Bool} {p : Prop} (h : r = true ↔ p) (hp : ¬ p) : false = r := by
  cases hr : r with
  | false => rfl
  | true => exact absurd (h.1 hr) hp
theorem r_dec {r : Bool} {p q : Prop} [Decidable q] (h : r = true ↔ p) (hq : p ↔ q) : decide q = r := by
  cases hr : r with
  | false => exact decide_eq_false (fun hq2 => by rw [h.2 (hq.2 hq2)] at hr; cases hr)
  | true => exact decide_eq_true (hq.1 (h.1 hr))
end Go.Proofs.YtkfedgjepiljiaaGreatDoor

/- Walks of count.Right, ctl.out, ctl.Right out of a frame. -/
namespace Go.Proofs.YtkfedgjepiljiaaGreatDoor
open Go.ChangeShapes Go.WideShapes Go.ChangeAt Go.RowKit
open FP (Fr)

theorem four_cells {W : World} {B : Nat} {a b c d : Value} {t : TypeId} {fz : Nat × Nat} (h : W.heap[B]? = some (.cells #[a, b, c, d] t fz)) : W.cell? ⟨B, 0, none⟩ = some a ∧ W.cell? ⟨B, 1, none⟩ = some b ∧ W.cell? ⟨B, 2, none⟩ = some c ∧ W.cell? ⟨B, 3, none⟩ = some d := by
  simp [World.cell?, h]

set_option maxRecDepth 100000 in
set_option maxHeartbeats 4000000 in
theorem cntRight_any (tc rc : Int) (off : Bool) (rs : Int) (w : World) : Calls Tryz.prog 12 #[.agg #[.int .i64 tc, .int .i64 rc, .bool off, .int .i64 rs]] w fun e w' => e = .returned (.bool (cntB tc rc off rs)) ∧ Below w.heap.size w w' := by
  obtain ⟨r, hr⟩ : ∃ r, r = cntB tc rc off rs := ⟨_, rfl⟩
  rw [← hr]
  unfold cntB at hr
  have q0 : Below w.heap.size w (w.alloc (.cells #[.int .i64 tc, .int .i64 rc, .bool off, .int .i64 rs] 26)) := (Below.refl _ _).alloc (Nat.le_refl _) _
  obtain ⟨c0, c1, c2, c3⟩ := four_cells (World.alloc_heap_new w (.cells #[.int .i64 tc, .int .i64 rc, .bool off, .int .i64 rs] 26))
  have Q0 := hide q0
  clear q0
  generalize hw0 : w.alloc (.cells #[.int .i64 tc, .int .i64 rc, .bool off, .int .i64 rs] 26) = w0 at *
  cases off with
  | true =>
    have HR := hide (show r = true ↔ (tc = 0 ∧ rc = 0 ∧ 1 ≤ rs ∧ rs ≤ 128) by rw [hr]; simp)
    clear hr
    go_enter Tryz.func12, Tryz.ntmps12
    go_upto_region 1 with fail
    clear hw0
    go_wp2_with fail
    all_goals go_ret
    all_goals refine ⟨ret_bool ?_, Q0.out⟩
    all_goals (first | exact r_true HR.out (by omega) | exact r_false HR.out (by omega) | exact r_dec HR.out (by omega))
  | false =>
    have HR := hide (show r = true ↔ (0 ≤ tc ∧ tc ≤ 255 ∧ 0 ≤ rc ∧ rc ≤ 255 ∧ rs = 0) by rw [hr]; simp)
    clear hr
    go_enter Tryz.func12, Tryz.ntmps12
    go_upto_region 1 with fail
    clear hw0
    go_wp2_with fail
    all_goals go_ret
    all_goals refine ⟨ret_bool ?_, Q0.out⟩
    all_goals (first | exact r_true HR.out (by omega) | exact r_false HR.out (by omega) | exact r_dec HR.out (by omega))

set_option maxRecDepth 100000 in
set_option maxHeartbeats 4000000 in
theorem ctlOut_ok (c : Cl) (w : World) (h : c.Out) : Calls Tryz.prog 15 #[.agg c.cs.toArray] w fun e w' => e = .returned (.bool true) ∧ Below w.heap.size w w' := by
  obtain ⟨w0, hw0⟩ : ∃ w0, w0 = w.alloc (.cells c.cs.toArray 33) := ⟨_, rfl⟩
  have B0 := hide (World.alloc_heap_new w (.cells c.cs.toArray 33))
  have Q0 : Hid (Below w.heap.size w w0) := by rw [hw0]; exact hide ((Below.refl _ _).alloc (Nat.le_refl _) _)
  rw [← hw0] at B0
  obtain ⟨_, _, _, d0, d1, d2, d3, d4, d5, d6, d7, d8⟩ := cl_cells B0.out
  obtain ⟨h0, h1, h2, h3, h4, h5, h6, h7, h8⟩ := h
  rw [h0] at d0
  rw [h1] at d1
  rw [h2] at d2
  rw [h3] at d3
  rw [h4] at d4
  rw [h5] at d5
  rw [h6] at d6
  rw [h7] at d7
  rw [h8] at d8
  clear h0 h1 h2 h3 h4 h5 h6 h7 h8 B0
  go_enter Tryz.func15, Tryz.ntmps15
  go_upto_region 1 with fail
  change Code.wp _ _ _ _ (w.alloc (.cells c.cs.toArray 33))
  rw [← hw0]
  clear hw0
  go_wp2_with fail
  go_ret
  exact ⟨rfl, Q0.out⟩

/-- A controller that may be, and joins or is idle. -/
structure Cl.Q (c : Cl) : Prop where
  cnt : cntB c.tc c.rc c.off c.rs = true
  offs : c.off = (c.st == 8)
  has : c.has = true → FP.rightB c.f = true
  hasn : c.has = false → c.f = zFr
  out : c.Out
  st : (c.st = 0 ∧ 0 ≤ c.n ∧ c.n ≤ 10) ∨ (c.st = 1 ∧ c.n = 0)
theorem right_id {f : Fr} (h : FP.rightB f = true) : f.id < 4294967296 := by
  unfold FP.rightB at h
  simp only [Bool.and_eq_true, decide_eq_true_eq] at h
  have := h.1.1.1
  split at this <;> omega

set_option maxRecDepth 100000 in
set_option maxHeartbeats 16000000 in
theorem ctlRight_q (c : Cl) (w : World) (h : c.Q) : Calls Tryz.prog 5 #[.agg c.cs.toArray] w fun e w' => e = .returned (.bool true) ∧ Below w.heap.size w w' := by
  obtain ⟨hcnt, hoff, hhas, hhasn, hout, hst⟩ := h
  have OU := hide (fun W => ctlOut_ok c W hout)
  clear hout
  obtain ⟨tc, rc, off, rs, st, n, was, hard, has, f, sends, out, at_, last, sn, got, en, tail, good⟩ := c
  dsimp only at *
  have HN := hide (show has = false → f = ⟨0, false, false, 0, ⟨#[]⟩⟩ from hhasn)
  have HR := hide hhas
  clear hhas hhasn
  rcases hst with ⟨rfl, hn1, hn2⟩ | ⟨rfl, rfl⟩
  all_goals (first | obtain rfl : off = true := hoff | obtain rfl : off = false := hoff)
  all_goals have CN := hide (fun W => hcnt ▸ cntRight_any tc rc _ rs W)
  all_goals clear hcnt
  all_goals cases has
  all_goals (first | obtain rfl := HN.out rfl | have FR := hide (fun W => HR.out rfl ▸ frRight_any f W (right_id (HR.out rfl))))
  all_goals clear HN HR
  all_goals generalize hc : (⟨tc, rc, _, rs, _, _, was, hard, _, _, sends, out, at_, last, sn, got, en, tail, good⟩ : Cl) = c at OU
  all_goals have HC := hide hc
  all_goals clear hc
  all_goals obtain ⟨w0, hw0⟩ : ∃ w0, w0 = w.alloc (.cells c.cs.toArray 33) := ⟨_, rfl⟩
  all_goals have B0 := hide (World.alloc_heap_new w (.cells c.cs.toArray 33))
  all_goals have Q0 : Hid (Below w.heap.size w w0) := by rw [hw0]; exact hide ((Below.refl _ _).alloc (Nat.le_refl _) _)
  all_goals rw [← hw0] at B0
  all_goals obtain ⟨⟨c0, c1, c2, c3⟩, ⟨c4, c5, c6, c7, c8⟩, ⟨c9, c10, c11, c12, c13⟩, _⟩ := cl_cells B0.out
  all_goals rw [← HC.out] at c0 c1 c2 c3 c4 c5 c8 c9 c10 c11 c12 c13
  all_goals dsimp only at c0 c1 c2 c3 c4 c5 c8 c9 c10 c11 c12 c13
  all_goals clear c6 c7
  all_goals
    go_enter Tryz.func5, Tryz.ntmps5
    go_upto_region 1 with fail
    change Code.wp _ _ _ _ (w.alloc (.cells c.cs.toArray 33))
    rw [← hw0]
    clear hw0
    go_wp2_with fail
    (with_reducible refine (CN.out _).mono ?_)
    rintro e1 w1 ⟨rfl, q1⟩
    have B1 := hide (heap_below B0.out q1)
    have Q1 := hide (below_next Q0.out Q0.out.size q1)
    clear q1 B0 Q0 CN c0 c1 c2 c3 c4 c5 c8 c9 c10 c11 c12 c13
    obtain ⟨⟨c0, c1, c2, c3⟩, ⟨c4, c5, c6, c7, c8⟩, ⟨c9, c10, c11, c12, c13⟩, _⟩ := cl_cells B1.out
    rw [← HC.out] at c0 c1 c2 c3 c4 c5 c8 c9 c10 c11 c12 c13
    dsimp only at c0 c1 c2 c3 c4 c5 c8 c9 c10 c11 c12 c13
    clear c6 c7
    first
    | (go_wp2_with fail
       (with_reducible refine (FR.out _).mono ?_)
       rintro e2 w2 ⟨rfl, q2⟩
       have B2 := hide (heap_below B1.out q2)
       have Q2 := hide (below_next Q1.out Q1.out.size q2)
       clear q2 B1 Q1 FR c0 c1 c2 c3 c4 c5 c8 c9 c10 c11 c12 c13
       obtain ⟨⟨c0, c1, c2, c3⟩, ⟨c4, c5, c6, c7, c8⟩, ⟨c9, c10, c11, c12, c13⟩, _⟩ := cl_cells B2.out
       rw [← HC.out] at c4 c8
       dsimp only at c4 c8
       clear c0 c1 c2 c3 c5 c6 c7 c9 c10 c11 c12 c13
       go_wp2_with (refine wpList_load_row rfl 33 (.tmp 1) (by rfl) w.heap.size (by rfl) 33 c.cs.toArray (0, 0) _ (by exact B2.out) Tryz.underlying33 (by rfl) (by kernel_rfl) ?_)
       (with_reducible refine (OU.out _).mono ?_)
       rintro e3 w3 ⟨rfl, q3⟩
       have Q3 := hide (below_next Q2.out Q2.out.size q3)
       go_wp2_with fail
       go_ret
       exact ⟨rfl, Q3.out⟩)
    | (go_wp2_with (refine wpList_load_row rfl 33 (.tmp 1) (by rfl) w.heap.size (by rfl) 33 c.cs.toArray (0, 0) _ (by exact B1.out) Tryz.underlying33 (by rfl) (by kernel_rfl) ?_)
       (with_reducible refine (OU.out _).mono ?_)
       rintro e3 w3 ⟨rfl, q3⟩
       have Q3 := hide (below_next Q1.out Q1.out.size q3)
       go_wp2_with fail
       go_ret
       exact ⟨rfl, Q3.out⟩)
end Go.Proofs.YtkfedgjepiljiaaGreatDoor

/- What a range over a function asks of rows of the call's own; an append in a round. Nothing of the program's text. -/
namespace Go.Proofs.YtkfedgjepiljiaaGreatDoor
open Go.ChangeShapes Go.WideShapes Go.ChangeAt Go.RowKit

theorem own_put {W : World} {base e sz : Nat} {A : Option Addr} {c : Nat} {r : List (List Value)} (h : Own W base e sz A c r) {l : Nat} {o o' : Obj} (ho : W.heap[l]? = some o) (hc : o.isCells = false) : Own (W.putObj l o') base e sz A c r := by
  refine World.ownsRow.kept h (grownBy_putObj' W l o') ?_
  rcases h.2 with ⟨hv, _⟩ | ⟨g, cap, cur, hv, _, hgh, _⟩
  · rw [hv]; exact .inl rfl
  · rw [hv]
    refine .inr ?_
    simp only [Value.ownBlock, ne_eq, Option.some.injEq]
    rintro rfl
    rw [ho] at hgh
    injection hgh with hgh
    subst hgh
    cases hc

theorem heap_put {W : World} {x l : Nat} {o o' : Obj} {cs : Array Value} {t : TypeId} {fz : Nat × Nat} (h : W.heap[x]? = some (.cells cs t fz)) (ho : W.heap[l]? = some o) (hc : o.isCells = false) : (W.putObj l o').heap[x]? = some (.cells cs t fz) := by
  have : x ≠ l := by
    rintro rfl
    rw [ho] at h
    injection h with h
    subst h
    cases hc
  rw [World.putObj_heap_other this]
  exact h

theorem keeps_grown {W W' : World} {row : Option Nat} (hg : W.grownBy W' row) (hc : ∀ j o, row = some j → W.heap[j]? = some o → o.isCells = true) : KeepsOthers W W' :=
  ⟨hg.size, fun k o h1 h2 => by
    have hlt := (Array.getElem?_eq_some_iff.1 h1).1
    by_cases e : some k = row
    · have := hc k o e.symm h1
      rw [h2] at this
      cases this
    · exact (hg.block k hlt e).trans h1⟩

/-- 's = append(s, ds...)' in a round. -/
theorem wpListIn_append_rows {F : Fence} {m : Nat} {P : Program} {ops : Array Oper} {rest : List Oper} {o : Oper} {a : Act} {Q : Exit → Act → World → Prop} (w : World) (hgd : o.guard = none) (s x : Operand) (t : TypeId)
    (ho : o.op = .call { callee := .builtin .append, args := #[s, x], argTypes := #[t, t] })
    {e : TypeId} {sz bytes : Nat} (T : SlT P t e sz bytes) (base : Nat) (A : Option Addr) (N c : Nat) (cs : List (List Value)) (hs : a.eval s = .slice A N c) (hown : Own w base e sz A c cs)
    (B : Option Addr) (M d : Nat) (ds : List (List Value)) (hx : a.eval x = .slice B M d) (hrd : Rd w w.heap.size B sz ds) (hds : ∀ r ∈ ds, r.length = sz) (h1 : ∀ r ∈ ds, ∀ u ∈ r, u.oneCell' = true)
    (hbytes : (cs.length + ds.length) * bytes ≤ 140737488355328) (h63 : cs.length + ds.length ≤ maxLen) (hbase : base ≤ w.heap.size) (hN : N = cs.length) (hM : M = ds.length)
    (h : ∀ A' c' w', Own w' base e sz A' c' (cs ++ ds) → w.grownBy w' (Value.slice A N c).ownBlock → wpListIn F m P ops Q rest (a.put o.dst (.slice A' (N + M) c')) w') : wpListIn F m P ops Q (o :: rest) a w := by
  refine wpListIn_plain hgd fun K hK' => ?_
  obtain ⟨A', c', w', hrun, h2, h3⟩ := run_append_rows (P := P) (ty := o.type) w T base A c cs hown B d ds hrd hds h1 hbytes h63 hbase N M hN hM
  unfold Oper.wpIn
  refine ⟨?_, ?_⟩
  · simp [Oper.about, ho, resolve, Target.leads, Sem.run_pure]
  · rw [Oper.semAt_plain F _ _ (by rw [ho]; intro c hc'; cases hc')]
    simp [execOp, ho, resolve, invoke, builtin, hs, hx, hrun, Result.andThen]
    exact hK' _ _ (h A' c' w' h2 h3)

theorem one_free {W : World} {B : Nat} {v : Value} {t : TypeId} (h : W.heap[B]? = some (.cells #[v] t (0, 0))) : W.cell? ⟨B, 0, none⟩ = some v ∧ W.frozen? ⟨B, 0, none⟩ = false := by
  simp [World.cell?, World.frozen?, h]

theorem heap_grown2 {W W' : World} {x : Nat} {o : Obj} (h : W.heap[x]? = some o) {base : Nat} {e : TypeId} {sz : Nat} {A : Option Addr} {c n : Nat} {cs : List (List Value)} (hg : W.grownBy W' (Value.slice A n c).ownBlock) (ho : Own W base e sz A c cs) (hx : x < base := by omega) : W'.heap[x]? = some o := by
  refine heap_grownB h hg ?_
  intro he
  have := (World.ownsRow.lt ho x (by rw [← he]; cases A <;> rfl)).1
  omega

/-- An append into a row of the call's own leaves all that is no cells. -/
theorem keeps_own {W W' : World} {base e sz n c : Nat} {A : Option Addr} {cs : List (List Value)} (ho : Own W base e sz A c cs) (hg : W.grownBy W' (Value.slice A n c).ownBlock) : KeepsOthers W W' := keeps_grown hg (fun j o he h => by
  rcases ho.2 with ⟨hv, _⟩ | ⟨g, cap, cur, hv, _, hgh, _⟩
  · simp only [Value.slice.injEq] at hv
    rw [hv.1] at he
    cases he
  · simp only [Value.slice.injEq] at hv
    rw [hv.1] at he
    simp only [Value.ownBlock, Option.some.injEq] at he
    subst he
    rw [h] at hgh
    injection hgh with hgh
    rw [hgh]
    rfl)
end Go.Proofs.YtkfedgjepiljiaaGreatDoor

/- append of one row to a row of the call's own; what else stands behind it. Nothing of the program's text. -/
namespace Go.Proofs.YtkfedgjepiljiaaGreatDoor
open Go.ChangeShapes Go.WideShapes Go.ChangeAt Go.RowKit

theorem heapLow {B : Nat} {W W' : World} {x : Nat} {o : Obj} (h : W.heap[x]? = some o) (hb : Below B W W') (hx : x < B) : W'.heap[x]? = some o := (hb.block x hx).trans h

/-- What an append of one row makes of the world. -/
structure Ap1 (w w' : World) (base : Nat) (e : TypeId) (sz : Nat) (A : Option Addr) (c : Nat) (rows : List (List Value)) (row : List Value) (A' : Option Addr) (c' : Nat) : Prop where
  own : Own w' base e sz A' c' (rows ++ [row])
  old : Own w base e sz A c rows
  below : Below base w w'
  base : base ≤ w.heap.size
  grown : (w.alloc (.cells row.toArray e)).grownBy w' (Value.slice A rows.length c).ownBlock

theorem Ap1.q {w w' : World} {base : Nat} {e : TypeId} {sz : Nat} {A : Option Addr} {c : Nat} {rows : List (List Value)} {row : List Value} {A' : Option Addr} {c' : Nat} (h : Ap1 w w' base e sz A c rows row A' c') {B : Nat} {W : World} (hb : Below B W w) (hB : B ≤ base) : Below B W w' := hb.trans (h.below.mono hB)
/-- Another row, of another type, stands. -/
theorem Ap1.other {w w' : World} {base : Nat} {e : TypeId} {sz : Nat} {A : Option Addr} {c : Nat} {rows : List (List Value)} {row : List Value} {A' : Option Addr} {c' : Nat} (h : Ap1 w w' base e sz A c rows row A' c')
    {base2 e2 sz2 : Nat} {A2 : Option Addr} {c2 : Nat} {r2 : List (List Value)} (h2 : Own w base2 e2 sz2 A2 c2 r2) (hte : e2 ≠ e) : Own w' base2 e2 sz2 A2 c2 r2 :=
  own_apartT (h2.alloc _) (h.old.alloc _) hte h.grown
/-- A block of another kind stands. -/
theorem Ap1.heap {w w' : World} {base : Nat} {e : TypeId} {sz : Nat} {A : Option Addr} {c : Nat} {rows : List (List Value)} {row : List Value} {A' : Option Addr} {c' : Nat} (h : Ap1 w w' base e sz A c rows row A' c')
    {x : Nat} {cs : Array Value} {t : TypeId} {fz : Nat × Nat} (hx : w.heap[x]? = some (.cells cs t fz)) (hte : t ≠ e) : w'.heap[x]? = some (.cells cs t fz) :=
  heap_grown (heap_below hx ((Below.refl _ _).alloc (Nat.le_refl _) (.cells row.toArray e))) hte (h.old.alloc _) h.grown
theorem Ap1.low {w w' : World} {base : Nat} {e : TypeId} {sz : Nat} {A : Option Addr} {c : Nat} {rows : List (List Value)} {row : List Value} {A' : Option Addr} {c' : Nat} (h : Ap1 w w' base e sz A c rows row A' c')
    {x : Nat} {o : Obj} (hx : w.heap[x]? = some o) (hb : x < base) : w'.heap[x]? = some o := heapLow hx h.below hb

section
variable {P : Program} {ops : Array Oper} {rest : List Oper} {o : Oper} {a : Act} {Q : Exit → Act → World → Prop}
theorem ap1_side (w : World) {e sz : Nat} (row : List Value) (hr : row.length = sz) :
    Rd (w.alloc (.cells row.toArray e)) (w.alloc (.cells row.toArray e)).heap.size (some ⟨w.heap.size, 0, none⟩) sz [row] := by
  have := Rd.new w [row] sz e (0, 0) (by simpa using hr)
  simpa using this

theorem wpList_append_one (w : World) (cs : Array Value) (row : List Value) (hcs : cs = row.toArray) (hgd : o.guard = none) (s x : Operand) (t : TypeId)
    (ho : o.op = .call { callee := .builtin .append, args := #[s, x], argTypes := #[t, t] })
    {e : TypeId} {sz bytes : Nat} (T : SlT P t e sz bytes) (hby : bytes ≤ 4096) (hr : row.length = sz) (h1 : ∀ u ∈ row, u.oneCell' = true) (base : Nat) (A : Option Addr) (N c : Nat) (rows : List (List Value)) (hs : a.eval s = .slice A N c) (hown : Own w base e sz A c rows)
    (d : Nat) (hx : a.eval x = .slice (some ⟨w.heap.size, 0, none⟩) 1 d)
    (hl : rows.length ≤ 1000000000) (hbase : base ≤ w.heap.size) (hN : N = rows.length)
    (h : ∀ A' c' w', Ap1 w w' base e sz A c rows row A' c' → wpList P ops Q rest (a.put o.dst (.slice A' (N + 1) c')) w') : wpList P ops Q (o :: rest) a (w.alloc (.cells cs e)) := by
  subst hcs
  have hN2 := hN
  subst hN
  have q : Below w.heap.size w (w.alloc (.cells row.toArray e)) := (Below.refl _ _).alloc (Nat.le_refl _) _
  refine wpList_append_rows _ hgd s x t ho T base A rows.length c rows hs (hown.alloc _) _ 1 d [row] hx (ap1_side w row hr) (by simpa using hr) (by simpa using h1)
    (Nat.le_trans (Nat.mul_le_mul (show rows.length + [row].length ≤ 1000000001 by simp; omega) hby) (by decide)) (by simp [maxLen]; omega) (by simp; omega) rfl rfl ?_
  intro A' c' w' o1 g1
  exact h A' c' w' ⟨o1, hown, (q.mono hbase).trans (below_own g1 (hown.alloc _) (by simp; omega)), hbase, g1⟩
end
end Go.Proofs.YtkfedgjepiljiaaGreatDoor

/- Loads of rows that are guarded, in a plain region. Nothing of the program's text. -/
namespace Go.Proofs.YtkfedgjepiljiaaGreatDoor
open Go.ChangeShapes Go.WideShapes Go.ChangeAt Go.RowKit

theorem wpList_load_rowG {P : Program} {ops : Array Oper} {rest : List Oper} {o : Oper} {a : Act} {w : World} {Q : Exit → Act → World → Prop} (hw : Region.wanted o (yielded ops a.tmps) = true) (ty : TypeId) (x : Operand) (ho : o.op = .load ty x)
    (g : Nat) (hx : a.eval x = .pointer (some ⟨g, 0, none⟩)) (t : TypeId) (cs : Array Value) (fr : Nat × Nat) (d : TypeDesc) (hg : w.heap[g]? = some (.cells cs t fr))
    (hu : P.underlying ty = some d) (hd : (match d with | .struct _ | .array _ _ => true | _ => false) = true) (hi : (P.info? ty).map (·.size) = some cs.size)
    (h : wpList P ops Q rest (a.put o.dst (.agg cs)) w) : wpList P ops Q (o :: rest) a w :=
  wpList_step fun K hK => by
    rw [if_pos hw]
    exact wp_load_row ty x ho g hx t cs fr d hg hu hd hi (hK _ _ h)
theorem wpList_load_midG {P : Program} {ops : Array Oper} {rest : List Oper} {op : Oper} {a : Act} {w : World} {Q : Exit → Act → World → Prop} (hw : Region.wanted op (yielded ops a.tmps) = true) (ty : TypeId) (x : Operand) (ho : op.op = .load ty x)
    (b o : Nat) (hx : a.eval x = .pointer (some ⟨b, o, none⟩)) (cs : List Value) (d : TypeDesc) (hc : w.rangeAt b o cs)
    (hu : P.underlying ty = some d) (hd : d.isRow = true) (hi : (P.info? ty).map (·.size) = some cs.length)
    (h : wpList P ops Q rest (a.put op.dst (.agg cs.toArray)) w) : wpList P ops Q (op :: rest) a w :=
  wpList_step fun K hK => by
    rw [if_pos hw]
    exact wp_load_mid ty x ho b o hx cs d hc hu hd hi (hK _ _ h)
end Go.Proofs.YtkfedgjepiljiaaGreatDoor
