/- campanilelaw07: alive, few. -/
import Derived.Test.YtpfbobcilphncaaDoorCtG
import Derived.Test.YtpfbobcilphncaaDoorMgFrR
import Derived.Test.YtpfbobcilphncaaDoorCsM
import Derived.Test.YtpfbobcilphncaaDoorMgRdR
namespace Go.Proofs.YtpfbobcilphncaaDoor
open Go.ChangeShapes Go.WideShapes Go.ChangeAt Go.RowKit
open FP (Fr)

def cut7 (f : Fr) : Fr := { f with data := f.data.extract 0 (min f.data.size 12) }

set_option maxRecDepth 100000 in
set_option maxHeartbeats 1000000 in
theorem few07_any (f : Fr) (w : World) (hs : f.data.size ≤ maxLen) :
    Calls Tryd.prog 7 #[.agg (frc f).toArray] w fun e w' => e = .returned (.agg (frc (cut7 f)).toArray) ∧ Below w.heap.size w w' := by
  obtain ⟨id, ext, rem, dlc, data⟩ := f
  unfold frc cut7
  dsimp only at *
  unfold maxLen at hs
  obtain ⟨m, em, hm⟩ := run_min (P := Tryd.prog) (data.size : Int) 12
  obtain ⟨k, hk⟩ : ∃ k : Nat, k = min data.size 12 := ⟨_, rfl⟩
  have hmk : m = k := by omega
  subst hmk
  have hkl : k ≤ data.size := by omega
  rw [← hk]
  clear hk em
  go_enter Tryd.func7, Tryd.ntmps7
  go_wp2
  refine bodyPost_ret (v := .agg #[.int .u32 id, .bool ext, .bool rem, .int .i64 dlc, .string (data.extract 0 k)]) (by simp [results, Tryd.results7, go_sem]) rfl ⟨rfl, ?_⟩
  exact ((Below.refl _ _).alloc (Nat.le_refl _) _).alloc (by simp) _

/-- A controller that has counted nothing, in a state. -/
def qCl (f : Fr) (hh : Bool) (st n : Int) : Cl := ⟨0, 0, false, 0, st, n, false, false, hh, f, false, ⟨#[]⟩, 0, 0, 0, ⟨#[]⟩, false, 0, false⟩
theorem q_join (f : Fr) (hh : Bool) {n : Int} (h : ¬ n = 10) : (qCl f hh 0 n).one = qCl f hh 0 (n + 1) := by
  unfold Cl.one Cl.join1
  rw [if_pos (show (qCl f hh 0 n).st = 0 from rfl), if_neg (show ¬ (qCl f hh 0 n).n = 10 from h)]
  rfl
theorem q_joins (f : Fr) (hh : Bool) : (qCl f hh 0 10).one = qCl f hh 1 0 := rfl
theorem q_idle (f : Fr) (hh : Bool) : (qCl f hh 1 0).one = qCl f hh 1 0 := rfl
/-- Behind so many recessive bits. -/
def stQ (k : Nat) : Int := if k < 11 then 0 else 1
def nQ (k : Nat) : Int := if k < 11 then k else 0
theorem q_next (f : Fr) (hh : Bool) (k : Nat) : (qCl f hh (stQ k) (nQ k)).one = qCl f hh (stQ (k + 1)) (nQ (k + 1)) := by
  unfold stQ nQ
  by_cases h : k < 11
  · by_cases e : k = 10
    · subst e
      exact q_joins f hh
    · rw [if_pos h, if_pos h, if_pos (show k + 1 < 11 by omega), if_pos (show k + 1 < 11 by omega), q_join f hh (by omega)]
      rfl
  · rw [if_neg h, if_neg h, if_neg (show ¬ k + 1 < 11 by omega), if_neg (show ¬ k + 1 < 11 by omega), q_idle]
theorem ones_q0 (f : Fr) (hh : Bool) : ∀ k : Nat, ones (qCl f hh 0 0) k = qCl f hh (stQ k) (nQ k)
  | 0 => rfl
  | k + 1 => by
    show (ones _ k).one = _
    rw [ones_q0 f hh k, q_next]

def s11 : ByteArray := ⟨#[49, 49, 49, 49, 49, 49, 49, 49, 49, 49, 49]⟩
theorem s11_at (k : Nat) (h : k < s11.size) (W : World) : (Instr.index 9 (.string s11) (.int .i64 k)).run Tryd.prog W = .ok (.int .u8 49) W := by
  have hk : k < 11 := h
  rw [run_index_string _ _ _ _ _ Tryd.underlying9]
  have h1 : (0 : Int) ≤ k ∧ (k : Int) < s11.size := ⟨by omega, by show (k : Int) < 11; omega⟩
  rw [dif_pos h1]
  have e : ∀ j (hj : j < s11.size), (s11[j]'hj) = 49 := by
    intro j hj
    have hj' : j < 11 := hj
    match j, hj' with
    | 0, _ => rfl
    | 1, _ => rfl
    | 2, _ => rfl
    | 3, _ => rfl
    | 4, _ => rfl
    | 5, _ => rfl
    | 6, _ => rfl
    | 7, _ => rfl
    | 8, _ => rfl
    | 9, _ => rfl
    | 10, _ => rfl
    | j + 11, h => exact absurd h (by omega)
  simp only [Int.toNat_natCast]
  rw [e k h]
  rfl

set_option maxRecDepth 100000 in
set_option maxHeartbeats 4000000 in
theorem alive07_any (w : World) : Calls Tryd.prog 9 #[] w fun e w' => e = .returned (.bool true) ∧ Below w.heap.size w w' := by
  have NW := hide (ctlNew_any w)
  have FE := hide (fun W => feed_ones zCl s11 W zCl_q (by decide) s11_at)
  have RT := hide (fun W => ctlRight_q (ones zCl s11.size) W (ones_q zCl_q _))
  have HS := hide (show (ones zCl s11.size).st = 1 by
    have : ones zCl s11.size = qCl zFr false 1 0 := ones_q0 zFr false 11
    rw [this]
    rfl)
  generalize ones zCl s11.size = d at *
  go_enter Tryd.func9, Tryd.ntmps9
  go_wp2_with fail
  (with_reducible refine (NW.out).mono ?_)
  rintro e1 w1 ⟨rfl, q1⟩
  have F1 := hide (FE.out w1)
  unfold s11 at F1
  go_wp2_with fail
  (with_reducible refine (F1.out).mono ?_)
  rintro e2 w2 ⟨rfl, q2⟩
  have Q2 := hide (below_next q1 q1.size q2)
  have q3 : Below w2.heap.size w2 (w2.alloc (.cells zCl.cs.toArray 33)) := (Below.refl _ _).alloc (Nat.le_refl _) _
  have g3 := World.alloc_heap_new w2 (.cells zCl.cs.toArray 33)
  have TH := hide (show (w2.alloc (.cells zCl.cs.toArray 33)).there w2.heap.size 0 23 from there_heap (cs := zCl.cs) g3)
  clear q1 q2 F1 FE NW
  go_wp2_with (refine wpList_store_hid (by rfl) 33 (.tmp 1) (.tmp 6) (by rfl) w2.heap.size 0 d.cs (by rfl) (by rfl) (by exact TH.out) (by kernel_rfl) (by simp [Value.oneCell', Cl.cs]) ?_)
  intro w4 e4
  have X4 := hide (show w4.heap[w2.heap.size]? = some (.cells d.cs.toArray 33 (0, 0)) by rw [e4.out]; exact whole_heap d.cs (xs := zCl.cs) g3 rfl)
  have Q4 := hide (show Below w.heap.size w w4 by rw [e4.out]; exact Q2.out.trans (q3.mono Q2.out.size |>.trans (below_setCells _ _ _ Q2.out.size)))
  obtain ⟨_, ⟨c4, _⟩, _⟩ := cl_cells X4.out
  rw [HS.out] at c4
  clear e4 TH g3 q3 Q2
  have R4 := hide (RT.out w4)
  go_wp2_with (refine wpList_load_rowG (by kernel_rfl) 33 (.tmp 1) (by rfl) w2.heap.size (by rfl) 33 d.cs.toArray (0, 0) _ (by exact X4.out) Tryd.underlying33 (by rfl) (by kernel_rfl) ?_)
  (with_reducible refine (R4.out).mono ?_)
  rintro e5 w5 ⟨rfl, q5⟩
  have Q5 := hide (below_next Q4.out Q4.out.size q5)
  go_wp2_with fail
  go_ret
  exact ⟨rfl, Q5.out⟩
end Go.Proofs.YtpfbobcilphncaaDoor

/- The walk of campanilelaw07.CtlSends. -/
namespace Go.Proofs.YtpfbobcilphncaaDoor
open Go.ChangeShapes Go.WideShapes Go.ChangeAt Go.RowKit
open FP (Fr bitsF bodyF)

theorem idle_q : idleC.Q := ⟨rfl, rfl, (fun e => by cases e), fun _ => rfl, ⟨rfl, rfl, rfl, rfl, rfl, rfl, rfl, rfl, rfl⟩, .inr ⟨rfl, rfl⟩⟩
theorem give_ok {c : Cl} (h : c.Ok) (h1 : c.st = 1) {f : Fr} (hf : FP.rightB f = true) : (c.give f).Ok := ⟨h.cnt, h.offs, fun _ => hf, (fun e => by cases e), h.s0, h.s8, h.n0, h.n9, h.n5, fun e => h.out e, fun e => absurd (h1.symm.trans e) (by decide)⟩
theorem ev_cells {W : World} {x : Nat} {k : Int} {f : Fr} {bad : Int} {t : TypeId} {fz : Nat × Nat} (h : W.heap[x]? = some (.cells (evL k f bad).toArray t fz)) :
    W.cell? ⟨x, 0, none⟩ = some (.int .i64 k) ∧ W.cell? ⟨x, 1, none⟩ = some (.int .u32 f.id) ∧ W.cell? ⟨x, 2, none⟩ = some (.bool f.ext) ∧ W.cell? ⟨x, 3, none⟩ = some (.bool f.rem) ∧ W.cell? ⟨x, 4, none⟩ = some (.int .i64 f.dlc) ∧ W.cell? ⟨x, 5, none⟩ = some (.string f.data) ∧ W.cell? ⟨x, 6, none⟩ = some (.int .i64 bad) := by
  simp [World.cell?, h, evL]

end Go.Proofs.YtpfbobcilphncaaDoor
