/- Plain: what happens at a bit, whatever controller may be. -/
import Derived.Test.YtjfgapljfbkfiaaDoorCsN
import Derived.Test.YtjfgapljfbkfiaaDoorStQ
import Derived.Test.YtjfgapljfbkfiaaDoorCsOP
import Derived.Test.YtjfgapljfbkfiaaDoorCtG
import Derived.Test.YtjfgapljfbkfiaaDoorMgFrR
import Derived.Test.YtjfgapljfbkfiaaDoorCsM
import Derived.Test.YtjfgapljfbkfiaaDoorMgCsR
import Derived.Test.YtjfgapljfbkfiaaDoorMgRdF
import Derived.Test.YtjfgapljfbkfiaaDoorRdR
import Derived.Test.YtjfgapljfbkfiaaDoorOrdL
namespace Go.Proofs.YtjfgapljfbkfiaaDoor
open Go.ChangeShapes Go.WideShapes Go.ChangeAt Go.RowKit
open FP (Fr uN uK doneB sizeE sizeV readV headOf bitsF bodyF RS rsStep rs0 rsOf goodB)

/-- An event that may be. -/
structure EvOk (M : Mc) : Prop where
  k0 : 0 ≤ M.kind
  k4 : M.kind ≤ 4
  bad : M.kind = 3 ↔ M.bad ≠ 0
  fr : M.kind = 1 ∨ M.kind = 2 → FP.rightB M.ef = true
theorem ev_none (d : Cl) (f : Fr) : EvOk ⟨d, 0, f, 0⟩ := ⟨(by decide : (0 : Int) ≤ 0), (by decide : (0 : Int) ≤ 4), ⟨fun e => absurd e (by show ¬ (0 : Int) = 3; decide), fun e => absurd rfl e⟩, fun e => by rcases e with e | e <;> exact absurd e (by show ¬ (0 : Int) = _; decide)⟩
theorem ev_lost (d : Cl) (f : Fr) : EvOk ⟨d, 4, f, 0⟩ := ⟨(by decide : (0 : Int) ≤ 4), (by decide : (4 : Int) ≤ 4), ⟨fun e => absurd e (by show ¬ (4 : Int) = 3; decide), fun e => absurd rfl e⟩, fun e => by rcases e with e | e <;> exact absurd e (by show ¬ (4 : Int) = _; decide)⟩
theorem ev_bad (d : Cl) (f : Fr) (k : Int) (hk : k ≠ 0) : EvOk ⟨d, 3, f, k⟩ := ⟨(by decide : (0 : Int) ≤ 3), (by decide : (3 : Int) ≤ 4), ⟨fun _ => hk, fun _ => rfl⟩, fun e => by rcases e with e | e <;> exact absurd e (by show ¬ (3 : Int) = _; decide)⟩
theorem ev_fr (d : Cl) (f : Fr) (k : Int) (hk : k = 1 ∨ k = 2) (hf : FP.rightB f = true) : EvOk ⟨d, k, f, 0⟩ := ⟨by show 0 ≤ k; omega, by show k ≤ 4; omega, ⟨fun e => absurd e (by show ¬ k = 3; omega), fun e => absurd rfl e⟩, fun _ => hf⟩
theorem ev_take (c : Cl) (k : Int) (b : UInt8) (hk : k = 0 ∨ k = 4) : EvOk (c.take k b) := by
  unfold Cl.take
  split
  · exact ev_bad _ _ 10 (by decide)
  · split
    · exact ev_bad _ _ 12 (by decide)
    · rcases hk with rfl | rfl
      · exact ev_none _ _
      · exact ev_lost _ _
theorem Cl.Ok.ev {c : Cl} (h : c.Ok) (b : UInt8) : EvOk (c.samp b) := by
  unfold Cl.samp
  split
  · exact ev_none _ _
  · split
    · exact ev_none _ _
    · split
      · rename_i hs
        unfold Cl.frame
        split
        · unfold Cl.behind
          split
          · exact ev_bad _ _ 14 (by decide)
          · split
            · exact ev_bad _ _ 12 (by decide)
            · split
              · exact ev_bad _ _ 11 (by decide)
              · split
                · unfold Cl.ends
                  split
                  · exact ev_none _ _
                  · split
                    · rename_i hsd
                      exact ev_fr _ _ 1 (.inl rfl) (h.has ((h.inn hs).yes hsd).1)
                    · exact ev_none _ _
                · split
                  · rename_i h8
                    have hi := h.inn hs
                    have hg : goodB c.g = true := by
                      have := hi.gd h8.2 (by omega)
                      rw [hi.good, Bool.and_eq_true] at this
                      exact this.2
                    exact ev_fr _ _ 2 (.inr rfl) (FP.good_only hi.bits hg).2
                  · exact ev_none _ _
        · unfold Cl.body
          split
          · split
            · exact ev_take _ 4 b (.inr rfl)
            · exact ev_bad _ _ 13 (by decide)
          · exact ev_take _ 0 b (.inl rfl)
      · split
        · exact ev_none _ _
        · split
          · exact ev_none _ _
          · split
            · exact ev_none _ _
            · split
              · exact ev_none _ _
              · split
                · exact ev_none _ _
                · exact ev_none _ _
end Go.Proofs.YtjfgapljfbkfiaaDoor

/- campanilelaw07: alive, few. -/
namespace Go.Proofs.YtjfgapljfbkfiaaDoor
open Go.ChangeShapes Go.WideShapes Go.ChangeAt Go.RowKit
open FP (Fr)

def cut7 (f : Fr) : Fr := { f with data := f.data.extract 0 (min f.data.size 12) }

set_option maxRecDepth 100000 in
set_option maxHeartbeats 1000000 in
theorem few07_any (f : Fr) (w : World) (hs : f.data.size ≤ maxLen) :
    Calls Tryd.prog 7 #[.agg (frc f).toArray] w fun e w' => e = .returned (.agg (frc (cut7 f)).toArray) ∧ Below w.heap.size w w' := by
  obtain ⟨id, ext, rem, dlc, data⟩ := f
  unfold frc cut7
  dsimp only at *
  unfold maxLen at hs
  obtain ⟨m, em, hm⟩ := run_min (P := Tryd.prog) (data.size : Int) 12
  obtain ⟨k, hk⟩ : ∃ k : Nat, k = min data.size 12 := ⟨_, rfl⟩
  have hmk : m = k := by omega
  subst hmk
  have hkl : k ≤ data.size := by omega
  rw [← hk]
  clear hk em
  go_enter Tryd.func7, Tryd.ntmps7
  go_wp2
  refine bodyPost_ret (v := .agg #[.int .u32 id, .bool ext, .bool rem, .int .i64 dlc, .string (data.extract 0 k)]) (by simp [results, Tryd.results7, go_sem]) rfl ⟨rfl, ?_⟩
  exact ((Below.refl _ _).alloc (Nat.le_refl _) _).alloc (by simp) _

/-- A controller that has counted nothing, in a state. -/
def qCl (f : Fr) (hh : Bool) (st n : Int) : Cl := ⟨0, 0, false, 0, st, n, false, false, hh, f, false, ⟨#[]⟩, 0, 0, 0, ⟨#[]⟩, false, 0, false⟩
theorem q_join (f : Fr) (hh : Bool) {n : Int} (h : ¬ n = 10) : (qCl f hh 0 n).one = qCl f hh 0 (n + 1) := by
  unfold Cl.one Cl.join1
  rw [if_pos (show (qCl f hh 0 n).st = 0 from rfl), if_neg (show ¬ (qCl f hh 0 n).n = 10 from h)]
  rfl
theorem q_joins (f : Fr) (hh : Bool) : (qCl f hh 0 10).one = qCl f hh 1 0 := rfl
theorem q_idle (f : Fr) (hh : Bool) : (qCl f hh 1 0).one = qCl f hh 1 0 := rfl
/-- Behind so many recessive bits. -/
def stQ (k : Nat) : Int := if k < 11 then 0 else 1
def nQ (k : Nat) : Int := if k < 11 then k else 0
theorem q_next (f : Fr) (hh : Bool) (k : Nat) : (qCl f hh (stQ k) (nQ k)).one = qCl f hh (stQ (k + 1)) (nQ (k + 1)) := by
  unfold stQ nQ
  by_cases h : k < 11
  · by_cases e : k = 10
    · subst e
      exact q_joins f hh
    · rw [if_pos h, if_pos h, if_pos (show k + 1 < 11 by omega), if_pos (show k + 1 < 11 by omega), q_join f hh (by omega)]
      rfl
  · rw [if_neg h, if_neg h, if_neg (show ¬ k + 1 < 11 by omega), if_neg (show ¬ k + 1 < 11 by omega), q_idle]
theorem ones_q0 (f : Fr) (hh : Bool) : ∀ k : Nat, ones (qCl f hh 0 0) k = qCl f hh (stQ k) (nQ k)
  | 0 => rfl
  | k + 1 => by
    show (ones _ k).one = _
    rw [ones_q0 f hh k, q_next]

def s11 : ByteArray := ⟨#[49, 49, 49, 49, 49, 49, 49, 49, 49, 49, 49]⟩
theorem s11_at (k : Nat) (h : k < s11.size) (W : World) : (Instr.index 9 (.string s11) (.int .i64 k)).run Tryd.prog W = .ok (.int .u8 49) W := by
  have hk : k < 11 := h
  rw [run_index_string _ _ _ _ _ Tryd.underlying9]
  have h1 : (0 : Int) ≤ k ∧ (k : Int) < s11.size := ⟨by omega, by show (k : Int) < 11; omega⟩
  rw [dif_pos h1]
  have e : ∀ j (hj : j < s11.size), (s11[j]'hj) = 49 := by
    intro j hj
    have hj' : j < 11 := hj
    match j, hj' with
    | 0, _ => rfl
    | 1, _ => rfl
    | 2, _ => rfl
    | 3, _ => rfl
    | 4, _ => rfl
    | 5, _ => rfl
    | 6, _ => rfl
    | 7, _ => rfl
    | 8, _ => rfl
    | 9, _ => rfl
    | 10, _ => rfl
    | j + 11, h => exact absurd h (by omega)
  simp only [Int.toNat_natCast]
  rw [e k h]
  rfl

set_option maxRecDepth 100000 in
set_option maxHeartbeats 4000000 in
theorem alive07_any (w : World) : Calls Tryd.prog 5 #[] w fun e w' => e = .returned (.bool true) ∧ Below w.heap.size w w' := by
  have NW := hide (ctlNew_any w)
  have FE := hide (fun W => feed_ones zCl s11 W zCl_q (by decide) s11_at)
  have RT := hide (fun W => ctlRight_q (ones zCl s11.size) W (ones_q zCl_q _))
  have HS := hide (show (ones zCl s11.size).st = 1 by
    have : ones zCl s11.size = qCl zFr false 1 0 := ones_q0 zFr false 11
    rw [this]
    rfl)
  generalize ones zCl s11.size = d at *
  go_enter Tryd.func5, Tryd.ntmps5
  go_wp2_with fail
  (with_reducible refine (NW.out).mono ?_)
  rintro e1 w1 ⟨rfl, q1⟩
  have F1 := hide (FE.out w1)
  unfold s11 at F1
  go_wp2_with fail
  (with_reducible refine (F1.out).mono ?_)
  rintro e2 w2 ⟨rfl, q2⟩
  have Q2 := hide (below_next q1 q1.size q2)
  have q3 : Below w2.heap.size w2 (w2.alloc (.cells zCl.cs.toArray 34)) := (Below.refl _ _).alloc (Nat.le_refl _) _
  have g3 := World.alloc_heap_new w2 (.cells zCl.cs.toArray 34)
  have TH := hide (show (w2.alloc (.cells zCl.cs.toArray 34)).there w2.heap.size 0 23 from there_heap (cs := zCl.cs) g3)
  clear q1 q2 F1 FE NW
  go_wp2_with (refine wpList_store_hid (by rfl) 34 (.tmp 1) (.tmp 6) (by rfl) w2.heap.size 0 d.cs (by rfl) (by rfl) (by exact TH.out) (by kernel_rfl) (by simp [Value.oneCell', Cl.cs]) ?_)
  intro w4 e4
  have X4 := hide (show w4.heap[w2.heap.size]? = some (.cells d.cs.toArray 34 (0, 0)) by rw [e4.out]; exact whole_heap d.cs (xs := zCl.cs) g3 rfl)
  have Q4 := hide (show Below w.heap.size w w4 by rw [e4.out]; exact Q2.out.trans (q3.mono Q2.out.size |>.trans (below_setCells _ _ _ Q2.out.size)))
  obtain ⟨_, ⟨c4, _⟩, _⟩ := cl_cells X4.out
  rw [HS.out] at c4
  clear e4 TH g3 q3 Q2
  have R4 := hide (RT.out w4)
  go_wp2_with (refine wpList_load_rowG (by kernel_rfl) 34 (.tmp 1) (by rfl) w2.heap.size (by rfl) 34 d.cs.toArray (0, 0) _ (by exact X4.out) Tryd.underlying34 (by rfl) (by kernel_rfl) ?_)
  (with_reducible refine (R4.out).mono ?_)
  rintro e5 w5 ⟨rfl, q5⟩
  have Q5 := hide (below_next Q4.out Q4.out.size q5)
  go_wp2_with fail
  go_ret
  exact ⟨rfl, Q5.out⟩
end Go.Proofs.YtjfgapljfbkfiaaDoor

/- The walk of campanilelaw07.CtlSends. -/
namespace Go.Proofs.YtjfgapljfbkfiaaDoor
open Go.ChangeShapes Go.WideShapes Go.ChangeAt Go.RowKit
open FP (Fr bitsF bodyF)

theorem idle_q : idleC.Q := ⟨rfl, rfl, (fun e => by cases e), fun _ => rfl, ⟨rfl, rfl, rfl, rfl, rfl, rfl, rfl, rfl, rfl⟩, .inr ⟨rfl, rfl⟩⟩
theorem give_ok {c : Cl} (h : c.Ok) (h1 : c.st = 1) {f : Fr} (hf : FP.rightB f = true) : (c.give f).Ok := ⟨h.cnt, h.offs, fun _ => hf, (fun e => by cases e), h.s0, h.s8, h.n0, h.n9, h.n5, fun e => h.out e, fun e => absurd (h1.symm.trans e) (by decide)⟩
theorem ev_cells {W : World} {x : Nat} {k : Int} {f : Fr} {bad : Int} {t : TypeId} {fz : Nat × Nat} (h : W.heap[x]? = some (.cells (evL k f bad).toArray t fz)) :
    W.cell? ⟨x, 0, none⟩ = some (.int .i64 k) ∧ W.cell? ⟨x, 1, none⟩ = some (.int .u32 f.id) ∧ W.cell? ⟨x, 2, none⟩ = some (.bool f.ext) ∧ W.cell? ⟨x, 3, none⟩ = some (.bool f.rem) ∧ W.cell? ⟨x, 4, none⟩ = some (.int .i64 f.dlc) ∧ W.cell? ⟨x, 5, none⟩ = some (.string f.data) ∧ W.cell? ⟨x, 6, none⟩ = some (.int .i64 bad) := by
  simp [World.cell?, h, evL]

end Go.Proofs.YtjfgapljfbkfiaaDoor

/- The walks of the reference's Turn and Right of rows. -/
namespace Go.Proofs.YtjfgapljfbkfiaaDoor
open Go.ChangeShapes Go.WideShapes Go.ChangeAt Go.RowKit
open FP (turnF)

theorem turn_str (s : ByteArray) (i k : Nat) (h : i < s.size) (hk : k = i + 1) (c : UInt8) (hc : (if s.data.toList[i]? = some 48 then (49 : UInt8) else 48) = c) :
    s.extract 0 i ++ ⟨#[c]⟩ ++ s.extract k s.size = ⟨(turnF s.data.toList i).toArray⟩ := by
  have LS : s.data.toList.length = s.size := Array.length_toList
  rw [ByteArray.ext_iff, ← Array.toList_inj]
  unfold turnF
  rw [hc, hk]
  simp only [ByteArray.data_append, Array.toList_append, toList_extract]
  rw [List.extract_eq_take_drop, List.extract_eq_take_drop, List.drop_zero, Nat.sub_zero, List.take_of_length_le (i := s.size - (i + 1)) (by rw [List.length_drop]; omega)]
  simp

theorem bitRow_no {l : List UInt8} {j : Nat} {c : UInt8} (h : l[j]? = some c) (h0 : c ≠ 48) (h1 : c ≠ 49) : bitRow l = false := by
  have hm : c ∈ l := List.mem_of_getElem? h
  cases hb : bitRow l with
  | false => rfl
  | true => exact ((bitRow_iff.1 hb).2 c hm).elim (fun e => absurd e h0) (fun e => absurd e h1)

set_option maxRecDepth 100000 in
set_option maxHeartbeats 1000000 in
theorem refBits01_any (s : ByteArray) (w : World) (hs : s.size ≤ maxLen) :
    Calls Tryd.prog 4 #[.string s] w fun e w' => e = .returned (.bool (bitRow s.data.toList)) ∧ w = w' := by
  unfold maxLen at hs
  have LS := hide (show s.data.toList.length = s.size from Array.length_toList)
  have GS := hide (fun j (h : j < s.size) => get_some s j h)
  have NO := hide (fun j c h h0 h1 => bitRow_no (l := s.data.toList) (j := j) (c := c) h h0 h1)
  have YES := hide (fun (h : ∀ j, j < s.size → ∃ c, s.data.toList[j]? = some c ∧ (c = 48 ∨ c = 49)) => show bitRow s.data.toList = decide ((s.size : Int) ≤ 4000) from by
    have hall : ∀ c ∈ s.data.toList, c = 48 ∨ c = 49 := fun c hc => by
      obtain ⟨j, hj, rfl⟩ := List.getElem_of_mem hc
      obtain ⟨c, hc1, hc2⟩ := h j (by rw [← LS.out]; exact hj)
      rw [List.getElem?_eq_getElem hj, Option.some.injEq] at hc1
      rw [hc1]; exact hc2
    unfold bitRow
    rw [LS.out, List.all_eq_true.2 (fun c hc => by rcases hall c hc with rfl | rfl <;> rfl), Bool.and_true]
    congr 1
    rw [eq_iff_iff]; omega)
  generalize bitRow s.data.toList = br at *
  go_enter Tryd.func4, Tryd.ntmps4
  go_wp2
  go_loop [3] (fun vi => ∃ j : Nat, j ≤ s.size ∧ vi = .int .i64 j ∧ Hid (∀ k, k < j → ∃ c, s.data.toList[k]? = some c ∧ (c = 48 ∨ c = 49))) (fun vi => s.size - (intOf vi).toNat)
  case atStart => exact ⟨0, Nat.zero_le _, rfl, hide (fun k h => by omega)⟩
  case round =>
    obtain ⟨j, hj, rfl, H⟩ := hrel
    by_cases hlt : j < s.size
    · have hlt' : (j : Int) < s.size := by omega
      by_cases h8 : s[j] = 48
      · have e1 : ((s[j].toNat : Int) != 48) = false := by rw [h8]; rfl
        have H2 := hide (show ∀ k, k < j + 1 → ∃ c, s.data.toList[k]? = some c ∧ (c = 48 ∨ c = 49) from fun k hk => by
          by_cases e : k = j
          · subst e; exact ⟨_, GS.out k hlt, .inl h8⟩
          · exact H.out k (by omega))
        clear h8
        go_wp2
        go_round
        case rel => exact ⟨j + 1, by omega, by go_num, H2⟩
        case measure => simp [intOf]; omega
      · have e1 : ((s[j].toNat : Int) != 48) = true := by
          rw [bne_iff_ne]; intro e; exact h8 (UInt8.toNat_inj.1 (by show s[j].toNat = 48; omega))
        by_cases h9 : s[j] = 49
        · have e2 : ((s[j].toNat : Int) != 49) = false := by rw [h9]; rfl
          have H2 := hide (show ∀ k, k < j + 1 → ∃ c, s.data.toList[k]? = some c ∧ (c = 48 ∨ c = 49) from fun k hk => by
            by_cases e : k = j
            · subst e; exact ⟨_, GS.out k hlt, .inr h9⟩
            · exact H.out k (by omega))
          clear h8 h9
          go_wp2
          go_round
          case rel => exact ⟨j + 1, by omega, by go_num, H2⟩
          case measure => simp [intOf]; omega
        · have e2 : ((s[j].toNat : Int) != 49) = true := by
            rw [bne_iff_ne]; intro e; exact h9 (UInt8.toNat_inj.1 (by show s[j].toNat = 49; omega))
          have HN := hide (NO.out j _ (GS.out j hlt) h8 h9)
          clear h8 h9
          go_wp2
          go_ret
          exact ⟨by rw [HN.out]; rfl, rfl⟩
    · have HY := hide (YES.out (fun k hk => H.out k (by omega)))
      go_wp2
      all_goals
        go_ret
        exact ⟨by rw [HY.out]; first | rfl | (refine ret_bool ?_; simp; omega), rfl⟩
end Go.Proofs.YtjfgapljfbkfiaaDoor

/- Parts of a function's code, found by a region's number or a test's slot. Nothing of the program's text. -/
namespace Go.Proofs.YtjfgapljfbkfiaaDoor
open Go.ChangeShapes Go.WideShapes Go.ChangeAt Go.RowKit

def findC (p : Code → Bool) : Code → Option Code
  | .seq a b => if p (.seq a b) then some (.seq a b) else (findC p a).orElse fun _ => findC p b
  | .cond c a b => if p (.cond c a b) then some (.cond c a b) else (findC p a).orElse fun _ => findC p b
  | .block n b => if p (.block n b) then some (.block n b) else findC p b
  | .loop b => if p (.loop b) then some (.loop b) else findC p b
  | .scope b => if p (.scope b) then some (.scope b) else findC p b
  | .rangeFunc f ps a b => if p (.rangeFunc f ps a b) then some (.rangeFunc f ps a b) else (findC p a).orElse fun _ => findC p b
  | c => if p c then some c else none
def isRegion (n : Nat) : Code → Bool
  | .region k _ _ => k == n
  | _ => false
def isCond (t : Nat) : Code → Bool
  | .cond (.tmp k) _ _ => k == t
  | _ => false
def isBlock (n : Nat) : Code → Bool
  | .block k _ => k == n
  | _ => false
def partC (b : Option Code) (p : Code → Bool) : Code := (b.bind (findC p)).getD .skip
end Go.Proofs.YtjfgapljfbkfiaaDoor
