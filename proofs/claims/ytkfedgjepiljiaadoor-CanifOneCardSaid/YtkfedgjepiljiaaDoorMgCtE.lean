/- Walks of a machine's to, join, idle. -/
import Derived.Test.YtkfedgjepiljiaaDoorMgRng3
import Derived.Test.YtkfedgjepiljiaaDoorMgMem
import Derived.Maps.OwnOps
import Derived.Maps.OwnSet
import Derived.Test.YtkfedgjepiljiaaDoorMgFrPlain
namespace Go.Proofs.YtkfedgjepiljiaaDoor
open Go.ChangeShapes Go.WideShapes Go.ChangeAt Go.RowKit
open FP (Fr)

/-- A machine's cells. -/
def mcL (c : Cl) (ev : List Value) : List Value := c.cs ++ ev
theorem mc_cells {W : World} {B : Nat} {c : Cl} {ev : List Value} {t : TypeId} {fz : Nat × Nat} (h : W.heap[B]? = some (.cells (mcL c ev).toArray t fz)) :
    (W.cell? ⟨B, 0, none⟩ = some (.int .i64 c.tc) ∧ W.cell? ⟨B, 1, none⟩ = some (.int .i64 c.rc) ∧ W.cell? ⟨B, 2, none⟩ = some (.bool c.off) ∧ W.cell? ⟨B, 3, none⟩ = some (.int .i64 c.rs)) ∧
    (W.cell? ⟨B, 4, none⟩ = some (.int .i64 c.st) ∧ W.cell? ⟨B, 5, none⟩ = some (.int .i64 c.n) ∧ W.cell? ⟨B, 6, none⟩ = some (.bool c.was) ∧ W.cell? ⟨B, 7, none⟩ = some (.bool c.hard) ∧ W.cell? ⟨B, 8, none⟩ = some (.bool c.has)) ∧
    (W.cell? ⟨B, 14, none⟩ = some (.bool c.sends) ∧ W.cell? ⟨B, 15, none⟩ = some (.string c.out) ∧ W.cell? ⟨B, 16, none⟩ = some (.int .i64 c.at_) ∧ W.cell? ⟨B, 17, none⟩ = some (.int .u8 c.last) ∧ W.cell? ⟨B, 18, none⟩ = some (.int .i64 c.sn) ∧ W.cell? ⟨B, 19, none⟩ = some (.string c.got) ∧ W.cell? ⟨B, 20, none⟩ = some (.bool c.en) ∧ W.cell? ⟨B, 21, none⟩ = some (.int .i64 c.tail) ∧ W.cell? ⟨B, 22, none⟩ = some (.bool c.good)) := by
  simp [World.cell?, h, mcL, Cl.cs]

theorem below_set {B : Nat} {W W' : World} (h : Below B W W') (o : Nat) (v : Value) : Below B W (W'.setCell ⟨B, o, none⟩ v) := h.setCell (p := ⟨B, o, none⟩) (Nat.le_refl _) v
theorem mc_set {W : World} {b : Nat} {cs : Array Value} {t : TypeId} (h : W.heap[b]? = some (.cells cs t (0, 0))) (o : Nat) (v : Value) : (W.setCell ⟨b, o, none⟩ v).heap[b]? = some (.cells (cs.setIfInBounds o v) t (0, 0)) := heap_setCell_same W b o _ _ v h

/-- A recessive bit comes to one that joins. -/
def Cl.join1 (c : Cl) : Cl := if c.n = 10 then ({ c with n := 11 } : Cl).to 1 else { c with n := c.n + 1 }

end Go.Proofs.YtkfedgjepiljiaaDoor

/- Walks of count.State; of a machine's flag, delim, hold (a recessive bit), begins (not one's own frame). -/
namespace Go.Proofs.YtkfedgjepiljiaaDoor
open Go.ChangeShapes Go.WideShapes Go.ChangeAt Go.RowKit
open FP (Fr)

/-- How one stands that is counted so: 1: active, 2: passive, 3: off. -/
def stOf (tc rc : Int) (off : Bool) : Int := if off = true then 3 else if 127 < tc ∨ 127 < rc then 2 else 1

/-- A bit of the flag of an error. -/
def Cl.flag1 (c : Cl) : Cl := if c.n = 5 then c.to 4 else { c with n := c.n + 1 }
/-- A bit of the delimiter: whether it is dominant. -/
def Cl.delim1 (c : Cl) (low : Bool) : Cl := if low = true then c.to 3 else if c.n = 7 then c.to 6 else { c with n := c.n + 1 }
/-- A recessive bit comes to one that holds. -/
def Cl.hold1 (c : Cl) : Cl := if c.n = 7 then c.to 1 else { c with n := c.n + 1 }

/-- Another one's frame begins. -/
def Cl.begin0 (c : Cl) : Cl := { c.to 2 with last := 48, sn := 1, got := ⟨#[48]⟩, was := false }
end Go.Proofs.YtkfedgjepiljiaaDoor

/- Maps from ints to functions, of the call's own; the walk of count.steps. -/
namespace Go.Proofs.YtkfedgjepiljiaaDoor
open Go.ChangeShapes Go.WideShapes Go.ChangeAt Go.RowKit Go.Maps
open FP (Fr)

/-- How a function that has captured nothing reads. -/
def fnElem (v : Value) : Option (DataW Unit × List MemPlace) := match v with
  | .func (.func f) fs cs => if fs.size = 0 ∧ cs.size = 0 then some (.lit (.int .i64 f), []) else none
  | .nilFunc => some (.lit (.bool false), [])
  | _ => none
theorem fnElem_inv {v : Value} {f : Nat} {ps : List MemPlace} (h : fnElem v = some (.lit (.int .i64 f), ps)) : v = .func (.func f) #[] #[] := by
  unfold fnElem at h
  split at h
  · rename_i g fs cs
    by_cases e : fs.size = 0 ∧ cs.size = 0
    · rw [if_pos e] at h
      obtain ⟨e1, e2⟩ := e
      simp at h
      obtain ⟨h1, _⟩ := h
      have : g = f := by first | exact h1 | exact Int.ofNat_inj.1 h1
      rw [this, Array.eq_empty_of_size_eq_zero e1, Array.eq_empty_of_size_eq_zero e2]
    · rw [if_neg e] at h; cases h
  · simp at h
  · cases h
/-- At block b lies a map of the call's own that reads as s. -/
def MFn (W : World) (b n : Nat) (s : Int → Option Nat) : Prop :=
  ∃ D : DataW Unit, W.ownsMap Tryd.prog 3 fnElem b n D ∧ ∀ (x : Int) z, D.atKey (.int .i64 x) z = match s x with
    | some f => .lit (.int .i64 (f : Nat))
    | none => z
theorem MFn.made (w : World) : MFn (w.alloc (.map #[] 0)) w.heap.size 0 (fun _ => none) := ⟨_, World.ownsMap_made w _ _ _, fun _ _ => rfl⟩
theorem MFn.lt {W : World} {b n : Nat} {s : Int → Option Nat} (h : MFn W b n s) : b < W.heap.size := by obtain ⟨D, h, _⟩ := h; exact h.lt
theorem int_wf7 {x : Int} (h0 : 0 ≤ x) (h1 : x ≤ 1000) : (Lit.int .i64 x).wf = true := by
  simp [Lit.wf, IntKind.min, IntKind.max, IntKind.bits, IntKind.signed]
  omega
end Go.Proofs.YtkfedgjepiljiaaDoor

/- Walks of the functions of count.steps. -/
namespace Go.Proofs.YtkfedgjepiljiaaDoor
open Go.ChangeShapes Go.WideShapes Go.ChangeAt Go.RowKit Go.Maps
open FP (Fr)

/-- What is counted: the sender's and the receiver's count behind what happened. -/
def cntTc (what tc : Int) : Int := if what = 1 then max (tc - 1) 0 else if what = 3 ∨ what = 5 then tc + 8 else tc
def cntRc (what rc : Int) : Int := if what = 2 then max (if 127 ≤ rc - 1 then 119 else rc - 1) 0 else if what = 4 then min (rc + 1) 255 else if what = 6 then min (rc + 8) 255 else rc
theorem set_grown7 (W : World) (x j : Nat) (v : Value) : W.grownBy (W.setCell ⟨x, j, none⟩ v) (some x) := ⟨rfl, rfl, rfl, by simp [World.setCell], fun k _ hk => heap_setCell_other W ⟨x, j, none⟩ k v (fun e => hk (by simp [e]))⟩
def cnL (tc rc : Int) (off : Bool) (rs : Int) : List Value := [.int .i64 tc, .int .i64 rc, .bool off, .int .i64 rs]
theorem cn_cells {W : World} {B : Nat} {tc rc : Int} {off : Bool} {rs : Int} {t : TypeId} {fz : Nat × Nat} (h : W.heap[B]? = some (.cells (cnL tc rc off rs).toArray t fz)) : W.cell? ⟨B, 0, none⟩ = some (.int .i64 tc) ∧ W.cell? ⟨B, 1, none⟩ = some (.int .i64 rc) ∧ W.cell? ⟨B, 2, none⟩ = some (.bool off) ∧ W.cell? ⟨B, 3, none⟩ = some (.int .i64 rs) := by
  simp [World.cell?, h, cnL]

end Go.Proofs.YtkfedgjepiljiaaDoor

/- The walk of count.Step of what is not off. -/
namespace Go.Proofs.YtkfedgjepiljiaaDoor
open Go.ChangeShapes Go.WideShapes Go.ChangeAt Go.RowKit Go.Maps
open FP (Fr)

/-- What is counted, behind what happened; of one that is not off. -/
def cntNext (what tc rc : Int) : List Value := if 255 < cntTc what tc then cnL 0 0 true 128 else cnL (cntTc what tc) (cntRc what rc) false 0

end Go.Proofs.YtkfedgjepiljiaaDoor

/- Walks of a machine's counts, fails (not off), gap (a recessive bit). -/
namespace Go.Proofs.YtkfedgjepiljiaaDoor
open Go.ChangeShapes Go.WideShapes Go.ChangeAt Go.RowKit Go.Maps
open FP (Fr)

/-- A controller that has counted. -/
def Cl.count (c : Cl) (what : Int) : Cl := if 255 < cntTc what c.tc then { c with tc := 0, rc := 0, off := true, rs := 128 } else { c with tc := cntTc what c.tc, rc := cntRc what c.rc }
theorem cntNext_right (what tc rc : Int) (hc : cntB tc rc false 0 = true) (hw : 1 ≤ what ∧ what ≤ 7) : ∃ tc' rc' off' rs', cntNext what tc rc = cnL tc' rc' off' rs' ∧ cntB tc' rc' off' rs' = true := by
  have hb : 0 ≤ tc ∧ tc ≤ 255 ∧ 0 ≤ rc ∧ rc ≤ 255 := by
    unfold cntB at hc
    simp at hc
    omega
  unfold cntNext
  by_cases h : 255 < cntTc what tc
  · rw [if_pos h]
    exact ⟨0, 0, true, 128, rfl, by decide⟩
  · rw [if_neg h]
    refine ⟨_, _, _, _, rfl, ?_⟩
    have h1 : 0 ≤ cntTc what tc := by unfold cntTc; split <;> (try split) <;> omega
    have h2 : 0 ≤ cntRc what rc ∧ cntRc what rc ≤ 255 := by unfold cntRc; split <;> (try split) <;> (try split) <;> omega
    unfold cntB
    simp
    omega

end Go.Proofs.YtkfedgjepiljiaaDoor

/- Walks of count.rest, count.Step of what is off. -/
namespace Go.Proofs.YtkfedgjepiljiaaDoor
open Go.ChangeShapes Go.WideShapes Go.ChangeAt Go.RowKit Go.Maps
open FP (Fr)

/-- Of one that is off. -/
def restL (what rs : Int) : List Value := if what = 7 then cnL 0 0 (!(rs - 1 == 0)) (rs - 1) else cnL 0 0 true rs

end Go.Proofs.YtkfedgjepiljiaaDoor

/- The walk of count.Step of what is off. -/
namespace Go.Proofs.YtkfedgjepiljiaaDoor
open Go.ChangeShapes Go.WideShapes Go.ChangeAt Go.RowKit Go.Maps
open FP (Fr)

end Go.Proofs.YtkfedgjepiljiaaDoor

/- The walk of a machine's counts, of one that is off. -/
namespace Go.Proofs.YtkfedgjepiljiaaDoor
open Go.ChangeShapes Go.WideShapes Go.ChangeAt Go.RowKit Go.Maps
open FP (Fr)

/-- One that is off has counted. -/
def Cl.rest (c : Cl) (what : Int) : Cl := if what = 7 then { c with off := !(c.rs - 1 == 0), rs := c.rs - 1 } else c
theorem cl_off {c : Cl} (h1 : c.tc = 0) (h2 : c.rc = 0) (h3 : c.off = true) : c = { c with tc := 0, rc := 0, off := true, rs := c.rs } := by
  obtain ⟨tc, rc, off, rs, st, n, was, hard, has, f, sends, out, at_, last, sn, got, en, tail, good⟩ := c
  dsimp only at h1 h2 h3
  subst h1 h2 h3
  rfl
theorem restL_right (what rs : Int) (h1 : 1 ≤ rs) (h2 : rs ≤ 128) : ∃ tc' rc' off' rs', restL what rs = cnL tc' rc' off' rs' ∧ cntB tc' rc' off' rs' = true := by
  unfold restL
  by_cases h : what = 7
  · rw [if_pos h]
    refine ⟨_, _, _, _, rfl, ?_⟩
    by_cases e : rs - 1 = 0
    · rw [show (rs - 1 == 0) = true by simpa using e, e]
      decide
    · rw [show (rs - 1 == 0) = false by simpa using e]
      unfold cntB
      simp
      omega
  · rw [if_neg h]
    refine ⟨_, _, _, _, rfl, ?_⟩
    unfold cntB
    simp
    omega

end Go.Proofs.YtkfedgjepiljiaaDoor

/- The walk of a machine's off. -/
namespace Go.Proofs.YtkfedgjepiljiaaDoor
open Go.ChangeShapes Go.WideShapes Go.ChangeAt Go.RowKit Go.Maps
open FP (Fr)

/-- A recessive bit comes to one that is off. -/
def Cl.offIdle (d : Cl) : Cl := if stOf d.tc d.rc d.off = 3 then d else d.to 1
def Cl.off1 (c : Cl) : Cl := if c.n = 10 then (({ c with n := 0 } : Cl).rest 7).offIdle else { c with n := c.n + 1 }
end Go.Proofs.YtkfedgjepiljiaaDoor

/- The walk of a machine's ends: a dominant bit; the end of another one's frame. -/
namespace Go.Proofs.YtkfedgjepiljiaaDoor
open Go.ChangeShapes Go.WideShapes Go.ChangeAt Go.RowKit Go.Maps
open FP (Fr)

end Go.Proofs.YtkfedgjepiljiaaDoor

/- The walk of a machine's ends: the end of one's own frame. -/
namespace Go.Proofs.YtkfedgjepiljiaaDoor
open Go.ChangeShapes Go.WideShapes Go.ChangeAt Go.RowKit Go.Maps
open FP (Fr)

theorem mc_fr {W : World} {B : Nat} {c : Cl} {ev : List Value} {t : TypeId} {fz : Nat × Nat} (h : W.heap[B]? = some (.cells (mcL c ev).toArray t fz)) :
    W.cell? ⟨B, 9, none⟩ = some (.int .u32 c.f.id) ∧ W.cell? ⟨B, 10, none⟩ = some (.bool c.f.ext) ∧ W.cell? ⟨B, 11, none⟩ = some (.bool c.f.rem) ∧ W.cell? ⟨B, 12, none⟩ = some (.int .i64 c.f.dlc) ∧ W.cell? ⟨B, 13, none⟩ = some (.string c.f.data) := by
  simp [World.cell?, h, mcL, Cl.cs]
/-- One's own frame is sent. -/
def Cl.sent (c : Cl) : Cl := { (c.to 6).count 1 with has := false, f := zFr }

end Go.Proofs.YtkfedgjepiljiaaDoor

/- Walks of a machine's gap (a recessive bit), fails (of one that is not off). -/
namespace Go.Proofs.YtkfedgjepiljiaaDoor
open Go.ChangeShapes Go.WideShapes Go.ChangeAt Go.RowKit Go.Maps
open FP (Fr)

/-- A recessive bit comes between frames. -/
def Cl.gap1 (c : Cl) : Cl := if c.n = 2 then (if c.was = true ∧ stOf c.tc c.rc c.off = 2 then c.to 7 else c.to 1) else { c with n := c.n + 1 }
end Go.Proofs.YtkfedgjepiljiaaDoor

/- The walk of a machine's fails, of one that is not off. -/
namespace Go.Proofs.YtkfedgjepiljiaaDoor
open Go.ChangeShapes Go.WideShapes Go.ChangeAt Go.RowKit Go.Maps
open FP (Fr)

/-- Behind an error is counted, or not. -/
def Cl.failC (c : Cl) (bad : Int) : Cl := if bad = 14 ∧ stOf c.tc c.rc c.off = 2 then { c with was := c.sends } else ({ c with was := c.sends } : Cl).count (if c.sends = true then 3 else 4)
/-- It stands so, then. -/
def Cl.failS (d : Cl) : Cl := if stOf d.tc d.rc d.off = 3 then d.to 8 else { d.to 3 with hard := stOf d.tc d.rc d.off == 1 }
def Cl.fail (c : Cl) (bad : Int) : Cl := (c.failC bad).failS

end Go.Proofs.YtkfedgjepiljiaaDoor

/- Walks of a machine's echo (a recessive bit), hold and gap (a dominant one). -/
namespace Go.Proofs.YtkfedgjepiljiaaDoor
open Go.ChangeShapes Go.WideShapes Go.ChangeAt Go.RowKit Go.Maps
open FP (Fr)

/-- The first recessive bit behind a flag. -/
def Cl.echo1 (c : Cl) : Cl := { c.to 5 with n := 1 }
/-- A dominant bit comes between frames. -/
def Cl.gap0 (c : Cl) : Cl := if c.n = 2 then c.begin0 else { c.to 3 with hard := true }
end Go.Proofs.YtkfedgjepiljiaaDoor

/- Plain mathematics of stuffing; nothing of the program. -/
namespace Go.Proofs.YtkfedgjepiljiaaDoor.FP

/-- What is known behind some bits: the last one, how many are equal, what was put out, and from where on they are counted. -/
structure SS where
  last : UInt8
  n : Nat
  out : List UInt8
  fr : Nat
def oth (c : UInt8) : UInt8 := c ^^^ 48 ^^^ 49
/-- How many are equal with one more. -/
def ssN (s : SS) (c : UInt8) : Nat := if c = s.last then s.n + 1 else 1
def ssStep (s : SS) (c : UInt8) : SS :=
  if ssN s c = 5 then ⟨oth c, 1, (s.out ++ [c]) ++ [oth c], s.out.length + 1⟩ else ⟨c, ssN s c, s.out ++ [c], s.fr⟩
def ss0 : SS := ⟨0, 0, [], 0⟩
def stuffS (l : List UInt8) : SS := l.foldl ssStep ss0
def stuffF (l : List UInt8) : List UInt8 := (stuffS l).out
theorem stuffS_snoc (l : List UInt8) (c : UInt8) : stuffS (l ++ [c]) = ssStep (stuffS l) c := by simp [stuffS]

/-- Do the last five stand alike, and were none put in within them? -/
def equalB (s : List UInt8) (fr : Nat) : Bool := decide (5 ≤ s.length - fr) && (List.range 5).all (fun j => s[s.length - 1 - j]? == s[s.length - 1]?)

structure SInv (s : SS) (i : Nat) : Prop where
  n5 : s.n < 5
  fr : s.fr + s.n ≤ s.out.length
  same : ∀ j, j < s.n → s.out[s.out.length - 1 - j]? = some s.last
  end_ : s.fr + s.n < s.out.length → s.out[s.out.length - 1 - s.n]? ≠ some s.last
  bit : s.n = 0 ∧ s.last = 0 ∧ i = 0 ∨ (1 ≤ s.n ∧ (s.last = 48 ∨ s.last = 49) ∧ 1 ≤ i)
  all : ∀ c ∈ s.out, c = 48 ∨ c = 49
  len : 4 * (s.out.length - i) + s.n ≤ i ∧ i ≤ s.out.length

theorem ssStep_five {s : SS} {c : UInt8} (h : ssN s c = 5) : (ssStep s c).last = oth c ∧ (ssStep s c).n = 1 ∧ (ssStep s c).out = (s.out ++ [c]) ++ [oth c] ∧ (ssStep s c).fr = s.out.length + 1 := by
  unfold ssStep; rw [if_pos h]; exact ⟨rfl, rfl, rfl, rfl⟩
theorem ssStep_less {s : SS} {c : UInt8} (h : ssN s c ≠ 5) : (ssStep s c).last = c ∧ (ssStep s c).n = ssN s c ∧ (ssStep s c).out = s.out ++ [c] ∧ (ssStep s c).fr = s.fr := by
  unfold ssStep; rw [if_neg h]; exact ⟨rfl, rfl, rfl, rfl⟩

theorem oth_bit {c : UInt8} (h : c = 48 ∨ c = 49) : oth c = 48 ∧ c = 49 ∨ oth c = 49 ∧ c = 48 := by
  rcases h with rfl | rfl
  · right; decide
  · left; decide
theorem oth_is {c : UInt8} (h : c = 48 ∨ c = 49) : oth c = 48 ∨ oth c = 49 := by
  rcases oth_bit h with h | h
  · exact .inl h.1
  · exact .inr h.1

theorem ss_inv0 : SInv ss0 0 := ⟨by decide, by decide, fun j h => absurd h (by simp [ss0]), fun h => absurd h (by simp [ss0]), .inl ⟨rfl, rfl, rfl⟩, fun c h => absurd h (by simp [ss0]), by simp [ss0]⟩

theorem snoc_last {α : Type} (l : List α) (c : α) : (l ++ [c])[l.length]? = some c := by simp
theorem snoc_lt {α : Type} (l : List α) (c : α) {j : Nat} (h : j < l.length) : (l ++ [c])[j]? = l[j]? := List.getElem?_append_left h

theorem SInv.last {s : SS} {i : Nat} (h : SInv s i) (hn : 1 ≤ s.out.length) : s.out[s.out.length - 1]? = some s.last ∧ 1 ≤ s.n := by
  rcases h.bit with ⟨h0, _, hi⟩ | ⟨h1, _, _⟩
  · have := h.len; omega
  · exact ⟨by have := h.same 0 (by omega); simpa using this, h1⟩

theorem SInv.step {s : SS} {i : Nat} (h : SInv s i) {c : UInt8} (hc : c = 48 ∨ c = 49) : SInv (ssStep s c) (i + 1) := by
  obtain ⟨last, n, out, fr⟩ := s
  have hl := fun hn => h.last hn
  obtain ⟨n5, hfr, same, end_, bit, all, len⟩ := h
  simp only at *
  unfold ssStep
  simp only
  by_cases h5 : ssN ⟨last, n, out, fr⟩ c = 5
  · rw [if_pos h5]
    have e : n + 1 = 5 := by
      unfold ssN at h5
      split at h5
      · exact h5
      · omega
    refine ⟨by simp, by simp, ?_, ?_, ?_, ?_, ?_⟩
    · intro j hj
      have : j = 0 := by simp only at hj; omega
      subst this
      simp
    · intro hj; simp at hj
    · exact .inr ⟨by simp, oth_is hc, by omega⟩
    · intro x hx
      simp only [List.mem_append, List.mem_singleton] at hx
      rcases hx with (hx | rfl) | rfl
      · exact all x hx
      · exact hc
      · exact oth_is hc
    · simp only [List.length_append, List.length_cons, List.length_nil]; omega
  · rw [if_neg h5]
    have hall : ∀ x ∈ out ++ [c], x = 48 ∨ x = 49 := by
      intro x hx
      simp only [List.mem_append, List.mem_singleton] at hx
      rcases hx with hx | rfl
      · exact all x hx
      · exact hc
    by_cases hcl : c = last
    · have e : ssN ⟨last, n, out, fr⟩ c = n + 1 := by unfold ssN; rw [if_pos hcl]
      rw [e] at h5 ⊢
      refine ⟨by simp only; omega, by simp; omega, ?_, ?_, ?_, hall, ?_⟩
      · intro j hj
        simp only [List.length_append, List.length_cons, List.length_nil] at *
        rcases Nat.eq_zero_or_pos j with h0 | h0
        · subst h0; simp
        · rw [show out.length + (0 + 1) - 1 - j = out.length - 1 - (j - 1) by omega, snoc_lt _ _ (by omega), same (j - 1) (by omega), hcl]
      · intro hj
        simp only [List.length_append, List.length_cons, List.length_nil] at *
        rw [show out.length + (0 + 1) - 1 - (n + 1) = out.length - 1 - n by omega, snoc_lt _ _ (by omega), hcl]
        exact end_ (by omega)
      · exact .inr ⟨by simp, hc, by omega⟩
      · simp only [List.length_append, List.length_cons, List.length_nil]; omega
    · have e : ssN ⟨last, n, out, fr⟩ c = 1 := by unfold ssN; rw [if_neg hcl]
      rw [e] at h5 ⊢
      refine ⟨by simp, by simp; omega, ?_, ?_, ?_, hall, ?_⟩
      · intro j hj
        have : j = 0 := by simp only at hj; omega
        subst this
        simp
      · intro hj
        simp only [List.length_append, List.length_cons, List.length_nil] at *
        rw [show out.length + (0 + 1) - 1 - 1 = out.length - 1 by omega, snoc_lt _ _ (by omega), (hl (by omega)).1]
        intro he
        exact hcl (Option.some.inj he).symm
      · exact .inr ⟨by simp, hc, by omega⟩
      · simp only [List.length_append, List.length_cons, List.length_nil]; omega

theorem SInv.equal {s : SS} {i : Nat} (h : SInv s i) (c : UInt8) : equalB (s.out ++ [c]) s.fr = decide (ssN s c = 5) := by
  obtain ⟨last, n, out, fr⟩ := s
  have hl := fun hn => h.last hn
  obtain ⟨n5, hfr, same, end_, bit, all, len⟩ := h
  simp only at *
  have eL : (out ++ [c]).length - 1 = out.length := by simp
  unfold equalB
  by_cases h5 : ssN ⟨last, n, out, fr⟩ c = 5
  · rw [decide_eq_true h5]
    unfold ssN at h5
    split at h5
    · rename_i hcl
      simp only at hcl h5
      rw [Bool.and_eq_true]
      refine ⟨by simp; omega, List.all_eq_true.2 fun j hj => ?_⟩
      rw [List.mem_range] at hj
      rw [eL, snoc_last]
      rcases Nat.eq_zero_or_pos j with h0 | h0
      · subst h0; simp
      · rw [show out.length - j = out.length - 1 - (j - 1) by omega, snoc_lt _ _ (by omega), same (j - 1) (by omega), hcl]
        simp
    · omega
  · rw [decide_eq_false h5]
    rw [Bool.and_eq_false_iff]
    by_cases hL : 5 ≤ (out ++ [c]).length - fr
    · right
      rw [List.all_eq_false]
      simp only [List.length_append, List.length_cons, List.length_nil] at hL
      unfold ssN at h5
      split at h5
      · rename_i hcl
        simp only at hcl h5
        refine ⟨n + 1, by rw [List.mem_range]; omega, ?_⟩
        rw [eL, snoc_last, show out.length - (n + 1) = out.length - 1 - n by omega, snoc_lt _ _ (by omega), hcl]
        have := end_ (by omega)
        simpa using this
      · rename_i hcl
        simp only at hcl h5
        refine ⟨1, by decide, ?_⟩
        rw [eL, snoc_last, snoc_lt _ _ (by omega), (hl (by omega)).1]
        simpa using fun h : last = c => hcl h.symm
    · left; exact decide_eq_false hL

theorem stuff_inv (l : List UInt8) (hl : ∀ c ∈ l, c = 48 ∨ c = 49) : SInv (stuffS l) l.length := by
  have : ∀ i, i ≤ l.length → SInv (stuffS (l.take i)) i := by
    intro i
    induction i with
    | zero => intro _; simpa [stuffS] using ss_inv0
    | succ i ih =>
      intro hi
      rw [List.take_succ_eq_append_getElem hi, stuffS_snoc]
      exact (ih (by omega)).step (hl _ (List.getElem_mem hi))
  have h := this l.length (Nat.le_refl _)
  rwa [List.take_of_length_le (Nat.le_refl _)] at h

theorem stuff_len (l : List UInt8) (hl : ∀ c ∈ l, c = 48 ∨ c = 49) : l.length ≤ (stuffF l).length ∧ (stuffF l).length ≤ l.length + (l.length - 1) / 4 := by
  have h := stuff_inv l hl
  refine ⟨h.len.2, ?_⟩
  have h1 := h.len.1
  have h2 := h.len.2
  unfold stuffF
  rcases h.bit with ⟨h0, _, hi⟩ | ⟨h0, _, hi⟩ <;> omega
end Go.Proofs.YtkfedgjepiljiaaDoor.FP
