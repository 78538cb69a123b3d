/- The map from identifiers to places in memory: map[uint32]int. -/
import Derived.Test.YtplpnnjjjfcibaaMgPdU
import Derived.Test.YtplpnnjjjfcibaaCmA
namespace Go.Proofs.Ytplpnnjjjfcibaa
open Go.ChangeShapes Go.WideShapes Go.ChangeAt Go.RowKit Go.Maps

/-- At block b lies a map of the call's own that reads as s. -/
def MId (W : World) (b n : Nat) (s : Int → Option Int) : Prop :=
  ∃ D : DataW Unit, W.ownsMap Try.prog 50 (plainElem Try.prog 3) b n D ∧ ∀ (x : Int) z, D.atKey (.int .u32 x) z = match s x with
    | some d => .lit (.int .i64 d)
    | none => z

theorem MId.made (w : World) : MId (w.alloc (.map #[] 0)) w.heap.size 0 (fun _ => none) := ⟨_, World.ownsMap_made w _ _ _, fun _ _ => rfl⟩
theorem MId.lt {W : World} {b n : Nat} {s : Int → Option Int} (h : MId W b n s) : b < W.heap.size := by obtain ⟨D, h, _⟩ := h; exact h.lt
theorem MId.grown {W W' : World} {b n : Nat} {s : Int → Option Int} {row : Option Nat} (h : MId W b n s) (hg : W.grownBy W' row) (hne : some b ≠ row) : MId W' b n s := by
  obtain ⟨D, h, hs⟩ := h
  exact ⟨D, h.kept hg hne, hs⟩
theorem MId.below {W W' : World} {b n : Nat} {s : Int → Option Int} (h : MId W b n s) (hb : Below W.heap.size W W') : MId W' b n s :=
  h.grown (row := none) ⟨hb.os, hb.tape, hb.output, hb.size, fun k hk _ => hb.block k hk⟩ (by simp)
theorem MId.setCell {W : World} {b n : Nat} {s : Int → Option Int} (h : MId W b n s) {a : Addr} (ha : b ≠ a.block) (u : Value) : MId (W.setCell a u) b n s := by
  obtain ⟨D, h, hs⟩ := h
  exact ⟨D, World.ownsMap.setCell h ha u, hs⟩
theorem u32_wf {x : Int} (h0 : 0 ≤ x) (h1 : x < 4294967296) : (Lit.int .u32 x).wf = true := by
  simp [Lit.wf, IntKind.min, IntKind.max, IntKind.bits, IntKind.signed]
  omega
set_option maxRecDepth 100000 in
theorem zero_int_run_r (W : World) : (zeroValue 3).run Try.prog W = .ok (.int .i64 0) W := by kernel_rfl

set_option maxRecDepth 100000 in
theorem MId.get {W : World} {b n : Nat} {s : Int → Option Int} (h : MId W b n s) (x : Int) (hx : 0 ≤ x ∧ x < 4294967296) :
    (Instr.lookup 104 (.map (some b)) (.int .u32 x) true).run Try.prog W = .ok (.tuple #[.int .i64 ((s x).getD 0), .bool (s x).isSome]) W := by
  obtain ⟨D, h, hs⟩ := h
  obtain ⟨v, ps, hr, hv⟩ := World.ownsMap.look_ok h (int_keyed Try.underlying50) Try.underlying104 (zero_int_run_r W) (plainElem_int Try.underlying3 (by decide)) (keyOf_int_mk Try.underlying50 (u32_wf hx.1 hx.2))
  obtain ⟨c, rfl, hc, _⟩ := plainElem_int_inv Try.underlying3 hv
  have hc := congrArg Prod.fst hc
  dsimp only at hc
  rw [hr]
  rcases hsx : s x with _ | d
  · have := hs x
    rw [hsx] at this
    rw [Maps.has_false_of_atKey this]
    rw [this] at hc
    have h0 : (0 : Int) = c := by simpa using hc
    rw [← h0]
    rfl
  · have := hs x
    rw [hsx] at this
    rw [Maps.has_true_of_atKey this]
    rw [this] at hc
    have h0 : d = c := by simpa using hc
    rw [← h0]
    rfl

set_option maxRecDepth 100000 in
theorem MId.put {W : World} {b n : Nat} {s : Int → Option Int} (h : MId W b n s) (hn : n < maxLen) (x v : Int) (hx : 0 ≤ x ∧ x < 4294967296) (hv : 0 ≤ v ∧ v ≤ 1000000) :
    ∃ W', (Instr.mapUpdate 104 (.map (some b)) (.int .u32 x) (.int .i64 v)).run Try.prog W = .ok () W' ∧ MId W' b (n + 1) (fun y => if y = x then some v else s y) ∧ W.grownBy W' (some b) := by
  obtain ⟨D, h, hs⟩ := h
  obtain ⟨W', hr, h', ht⟩ := World.ownsMap.store h (int_keyed Try.underlying50) Try.underlying104 hn (keyOf_int_mk Try.underlying50 (u32_wf hx.1 hx.2)) (plainElem_int Try.underlying3 (i64_wf hv.1 hv.2))
  refine ⟨W', hr, ⟨_, h', fun y z => ?_⟩, ht.grown⟩
  by_cases hy : y = x
  · subst hy
    simp only [if_pos rfl]
    exact atKey_put_same h.isMap (by first | trivial | exact .int _ _ | simp [WideAt.IsKeyLit]) _ _
  · simp only [if_neg hy]
    rw [atKey_put_other (by simp [hy])]
    exact hs y z
end Go.Proofs.Ytplpnnjjjfcibaa

/- ContainsFunc of filters; conf.may$1. -/
namespace Go.Proofs.Ytplpnnjjjfcibaa
open Go.ChangeShapes Go.WideShapes Go.ChangeAt Go.RowKit
open CM PD SG

/-- The first place; -1: none. -/
def idxFl (p : Flt → Bool) (l : List Flt) : Int := if l.all (fun f => !p f) then -1 else ((l.findIdx p : Nat) : Int)

set_option maxRecDepth 100000 in
set_option maxHeartbeats 2000000 in
theorem indexFl_any (fid : Nat) (p : Flt → Bool) (hp : ∀ (args : Array Value) (w : World), (callFunc fid args).run Try.prog w = .ok (.enter fid args) w) (l : List Flt) (A : Option Addr) (c : Nat) (w : World) (hr : FlR w w.heap.size A l) (hl : l.length ≤ 1000)
    (hc : Hid (∀ f ∈ l, ∀ w', Below w.heap.size w w' → Calls Try.prog fid #[.agg #[.int .i64 f.kind, .int .i64 f.mask, .int .i64 f.x, .int .i64 f.mn, .int .i64 f.mx, .int .i64 f.every, .int .i64 f.frm, .int .i64 f.old, .int .i64 f.count]] w' fun e w'' => e = .returned (.bool (p f)) ∧ Below w'.heap.size w' w'')) :
    Calls Try.prog 118 #[.slice A l.length c, .func (.func fid) #[] #[]] w fun e w' => e = .returned (.int .i64 (idxFl p l)) ∧ Below w.heap.size w w' := by
  go_enter Try.func118, Try.ntmps118
  go_wp2
  go_loopw [8] (fun i W => ∃ k : Nat, k ≤ l.length ∧ i = .int .i64 k ∧ Hid (∀ f ∈ l.take k, p f = false) ∧ Below w.heap.size w W) (fun i _ => l.length - (intOf i).toNat)
  case atStart => exact ⟨0, Nat.zero_le _, rfl, hide (by simp), Below.refl _ _⟩
  case round =>
    obtain ⟨k, hk, rfl, hinv, q⟩ := hrel
    by_cases hlt : k < l.length
    · obtain ⟨b, off, rfl, hbs, c0, c1, c2, c3, c4, c5, c6, c7, c8⟩ := FlR.at_ (Rd.below hr q) hlt
      have C := hide (hc.out l[k] (List.getElem_mem hlt) wr q)
      rcases hpk : p l[k] with _ | _
      · have hT := hide (show ∀ f ∈ l.take (k + 1), p f = false by
          intro f hf
          rw [List.take_succ_eq_append_getElem hlt, List.mem_append] at hf
          rcases hf with hf | hf
          · exact hinv.out f hf
          · rw [List.mem_singleton.1 hf]; exact hpk)
        rw [hpk] at C
        clear hpk
        go_wp2_with fail
        refine C.out.mono ?_
        rintro e1 w1 ⟨rfl, q1⟩
        go_wp2
        go_roundw
        case rel => exact ⟨k + 1, by omega, by go_num, hT, below_next q q.size q1⟩
        case measure => simp [intOf]; omega
      · have hE := hide (show idxFl p l = (k : Int) by
          unfold idxFl
          rw [if_neg (by
            rw [List.all_eq_true]
            intro h
            have := h l[k] (List.getElem_mem hlt)
            simp [hpk] at this)]
          congr 1
          rw [List.findIdx_eq hlt]
          exact ⟨hpk, fun j hj => by
            have := hinv.out l[j] (by rw [List.mem_take_iff_getElem]; exact ⟨j, by omega, rfl⟩)
            simp [this]⟩)
        rw [hpk] at C
        clear hpk
        go_wp2_with fail
        refine C.out.mono ?_
        rintro e1 w1 ⟨rfl, q1⟩
        go_wp2
        go_ret
        exact ⟨by rw [hE.out]; rfl, below_next q q.size q1⟩
    · have hE := hide (show idxFl p l = -1 by
        unfold idxFl
        rw [if_pos]
        rw [List.all_eq_true]
        intro f hf
        have h2 := hinv.out f (by rw [List.take_of_length_le (by omega)]; exact hf)
        simp [h2])
      go_wp2
      go_ret
      exact ⟨by rw [hE.out]; rfl, q⟩

theorem idxFl_nonneg (p : Flt → Bool) (l : List Flt) : 0 ≤ idxFl p l ↔ l.any p = true := by
  unfold idxFl
  by_cases h : l.all (fun f => !p f) = true
  · rw [if_pos h]
    have : l.any p = false := by
      rw [List.any_eq_false]
      intro x hx
      have := List.all_eq_true.1 h x hx
      simpa using this
    simp [this]
  · rw [if_neg h]
    have h' : l.all (fun f => !p f) = false := by simpa using h
    obtain ⟨x, hx, hp⟩ := List.all_eq_false.1 h'
    have : l.any p = true := List.any_eq_true.2 ⟨x, hx, by simpa using hp⟩
    simp [this]

set_option maxRecDepth 100000 in
theorem containsFl_any (fid : Nat) (p : Flt → Bool) (hp : ∀ (args : Array Value) (w : World), (callFunc fid args).run Try.prog w = .ok (.enter fid args) w) (l : List Flt) (A : Option Addr) (c : Nat) (w : World) (hr : FlR w w.heap.size A l) (hl : l.length ≤ 1000)
    (hc : Hid (∀ f ∈ l, ∀ w', Below w.heap.size w w' → Calls Try.prog fid #[.agg #[.int .i64 f.kind, .int .i64 f.mask, .int .i64 f.x, .int .i64 f.mn, .int .i64 f.mx, .int .i64 f.every, .int .i64 f.frm, .int .i64 f.old, .int .i64 f.count]] w' fun e w'' => e = .returned (.bool (p f)) ∧ Below w'.heap.size w' w'')) :
    Calls Try.prog 108 #[.slice A l.length c, .func (.func fid) #[] #[]] w fun e w' => e = .returned (.bool (l.any p)) ∧ Below w.heap.size w w' := by
  have I := hide (indexFl_any fid p hp l A c w hr hl hc)
  have H := idxFl_nonneg p l
  generalize idxFl p l = X at *
  rcases hb : l.any p with _ | _
  · have hx : X < 0 := by
      rcases Int.lt_or_le X 0 with h | h
      · exact h
      · rw [H.1 h] at hb; cases hb
    clear H hb hr hp hc
    go_enter Try.func108, Try.ntmps108
    go_wp2_with fail
    refine I.out.mono ?_
    rintro e1 w1 ⟨rfl, q1⟩
    go_wp2
    go_ret
    refine ⟨?_, q1⟩
    refine ret_bool ?_
    (simp <;> omega)
  · have hx : 0 ≤ X := H.2 hb
    clear H hb hr hp hc
    go_enter Try.func108, Try.ntmps108
    go_wp2_with fail
    refine I.out.mono ?_
    rintro e1 w1 ⟨rfl, q1⟩
    go_wp2
    go_ret
    refine ⟨?_, q1⟩
    refine ret_bool ?_
    (simp <;> omega)


set_option maxRecDepth 100000 in
theorem may1_any (f : Flt) (w : World) : Calls Try.prog 109 #[.agg #[.int .i64 f.kind, .int .i64 f.mask, .int .i64 f.x, .int .i64 f.mn, .int .i64 f.mx, .int .i64 f.every, .int .i64 f.frm, .int .i64 f.old, .int .i64 f.count]] w fun e w' => e = .returned (.bool (f.count != 0)) ∧ Below w.heap.size w w' := by
  obtain ⟨r, hr⟩ : ∃ r, r = (f.count != 0) := ⟨_, rfl⟩
  rw [← hr]
  have HR := hide hr
  have q0 : Below w.heap.size w (w.alloc (.cells #[.int .i64 f.kind, .int .i64 f.mask, .int .i64 f.x, .int .i64 f.mn, .int .i64 f.mx, .int .i64 f.every, .int .i64 f.frm, .int .i64 f.old, .int .i64 f.count] 142)) := (Below.refl _ _).alloc (Nat.le_refl _) _
  go_enter Try.func109, Try.ntmps109
  go_wp2_with fail
  go_ret
  refine ⟨ret_bool ?_, q0⟩
  first | exact HR.out.symm | (simp [HR.out])
theorem mayFl_any (l : List Flt) (A : Option Addr) (c : Nat) (w : World) (hr : FlR w w.heap.size A l) (hl : l.length ≤ 1000) :
    Calls Try.prog 108 #[.slice A l.length c, .func (.func 109) #[] #[]] w fun e w' => e = .returned (.bool (l.any fun f => f.count != 0)) ∧ Below w.heap.size w w' :=
  containsFl_any 109 (fun f => f.count != 0) (fun args W => by kernel_rfl) l A c w hr hl (hide fun f _ w' _ => may1_any f w')
end Go.Proofs.Ytplpnnjjjfcibaa
