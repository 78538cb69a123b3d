/- Walks: ContainsFunc of signals and of ints. -/
import Derived.Test.YtnhegnneohpkaaaGreatPdA
import Derived.Laws.StructEq
namespace Go.Proofs.YtnhegnneohpkaaaGreat
open Go.ChangeShapes Go.WideShapes Go.ChangeAt Go.RowKit
open SG PD

/-- The first place; -1: none. -/
def idxF (p : Sg → Bool) (l : List Sg) : Int := if l.all (fun f => !p f) then -1 else ((l.findIdx p : Nat) : Int)

set_option maxRecDepth 100000 in
set_option maxHeartbeats 2000000 in
theorem indexSg_any (fid : Nat) (lb : Nat) (p : Sg → Bool) (hp : ∀ (args : Array Value) (w : World), (callFunc fid args).run Tryz.prog w = .ok (.enter fid args) w) (l : List Sg) (A : Option Addr) (c : Nat) (w : World) (hr : SgR w w.heap.size A l) (hl : l.length ≤ 1000)
    (hc : Hid (∀ f ∈ l, ∀ w', Below w.heap.size w w' → Calls Tryz.prog fid #[.agg #[.int .i64 f.start, .int .i64 f.width, .bool f.big, .bool f.sgn], .pointer (some ⟨lb, 0, none⟩)] w' fun e w'' => e = .returned (.bool (p f)) ∧ Below w'.heap.size w' w'')) :
    Calls Tryz.prog 103 #[.slice A l.length c, .func (.func fid) #[] #[.pointer (some ⟨lb, 0, none⟩)]] w fun e w' => e = .returned (.int .i64 (idxF p l)) ∧ Below w.heap.size w w' := by
  go_enter Tryz.func103, Tryz.ntmps103
  go_wp2
  go_loopw [8] (fun i W => ∃ k : Nat, k ≤ l.length ∧ i = .int .i64 k ∧ Hid (∀ f ∈ l.take k, p f = false) ∧ Below w.heap.size w W) (fun i _ => l.length - (intOf i).toNat)
  case atStart => exact ⟨0, Nat.zero_le _, rfl, hide (by simp), Below.refl _ _⟩
  case round =>
    obtain ⟨k, hk, rfl, hinv, q⟩ := hrel
    by_cases hlt : k < l.length
    · obtain ⟨b, off, rfl, hbs, d0, d1, d2, d3⟩ := SgR.at_ hr hlt
      have c0 := cellBelow q hbs d0
      have c1 := cellBelow q hbs d1
      have c2 := cellBelow q hbs d2
      have c3 := cellBelow q hbs d3
      clear d0 d1 d2 d3
      have C := hide (hc.out l[k] (List.getElem_mem hlt) wr q)
      rcases hpk : p l[k] with _ | _
      · have hT := hide (show ∀ f ∈ l.take (k + 1), p f = false by
          intro f hf
          rw [List.take_succ_eq_append_getElem hlt, List.mem_append] at hf
          rcases hf with hf | hf
          · exact hinv.out f hf
          · rw [List.mem_singleton.1 hf]; exact hpk)
        rw [hpk] at C
        clear hpk
        go_wp2_with fail
        refine C.out.mono ?_
        rintro e1 w1 ⟨rfl, q1⟩
        go_wp2
        go_roundw
        case rel => exact ⟨k + 1, by omega, by go_num, hT, below_next q q.size q1⟩
        case measure => simp [intOf]; omega
      · have hE := hide (show idxF p l = (k : Int) by
          unfold idxF
          rw [if_neg (by
            rw [List.all_eq_true]
            intro h
            have := h l[k] (List.getElem_mem hlt)
            simp [hpk] at this)]
          congr 1
          rw [List.findIdx_eq hlt]
          exact ⟨hpk, fun j hj => by
            have := hinv.out l[j] (by rw [List.mem_take_iff_getElem]; exact ⟨j, by omega, rfl⟩)
            simp [this]⟩)
        rw [hpk] at C
        clear hpk
        go_wp2_with fail
        refine C.out.mono ?_
        rintro e1 w1 ⟨rfl, q1⟩
        go_wp2
        go_ret
        exact ⟨by rw [hE.out]; rfl, below_next q q.size q1⟩
    · have hE := hide (show idxF p l = -1 by
        unfold idxF
        rw [if_pos]
        rw [List.all_eq_true]
        intro f hf
        have h2 := hinv.out f (by rw [List.take_of_length_le (by omega)]; exact hf)
        simp [h2])
      go_wp2
      go_ret
      exact ⟨by rw [hE.out]; rfl, q⟩

theorem idxF_nonneg (p : Sg → Bool) (l : List Sg) : 0 ≤ idxF p l ↔ l.any p = true := by
  unfold idxF
  by_cases h : l.all (fun f => !p f) = true
  · rw [if_pos h]
    have : l.any p = false := by
      rw [List.any_eq_false]
      intro x hx
      have := List.all_eq_true.1 h x hx
      simpa using this
    simp [this]
  · rw [if_neg h]
    have h' : l.all (fun f => !p f) = false := by simpa using h
    obtain ⟨x, hx, hp⟩ := List.all_eq_false.1 h'
    have : l.any p = true := List.any_eq_true.2 ⟨x, hx, by simpa using hp⟩
    simp [this]

set_option maxRecDepth 100000 in
theorem containsSg_any (fid : Nat) (lb : Nat) (p : Sg → Bool) (hp : ∀ (args : Array Value) (w : World), (callFunc fid args).run Tryz.prog w = .ok (.enter fid args) w) (l : List Sg) (A : Option Addr) (c : Nat) (w : World) (hr : SgR w w.heap.size A l) (hl : l.length ≤ 1000)
    (hc : Hid (∀ f ∈ l, ∀ w', Below w.heap.size w w' → Calls Tryz.prog fid #[.agg #[.int .i64 f.start, .int .i64 f.width, .bool f.big, .bool f.sgn], .pointer (some ⟨lb, 0, none⟩)] w' fun e w'' => e = .returned (.bool (p f)) ∧ Below w'.heap.size w' w'')) :
    Calls Tryz.prog 80 #[.slice A l.length c, .func (.func fid) #[] #[.pointer (some ⟨lb, 0, none⟩)]] w fun e w' => e = .returned (.bool (l.any p)) ∧ Below w.heap.size w w' := by
  have I := hide (indexSg_any fid lb p hp l A c w hr hl hc)
  have H := idxF_nonneg p l
  generalize idxF p l = X at *
  rcases hb : l.any p with _ | _
  · have hx : X < 0 := by
      rcases Int.lt_or_le X 0 with h | h
      · exact h
      · rw [H.1 h] at hb; cases hb
    clear H hb hr hp hc
    go_enter Tryz.func80, Tryz.ntmps80
    go_wp2_with fail
    refine I.out.mono ?_
    rintro e1 w1 ⟨rfl, q1⟩
    go_wp2
    go_ret
    refine ⟨?_, q1⟩
    refine ret_bool ?_
    (simp <;> omega)
  · have hx : 0 ≤ X := H.2 hb
    clear H hb hr hp hc
    go_enter Tryz.func80, Tryz.ntmps80
    go_wp2_with fail
    refine I.out.mono ?_
    rintro e1 w1 ⟨rfl, q1⟩
    go_wp2
    go_ret
    refine ⟨?_, q1⟩
    refine ret_bool ?_
    (simp <;> omega)


/-- The first place; -1: none. -/
def idxI (p : Int → Bool) (l : List Int) : Int := if l.all (fun f => !p f) then -1 else ((l.findIdx p : Nat) : Int)

set_option maxRecDepth 100000 in
set_option maxHeartbeats 2000000 in
theorem indexIn_any (fid : Nat) (lb : Nat) (p : Int → Bool) (hp : ∀ (args : Array Value) (w : World), (callFunc fid args).run Tryz.prog w = .ok (.enter fid args) w) (l : List Int) (A : Option Addr) (c : Nat) (w : World) (hr : InR w w.heap.size A l) (hl : l.length ≤ 1000)
    (hc : Hid (∀ f ∈ l, ∀ w', Below w.heap.size w w' → Calls Tryz.prog fid #[.int .i64 f, .pointer (some ⟨lb, 0, none⟩)] w' fun e w'' => e = .returned (.bool (p f)) ∧ Below w'.heap.size w' w'')) :
    Calls Tryz.prog 104 #[.slice A l.length c, .func (.func fid) #[] #[.pointer (some ⟨lb, 0, none⟩)]] w fun e w' => e = .returned (.int .i64 (idxI p l)) ∧ Below w.heap.size w w' := by
  go_enter Tryz.func104, Tryz.ntmps104
  go_wp2
  go_loopw [8] (fun i W => ∃ k : Nat, k ≤ l.length ∧ i = .int .i64 k ∧ Hid (∀ f ∈ l.take k, p f = false) ∧ Below w.heap.size w W) (fun i _ => l.length - (intOf i).toNat)
  case atStart => exact ⟨0, Nat.zero_le _, rfl, hide (by simp), Below.refl _ _⟩
  case round =>
    obtain ⟨k, hk, rfl, hinv, q⟩ := hrel
    by_cases hlt : k < l.length
    · obtain ⟨b, off, rfl, hbs, d0⟩ := InR.at_ hr hlt
      have c0 := cellBelow q hbs d0
      clear d0
      have C := hide (hc.out l[k] (List.getElem_mem hlt) wr q)
      rcases hpk : p l[k] with _ | _
      · have hT := hide (show ∀ f ∈ l.take (k + 1), p f = false by
          intro f hf
          rw [List.take_succ_eq_append_getElem hlt, List.mem_append] at hf
          rcases hf with hf | hf
          · exact hinv.out f hf
          · rw [List.mem_singleton.1 hf]; exact hpk)
        rw [hpk] at C
        clear hpk
        go_wp2_with fail
        refine C.out.mono ?_
        rintro e1 w1 ⟨rfl, q1⟩
        go_wp2
        go_roundw
        case rel => exact ⟨k + 1, by omega, by go_num, hT, below_next q q.size q1⟩
        case measure => simp [intOf]; omega
      · have hE := hide (show idxI p l = (k : Int) by
          unfold idxI
          rw [if_neg (by
            rw [List.all_eq_true]
            intro h
            have := h l[k] (List.getElem_mem hlt)
            simp [hpk] at this)]
          congr 1
          rw [List.findIdx_eq hlt]
          exact ⟨hpk, fun j hj => by
            have := hinv.out l[j] (by rw [List.mem_take_iff_getElem]; exact ⟨j, by omega, rfl⟩)
            simp [this]⟩)
        rw [hpk] at C
        clear hpk
        go_wp2_with fail
        refine C.out.mono ?_
        rintro e1 w1 ⟨rfl, q1⟩
        go_wp2
        go_ret
        exact ⟨by rw [hE.out]; rfl, below_next q q.size q1⟩
    · have hE := hide (show idxI p l = -1 by
        unfold idxI
        rw [if_pos]
        rw [List.all_eq_true]
        intro f hf
        have h2 := hinv.out f (by rw [List.take_of_length_le (by omega)]; exact hf)
        simp [h2])
      go_wp2
      go_ret
      exact ⟨by rw [hE.out]; rfl, q⟩

theorem idxI_nonneg (p : Int → Bool) (l : List Int) : 0 ≤ idxI p l ↔ l.any p = true := by
  unfold idxI
  by_cases h : l.all (fun f => !p f) = true
  · rw [if_pos h]
    have : l.any p = false := by
      rw [List.any_eq_false]
      intro x hx
      have := List.all_eq_true.1 h x hx
      simpa using this
    simp [this]
  · rw [if_neg h]
    have h' : l.all (fun f => !p f) = false := by simpa using h
    obtain ⟨x, hx, hp⟩ := List.all_eq_false.1 h'
    have : l.any p = true := List.any_eq_true.2 ⟨x, hx, by simpa using hp⟩
    simp [this]

set_option maxRecDepth 100000 in
theorem containsIn_any (fid : Nat) (lb : Nat) (p : Int → Bool) (hp : ∀ (args : Array Value) (w : World), (callFunc fid args).run Tryz.prog w = .ok (.enter fid args) w) (l : List Int) (A : Option Addr) (c : Nat) (w : World) (hr : InR w w.heap.size A l) (hl : l.length ≤ 1000)
    (hc : Hid (∀ f ∈ l, ∀ w', Below w.heap.size w w' → Calls Tryz.prog fid #[.int .i64 f, .pointer (some ⟨lb, 0, none⟩)] w' fun e w'' => e = .returned (.bool (p f)) ∧ Below w'.heap.size w' w'')) :
    Calls Tryz.prog 83 #[.slice A l.length c, .func (.func fid) #[] #[.pointer (some ⟨lb, 0, none⟩)]] w fun e w' => e = .returned (.bool (l.any p)) ∧ Below w.heap.size w w' := by
  have I := hide (indexIn_any fid lb p hp l A c w hr hl hc)
  have H := idxI_nonneg p l
  generalize idxI p l = X at *
  rcases hb : l.any p with _ | _
  · have hx : X < 0 := by
      rcases Int.lt_or_le X 0 with h | h
      · exact h
      · rw [H.1 h] at hb; cases hb
    clear H hb hr hp hc
    go_enter Tryz.func83, Tryz.ntmps83
    go_wp2_with fail
    refine I.out.mono ?_
    rintro e1 w1 ⟨rfl, q1⟩
    go_wp2
    go_ret
    refine ⟨?_, q1⟩
    refine ret_bool ?_
    (simp <;> omega)
  · have hx : 0 ≤ X := H.2 hb
    clear H hb hr hp hc
    go_enter Tryz.func83, Tryz.ntmps83
    go_wp2_with fail
    refine I.out.mono ?_
    rintro e1 w1 ⟨rfl, q1⟩
    go_wp2
    go_ret
    refine ⟨?_, q1⟩
    refine ret_bool ?_
    (simp <;> omega)

end Go.Proofs.YtnhegnneohpkaaaGreat

/- '==' of two arrays of 64 counts. -/
namespace Go.Proofs.YtnhegnneohpkaaaGreat
open Go.ChangeShapes Go.WideShapes Go.ChangeAt Go.RowKit
open SG PD

def eqA (g h : Nat → Nat) : Bool := (List.range 64).all fun p => g p == h p
theorem eqA_iff (g h : Nat → Nat) : eqA g h = true ↔ ∀ p < 64, g p = h p := by
  unfold eqA
  rw [List.all_eq_true]
  simp

theorem run_equalIn_counts {P : Program} (w : World) (D : Nat) (t e : TypeId) (ht : P.underlying t = some (.array 64 e)) (he : P.underlying e = some (.int .i64)) (hsz : ∀ w, (sizeOf e).run P w = .ok 1 w) (g h : Nat → Nat) :
    (Op.equalIn (D + 2) t (.agg (arL g).toArray) (.agg (arL h).toArray)).run P w = .ok (eqA g h) w := by
  unfold eqA
  rw [List.range_eq_range', Op.equalIn]
  simp only [Sem.run_bind, run_underlying ht, Result.andThen_ok, hsz, Std.Legacy.Range.forIn_eq_forIn_range', Std.Legacy.Range.size, Nat.sub_zero, Nat.add_sub_cancel, Nat.div_one]
  have hl : ∀ i ∈ List.range' 0 64 1, i < 64 := fun i hi => by simpa using (List.mem_range'_1.1 hi).2
  generalize List.range' 0 64 1 = l at hl ⊢
  induction l with
  | nil => simp
  | cons i l ih =>
    have hi : i < 64 := hl i (by simp)
    have pa : ∀ f : Nat → Nat, (part e (arL f).toArray (i * 1)).run P w = .ok (.int .i64 (f i : Int)) w := fun f => by
      have := arL_at f hi
      simp [part, isAgg, run_underlying he, this]
    have pe : (Op.equalIn (D + 1) e (.int .i64 (g i : Int)) (.int .i64 (h i : Int))).run P w = .ok (g i == h i) w := by
      rw [run_equalIn_int w D e .i64 .i64 _ _ he]
      congr 1
      rw [Bool.eq_iff_iff]
      simp
      omega
    simp only [List.forIn_cons, Sem.run_bind, pa, pe, Result.andThen_ok, List.all_cons]
    cases hb : (g i == h i)
    · simp
    · simp only [Bool.not_true, Bool.false_eq_true, if_false, Sem.run_pure, Result.andThen_ok, Bool.true_and]
      exact ih fun j hj => hl j (by simp [hj])
theorem run_eql_counts {P : Program} (w : World) (t e : TypeId) (ht : P.underlying t = some (.array 64 e)) (he : P.underlying e = some (.int .i64)) (hsz : ∀ w, (sizeOf e).run P w = .ok 1 w) (g h : Nat → Nat) :
    (binOp .eql t (.agg (arL g).toArray) (.agg (arL h).toArray)).run P w = .ok (.bool (eqA g h)) w := by
  rw [run_eql_struct, run_equalIn_counts w 9998 t e ht he hsz g h]
  rfl
end Go.Proofs.YtnhegnneohpkaaaGreat
