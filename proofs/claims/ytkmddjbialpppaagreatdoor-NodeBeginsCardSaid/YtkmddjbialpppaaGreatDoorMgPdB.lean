import Derived.Test.YtkmddjbialpppaaGreatDoorPdA
import Derived.Laws.StructEq
namespace Go.Proofs.YtkmddjbialpppaaGreatDoor
open Go.ChangeShapes Go.WideShapes Go.ChangeAt Go.RowKit
open SG PD
def idxF (p : Sg → Bool) (l : List Sg) : Int := if l.all (fun f => !p f) then -1 else ((l.findIdx p : Nat) : Int)
set_option maxRecDepth 100000 in
set_option maxHeartbeats 2000000 in
theorem indexSg_any (fid : Nat) (lb : Nat) (p : Sg → Bool) (hp : ∀ (args : Array Value) (w : World), (callFunc fid args).run Tryz.prog w = .ok (.enter fid args) w) (l : List Sg) (A : Option Addr) (c : Nat) (w : World) (hr : SgR w w.heap.size A l) (hl : l.length ≤ 1000)
    (hc : Hid (∀ f ∈ l, ∀ w', Below w.heap.size w w' → Calls Tryz.prog fid #[.agg #[.int .i64 f.start, .int .i64 f.width, .bool f.big, .bool f.sgn], .pointer (some ⟨lb, 0, none⟩)] w' fun e w'' => e = .returned (.bool (p f)) ∧ Below w'.heap.size w' w'')) :
    Calls Tryz.prog 183 #[.slice A l.length c, .func (.func fid) #[] #[.pointer (some ⟨lb, 0, none⟩)]] w fun e w' => e = .returned (.int .i64 (idxF p l)) ∧ Below w.heap.size w w' := by
  go_enter Tryz.func183, Tryz.ntmps183
  go_wp2
  go_loopw [8] (fun i W => ∃ k : Nat, k ≤ l.length ∧ i = .int .i64 k ∧ Hid (∀ f ∈ l.take k, p f = false) ∧ Below w.heap.size w W) (fun i _ => l.length - (intOf i).toNat)
  case atStart => exact ⟨0, Nat.zero_le _, rfl, aA (by simp), Below.refl _ _⟩
  case round =>
    obtain ⟨k, hk, rfl, hinv, q⟩ := hrel
    by_cases hlt : k < l.length
    · obtain ⟨b, off, rfl, hbs, d0, d1, d2, d3⟩ := SgR.at_ hr hlt
      have c0 := aT q hbs d0
      have c1 := aT q hbs d1
      have c2 := aT q hbs d2
      have c3 := aT q hbs d3
      clear d0 d1 d2 d3
      have C := aA (hc.out l[k] (List.getElem_mem hlt) wr q)
      rcases hpk : p l[k] with _ | _
      · have hT := aA (show ∀ f ∈ l.take (k + 1), p f = false by
          intro f hf
          rw [List.take_succ_eq_append_getElem hlt, List.mem_append] at hf
          rcases hf with hf | hf
          · exact hinv.out f hf
          · rw [List.mem_singleton.1 hf]; exact hpk)
        rw [hpk] at C
        clear hpk
        go_wp2_with fail
        refine C.out.mono ?_
        rintro e1 w1 ⟨rfl, q1⟩
        go_wp2
        go_roundw
        case rel => exact ⟨k + 1, by omega, by go_num, hT, aC q q.size q1⟩
        case measure => simp [intOf]; omega
      · have hE := aA (show idxF p l = (k : Int) by
          unfold idxF
          rw [if_neg (by
            rw [List.all_eq_true]
            intro h
            have := h l[k] (List.getElem_mem hlt)
            simp [hpk] at this)]
          congr 1
          rw [List.findIdx_eq hlt]
          exact ⟨hpk, fun j hj => by
            have := hinv.out l[j] (by rw [List.mem_take_iff_getElem]; exact ⟨j, by omega, rfl⟩)
            simp [this]⟩)
        rw [hpk] at C
        clear hpk
        go_wp2_with fail
        refine C.out.mono ?_
        rintro e1 w1 ⟨rfl, q1⟩
        go_wp2
        go_ret
        exact ⟨by rw [hE.out]; rfl, aC q q.size q1⟩
    · have hE := aA (show idxF p l = -1 by
        unfold idxF
        rw [if_pos]
        rw [List.all_eq_true]
        intro f hf
        have h2 := hinv.out f (by rw [List.take_of_length_le (by omega)]; exact hf)
        simp [h2])
      go_wp2
      go_ret
      exact ⟨by rw [hE.out]; rfl, q⟩
theorem idxF_nonneg (p : Sg → Bool) (l : List Sg) : 0 ≤ idxF p l ↔ l.any p = true := by
  unfold idxF
  by_cases h : l.all (fun f => !p f) = true
  · rw [if_pos h]
    have : l.any p = false := by
      rw [List.any_eq_false]
      intro x hx
      have := List.all_eq_true.1 h x hx
      simpa using this
    simp [this]
  · rw [if_neg h]
    have h' : l.all (fun f => !p f) = false := by simpa using h
    obtain ⟨x, hx, hp⟩ := List.all_eq_false.1 h'
    have : l.any p = true := List.any_eq_true.2 ⟨x, hx, by simpa using hp⟩
    simp [this]
set_option maxRecDepth 100000 in
theorem containsSg_any (fid : Nat) (lb : Nat) (p : Sg → Bool) (hp : ∀ (args : Array Value) (w : World), (callFunc fid args).run Tryz.prog w = .ok (.enter fid args) w) (l : List Sg) (A : Option Addr) (c : Nat) (w : World) (hr : SgR w w.heap.size A l) (hl : l.length ≤ 1000)
    (hc : Hid (∀ f ∈ l, ∀ w', Below w.heap.size w w' → Calls Tryz.prog fid #[.agg #[.int .i64 f.start, .int .i64 f.width, .bool f.big, .bool f.sgn], .pointer (some ⟨lb, 0, none⟩)] w' fun e w'' => e = .returned (.bool (p f)) ∧ Below w'.heap.size w' w'')) :
    Calls Tryz.prog 144 #[.slice A l.length c, .func (.func fid) #[] #[.pointer (some ⟨lb, 0, none⟩)]] w fun e w' => e = .returned (.bool (l.any p)) ∧ Below w.heap.size w w' := by
  have I := aA (indexSg_any fid lb p hp l A c w hr hl hc)
  have H := idxF_nonneg p l
  generalize idxF p l = X at *
  rcases hb : l.any p with _ | _
  · have hx : X < 0 := by
      rcases Int.lt_or_le X 0 with h | h
      · exact h
      · rw [H.1 h] at hb; cases hb
    clear H hb hr hp hc
    go_enter Tryz.func144, Tryz.ntmps144
    go_wp2_with fail
    refine I.out.mono ?_
    rintro e1 w1 ⟨rfl, q1⟩
    go_wp2
    go_ret
    refine ⟨?_, q1⟩
    refine aV ?_
    (simp <;> omega)
  · have hx : 0 ≤ X := H.2 hb
    clear H hb hr hp hc
    go_enter Tryz.func144, Tryz.ntmps144
    go_wp2_with fail
    refine I.out.mono ?_
    rintro e1 w1 ⟨rfl, q1⟩
    go_wp2
    go_ret
    refine ⟨?_, q1⟩
    refine aV ?_
    (simp <;> omega)
def idxI (p : Int → Bool) (l : List Int) : Int := if l.all (fun f => !p f) then -1 else ((l.findIdx p : Nat) : Int)
set_option maxRecDepth 100000 in
set_option maxHeartbeats 2000000 in
theorem indexIn_any (fid : Nat) (lb : Nat) (p : Int → Bool) (hp : ∀ (args : Array Value) (w : World), (callFunc fid args).run Tryz.prog w = .ok (.enter fid args) w) (l : List Int) (A : Option Addr) (c : Nat) (w : World) (hr : InR w w.heap.size A l) (hl : l.length ≤ 1000)
    (hc : Hid (∀ f ∈ l, ∀ w', Below w.heap.size w w' → Calls Tryz.prog fid #[.int .i64 f, .pointer (some ⟨lb, 0, none⟩)] w' fun e w'' => e = .returned (.bool (p f)) ∧ Below w'.heap.size w' w'')) :
    Calls Tryz.prog 185 #[.slice A l.length c, .func (.func fid) #[] #[.pointer (some ⟨lb, 0, none⟩)]] w fun e w' => e = .returned (.int .i64 (idxI p l)) ∧ Below w.heap.size w w' := by
  go_enter Tryz.func185, Tryz.ntmps185
  go_wp2
  go_loopw [8] (fun i W => ∃ k : Nat, k ≤ l.length ∧ i = .int .i64 k ∧ Hid (∀ f ∈ l.take k, p f = false) ∧ Below w.heap.size w W) (fun i _ => l.length - (intOf i).toNat)
  case atStart => exact ⟨0, Nat.zero_le _, rfl, aA (by simp), Below.refl _ _⟩
  case round =>
    obtain ⟨k, hk, rfl, hinv, q⟩ := hrel
    by_cases hlt : k < l.length
    · obtain ⟨b, off, rfl, hbs, d0⟩ := InR.at_ hr hlt
      have c0 := aT q hbs d0
      clear d0
      have C := aA (hc.out l[k] (List.getElem_mem hlt) wr q)
      rcases hpk : p l[k] with _ | _
      · have hT := aA (show ∀ f ∈ l.take (k + 1), p f = false by
          intro f hf
          rw [List.take_succ_eq_append_getElem hlt, List.mem_append] at hf
          rcases hf with hf | hf
          · exact hinv.out f hf
          · rw [List.mem_singleton.1 hf]; exact hpk)
        rw [hpk] at C
        clear hpk
        go_wp2_with fail
        refine C.out.mono ?_
        rintro e1 w1 ⟨rfl, q1⟩
        go_wp2
        go_roundw
        case rel => exact ⟨k + 1, by omega, by go_num, hT, aC q q.size q1⟩
        case measure => simp [intOf]; omega
      · have hE := aA (show idxI p l = (k : Int) by
          unfold idxI
          rw [if_neg (by
            rw [List.all_eq_true]
            intro h
            have := h l[k] (List.getElem_mem hlt)
            simp [hpk] at this)]
          congr 1
          rw [List.findIdx_eq hlt]
          exact ⟨hpk, fun j hj => by
            have := hinv.out l[j] (by rw [List.mem_take_iff_getElem]; exact ⟨j, by omega, rfl⟩)
            simp [this]⟩)
        rw [hpk] at C
        clear hpk
        go_wp2_with fail
        refine C.out.mono ?_
        rintro e1 w1 ⟨rfl, q1⟩
        go_wp2
        go_ret
        exact ⟨by rw [hE.out]; rfl, aC q q.size q1⟩
    · have hE := aA (show idxI p l = -1 by
        unfold idxI
        rw [if_pos]
        rw [List.all_eq_true]
        intro f hf
        have h2 := hinv.out f (by rw [List.take_of_length_le (by omega)]; exact hf)
        simp [h2])
      go_wp2
      go_ret
      exact ⟨by rw [hE.out]; rfl, q⟩
theorem idxI_nonneg (p : Int → Bool) (l : List Int) : 0 ≤ idxI p l ↔ l.any p = true := by
  unfold idxI
  by_cases h : l.all (fun f => !p f) = true
  · rw [if_pos h]
    have : l.any p = false := by
      rw [List.any_eq_false]
      intro x hx
      have := List.all_eq_true.1 h x hx
      simpa using this
    simp [this]
  · rw [if_neg h]
    have h' : l.all (fun f => !p f) = false := by simpa using h
    obtain ⟨x, hx, hp⟩ := List.all_eq_false.1 h'
    have : l.any p = true := List.any_eq_true.2 ⟨x, hx, by simpa using hp⟩
    simp [this]
set_option maxRecDepth 100000 in
theorem containsIn_any (fid : Nat) (lb : Nat) (p : Int → Bool) (hp : ∀ (args : Array Value) (w : World), (callFunc fid args).run Tryz.prog w = .ok (.enter fid args) w) (l : List Int) (A : Option Addr) (c : Nat) (w : World) (hr : InR w w.heap.size A l) (hl : l.length ≤ 1000)
    (hc : Hid (∀ f ∈ l, ∀ w', Below w.heap.size w w' → Calls Tryz.prog fid #[.int .i64 f, .pointer (some ⟨lb, 0, none⟩)] w' fun e w'' => e = .returned (.bool (p f)) ∧ Below w'.heap.size w' w'')) :
    Calls Tryz.prog 147 #[.slice A l.length c, .func (.func fid) #[] #[.pointer (some ⟨lb, 0, none⟩)]] w fun e w' => e = .returned (.bool (l.any p)) ∧ Below w.heap.size w w' := by
  have I := aA (indexIn_any fid lb p hp l A c w hr hl hc)
  have H := idxI_nonneg p l
  generalize idxI p l = X at *
  rcases hb : l.any p with _ | _
  · have hx : X < 0 := by
      rcases Int.lt_or_le X 0 with h | h
      · exact h
      · rw [H.1 h] at hb; cases hb
    clear H hb hr hp hc
    go_enter Tryz.func147, Tryz.ntmps147
    go_wp2_with fail
    refine I.out.mono ?_
    rintro e1 w1 ⟨rfl, q1⟩
    go_wp2
    go_ret
    refine ⟨?_, q1⟩
    refine aV ?_
    (simp <;> omega)
  · have hx : 0 ≤ X := H.2 hb
    clear H hb hr hp hc
    go_enter Tryz.func147, Tryz.ntmps147
    go_wp2_with fail
    refine I.out.mono ?_
    rintro e1 w1 ⟨rfl, q1⟩
    go_wp2
    go_ret
    refine ⟨?_, q1⟩
    refine aV ?_
    (simp <;> omega)
def eqA (g h : Nat → Nat) : Bool := (List.range 64).all fun p => g p == h p
theorem eqA_iff (g h : Nat → Nat) : eqA g h = true ↔ ∀ p < 64, g p = h p := by
  unfold eqA
  rw [List.all_eq_true]
  simp
theorem j8 {P : Program} (w : World) (D : Nat) (t e : TypeId) (ht : P.underlying t = some (.array 64 e)) (he : P.underlying e = some (.int .i64)) (hsz : ∀ w, (sizeOf e).run P w = .ok 1 w) (g h : Nat → Nat) :
    (Op.equalIn (D + 2) t (.agg (hP g).toArray) (.agg (hP h).toArray)).run P w = .ok (eqA g h) w := by
  unfold eqA
  rw [List.range_eq_range', Op.equalIn]
  simp only [Sem.run_bind, run_underlying ht, Result.andThen_ok, hsz, Std.Legacy.Range.forIn_eq_forIn_range', Std.Legacy.Range.size, Nat.sub_zero, Nat.add_sub_cancel, Nat.div_one]
  have hl : ∀ i ∈ List.range' 0 64 1, i < 64 := fun i hi => by simpa using (List.mem_range'_1.1 hi).2
  generalize List.range' 0 64 1 = l at hl ⊢
  induction l with
  | nil => simp
  | cons i l ih =>
    have hi : i < 64 := hl i (by simp)
    have pa : ∀ f : Nat → Nat, (part e (hP f).toArray (i * 1)).run P w = .ok (.int .i64 (f i : Int)) w := fun f => by
      have := arL_at f hi
      simp [part, isAgg, run_underlying he, this]
    have pe : (Op.equalIn (D + 1) e (.int .i64 (g i : Int)) (.int .i64 (h i : Int))).run P w = .ok (g i == h i) w := by
      rw [run_equalIn_int w D e .i64 .i64 _ _ he]
      congr 1
      rw [Bool.eq_iff_iff]
      simp
      omega
    simp only [List.forIn_cons, Sem.run_bind, pa, pe, Result.andThen_ok, List.all_cons]
    cases hb : (g i == h i)
    · simp
    · simp only [Bool.not_true, Bool.false_eq_true, if_false, Sem.run_pure, Result.andThen_ok, Bool.true_and]
      exact ih fun j hj => hl j (by simp [hj])
set_option maxRecDepth 100000 in
theorem right1_any (lb : Nat) (n : Int) (s : Sg) (w : World) (h : w.cell? ⟨lb, 0, none⟩ = some (.int .i64 n)) (hlb : lb < w.heap.size) :
    Calls Tryz.prog 145 #[.agg #[.int .i64 s.start, .int .i64 s.width, .bool s.big, .bool s.sgn], .pointer (some ⟨lb, 0, none⟩)] w fun e w' => e = .returned (.bool (!dN s n)) ∧ Below w.heap.size w w' := by
  have R := aA (fun W => sigRight_any s n W)
  generalize dN s n = x at *
  obtain ⟨st, wd, bg, sg⟩ := s
  dsimp only at *
  have q0 : Below w.heap.size w (w.alloc (.cells #[.int .i64 st, .int .i64 wd, .bool bg, .bool sg] 136)) := (Below.refl _ _).alloc (Nat.le_refl _) _
  have h2 := aT q0 hlb h
  go_enter Tryz.func145, Tryz.ntmps145
  go_wp2_with fail
  (with_reducible refine (R.out _).mono ?_)
  rintro e1 w1 ⟨rfl, q1⟩
  have q := aC q0 q0.size q1
  clear q0 q1 h2
  go_wp2_with fail
  go_ret
  exact ⟨rfl, q⟩
set_option maxRecDepth 100000 in
theorem right2_any (lb : Nat) (n : Int) (a : Int) (w : World) (h : w.cell? ⟨lb, 0, none⟩ = some (.int .i64 n)) (h0 : 0 ≤ n) (h8 : n ≤ 8) :
    Calls Tryz.prog 148 #[.int .i64 a, .pointer (some ⟨lb, 0, none⟩)] w fun e w' => e = .returned (.bool (!decide (-1 ≤ a ∧ a < 8 * n))) ∧ Below w.heap.size w w' := by
  by_cases h1 : a < -1
  · rw [decide_eq_false (by omega)]
    go_enter Tryz.func148, Tryz.ntmps148
    go_wp2_with fail
    go_ret
    exact ⟨rfl, Below.refl _ _⟩
  · by_cases h2 : a < 8 * n
    · rw [decide_eq_true (by omega)]
      go_enter Tryz.func148, Tryz.ntmps148
      go_wp2_with fail
      go_ret
      refine ⟨?_, Below.refl _ _⟩
      refine aV ?_
      (simp <;> omega)
    · rw [decide_eq_false (by omega)]
      go_enter Tryz.func148, Tryz.ntmps148
      go_wp2_with fail
      go_ret
      refine ⟨?_, Below.refl _ _⟩
      refine aV ?_
      (simp <;> omega)
theorem right_parts (L : Ly) (h1 : 0 ≤ L.size) (h2 : L.size ≤ 8) (h3 : L.sgs.length ≤ 16) (h4 : L.nws.length = L.sgs.length) :
    rightB L = (!(L.sgs.any fun s => !dN s L.size) && (!(L.nws.any fun a => !decide (-1 ≤ a ∧ a < 8 * L.size)) && eqA (fun p => min (i5 L.sgs L.nws p) 1) (i5 L.sgs L.nws))) := by
  rw [Bool.eq_iff_iff, fE]
  simp only [Bool.and_eq_true, Bool.not_eq_true', List.any_eq_false, eqA_iff]
  constructor
  · rintro ⟨_, _, _, _, a, b, c⟩
    exact ⟨fun s hs => by simpa using a s hs, fun x hx => by simpa using b x hx, fun p hp => by have := c p hp; omega⟩
  · rintro ⟨a, b, c⟩
    exact ⟨h1, h2, h3, h4, fun s hs => by simpa using a s hs, fun x hx => by simpa using b x hx, fun p hp => by have := c p hp; omega⟩
theorem right_no (L : Ly) (h : ¬ (0 ≤ L.size ∧ L.size ≤ 8 ∧ L.sgs.length ≤ 16 ∧ L.nws.length = L.sgs.length)) : rightB L = false := by
  cases hr : rightB L with
  | false => rfl
  | true =>
    have := fE.1 hr
    exact absurd ⟨this.1, this.2.1, this.2.2.1, this.2.2.2.1⟩ h
set_option maxRecDepth 100000 in
set_option maxHeartbeats 4000000 in
theorem pduRight_any (L : Ly) (A : Option Addr) (c : Nat) (B : Option Addr) (d : Nat) (w : World) (hA : SgR w w.heap.size A L.sgs) (hB : InR w w.heap.size B L.nws) (hs : L.sgs.length ≤ 9223372036854775807) (hn : L.nws.length ≤ 9223372036854775807) (hc : L.sgs.length ≤ c) (hd : L.nws.length ≤ d) :
    Calls Tryz.prog 95 #[.agg (lyV L A c B d)] w fun e w' => e = .returned (.bool (rightB L)) ∧ Below w.heap.size w w' := by
  have q0 : Below w.heap.size w (w.alloc (.cells (lyV L A c B d) 66)) := (Below.refl _ _).alloc (Nat.le_refl _) _
  by_cases hp : 0 ≤ L.size ∧ L.size ≤ 8 ∧ L.sgs.length ≤ 16 ∧ L.nws.length = L.sgs.length
  · obtain ⟨h1, h2, h3, h4⟩ := hp
    rw [right_parts L h1 h2 h3 h4]
    replace hs : L.sgs.length ≤ 1000 := by omega
    replace hn : L.nws.length ≤ 1000 := by omega
    have CS := aA (fun lb (W : World) (hb : Below w.heap.size w W) (hcell : W.cell? ⟨lb, 0, none⟩ = some (.int .i64 L.size)) (hlb : lb < W.heap.size) => containsSg_any 145 lb (fun s => !dN s L.size) (fun _ _ => rfl) L.sgs A c W (Rd.next hA hb hb.size) hs (aA (fun s _ W2 hb2 => right1_any lb L.size s W2 (aT hb2 hlb hcell) (Nat.lt_of_lt_of_le hlb hb2.size))))
    have CI := aA (fun lb (W : World) (hb : Below w.heap.size w W) (hcell : W.cell? ⟨lb, 0, none⟩ = some (.int .i64 L.size)) (hlb : lb < W.heap.size) => containsIn_any 148 lb (fun a => !decide (-1 ≤ a ∧ a < 8 * L.size)) (fun _ _ => rfl) L.nws B d W (Rd.next hB hb hb.size) hn (aA (fun a _ W2 hb2 => right2_any lb L.size a W2 (aT hb2 hlb hcell) h1 h2)))
    have US := aA (fun (W : World) (hb : Below w.heap.size w W) => used_any L A c B d W (Rd.next hA hb hb.size) (Rd.next hB hb hb.size) hs hn hc hd)
    have B0 := aA (World.alloc_heap_new w (.cells (lyV L A c B d) 66))
    generalize (L.sgs.any fun s => !dN s L.size) = b1 at *
    generalize (L.nws.any fun a => !decide (-1 ≤ a ∧ a < 8 * L.size)) = b2 at *
    generalize i5 L.sgs L.nws = g at *
    clear hA hB
    unfold lyV at *
    have hli : (L.sgs.length : Int) ≤ 16 := by omega
    have hn4 : ((L.nws.length : Int) == (L.sgs.length : Int)) = true := by rw [beq_iff_eq]; omega
    have hn5 : ((L.nws.length : Int) != (L.sgs.length : Int)) = false := by simp [bne, hn4]
    clear h4
    obtain ⟨c0, c1, c2⟩ := bK B0.out
    have Q0 := aA q0
    have hz0 : w.heap.size < (w.alloc (.cells #[.int .i64 L.size, .slice A L.sgs.length c, .slice B L.nws.length d] 66)).heap.size := by simp
    have Z0 := aA (hz0)
    clear q0 hz0
    have C0 := aA c0
    generalize hw0 : w.alloc (.cells #[.int .i64 L.size, .slice A L.sgs.length c, .slice B L.nws.length d] 66) = w0 at *
    go_enter Tryz.func95, Tryz.ntmps95
    go_wp2_with fail
    (with_reducible refine (CS.out w.heap.size w0 Q0.out C0.out Z0.out).mono ?_)
    rintro e1 w1 ⟨rfl, q1⟩
    have Q1 := aA (aC Q0.out Q0.out.size q1)
    have B1 := aA (aB B0.out q1)
    clear c0 c1 c2 CS hn4 hn5 q1 hw0 B0 C0 Z0
    obtain ⟨c0, c1, c2⟩ := bK B1.out
    have C1 := aA c0
    have Z1 := aA (aH B1.out)
    cases b1 with
    | true =>
      go_wp2_with fail
      go_ret
      exact ⟨rfl, Q1.out⟩
    | false =>
      go_wp2_with fail
      (with_reducible refine (CI.out w.heap.size w1 Q1.out C1.out Z1.out).mono ?_)
      rintro e2 w2 ⟨rfl, q2⟩
      have Q2 := aA (aC Q1.out Q1.out.size q2)
      have B2 := aA (aB B1.out q2)
      clear c0 c1 c2 CI q2 B1 C1 Z1
      obtain ⟨c0, c1, c2⟩ := bK B2.out
      cases b2 with
      | true =>
        go_wp2_with fail
        go_ret
        exact ⟨rfl, Q2.out⟩
      | false =>
        go_wp2_with fail
        (with_reducible refine (US.out w2 Q2.out).mono ?_)
        rintro e3 w3 ⟨rfl, q3⟩
        have Q3 := aA (aC Q2.out Q2.out.size q3)
        have B3 := aA (aB B2.out q3)
        clear c0 c1 c2 q3 B2
        have A3 := aA (show ArB (w3.alloc (.cells (hP fun _ => 0).toArray 230)) w3.heap.size (fun _ => 0) from World.alloc_heap_new w3 _)
        have TH : Hid ((w3.alloc (.cells (hP fun _ => 0).toArray 230)).there w3.heap.size 0 (hP g).length) := by
          have := aK A3.out
          rw [dP] at this ⊢
          exact this
        go_wp2_with (refine aF (by rfl) 230 (.tmp 3) (.tmp 37) (by rfl) w3.heap.size 0 (hP g) (by rfl) (by rfl) (by exact TH.out) (by rw [dP]; kernel_rfl) (by exact arL_one _) ?_)
        intro w4 e4
        have qa : Below w3.heap.size w3 (w3.alloc (.cells (hP fun _ => 0).toArray 230)) := (Below.refl _ _).alloc (Nat.le_refl _) _
        have A4 : Hid (ArB w4 w3.heap.size g) := by
          have := aJ (hP g) A3.out (by rw [dP, dP])
          have e := e4.out
          unfold ArB
          rw [e]
          exact this
        have q4 : Below w3.heap.size w3 w4 := by
          rw [e4.out]
          exact qa.trans (aE (g := w3.heap.size) _ 0 _ (Nat.le_refl _))
        have B4 := aA (aB B3.out q4)
        have Q4 := aA (aC Q3.out Q3.out.size q4)
        have zb : w.heap.size < w3.heap.size := aH B3.out
        clear e4 qa q4 TH A3 B3 Q3
        generalize w3.heap.size = ob at *
        go_wp2_with fail
        go_loopw [38] (fun vi W => ∃ k : Nat, k ≤ 64 ∧ vi = .int .i64 k ∧ Hid (ArB W ob (fun p => if p < k then min (g p) 1 else g p)) ∧ Hid (W.heap[w.heap.size]? = some (.cells #[.int .i64 L.size, .slice A L.sgs.length c, .slice B L.nws.length d] 66 (0, 0))) ∧ Hid (Below w.heap.size w W)) (fun vi _ => 64 - (intOf vi).toNat)
        case atStart => exact ⟨0, Nat.zero_le _, rfl, aA (A4.out.congr (fun p _ => by simp)), B4, Q4⟩
        case round =>
          obtain ⟨k, hk, rfl, hA, hB, hQ⟩ := hrel
          clear A4 B4 Q4
          by_cases hlt : k < 64
          · have hki : (k : Int) < 64 := by omega
            obtain ⟨e0, e1⟩ := hA.out.cell hlt
            have hgk : (if k < k then min (g k) 1 else g k) = g k := by rw [if_neg (by omega)]
            rw [hgk] at e0
            obtain ⟨m, em, hm⟩ := jL (P := Tryz.prog) (g k : Int) 1
            have em2 : m = ((min (g k) 1 : Nat) : Int) := by omega
            have AN := aA ((hA.out.set k (min (g k) 1)).congr (h := fun p => if p < k + 1 then min (g p) 1 else g p) (fun p _ => by
              by_cases e : p = k
              · subst e; simp
              · rw [if_neg e]
                by_cases h : p < k
                · rw [if_pos h, if_pos (by omega)]
                · rw [if_neg h, if_neg (by omega)]))
            have BN : Hid ((wr.setCell ⟨ob, k, none⟩ (.int .i64 ((min (g k) 1 : Nat) : Int))).heap[w.heap.size]? = some (.cells #[.int .i64 L.size, .slice A L.sgs.length c, .slice B L.nws.length d] 66 (0, 0))) := by
              have := hB.out
              rw [← heap_setCell_other wr ⟨ob, k, none⟩ w.heap.size (.int .i64 ((min (g k) 1 : Nat) : Int)) (show w.heap.size ≠ ob by omega)] at this
              exact this
            have QN := aA (hQ.out.setCell (p := ⟨ob, k, none⟩) (show w.heap.size ≤ ob by omega) (.int .i64 ((min (g k) 1 : Nat) : Int)))
            rw [em2] at hm
            clear em em2 hgk hA hB hQ
            generalize ((min (g k) 1 : Nat) : Int) = m1 at *
            go_wp2_with fail
            go_roundw
            case rel => exact ⟨k + 1, by omega, by go_num, AN, BN, QN⟩
            case measure => simp [intOf]; omega
          · obtain rfl : k = 64 := by omega
            have AF := aA (hA.out.congr (h := fun p => min (g p) 1) (fun p hp => by rw [if_pos hp]))
            clear hA
            go_wp2_with fail
            refine bB [0, 1] [(0, fun W => ArB W ob (fun p => min (g p) 1)), (1, fun W => W.heap[w.heap.size]? = some (.cells #[.int .i64 L.size, .slice A L.sgs.length c, .slice B L.nws.length d] 66 (0, 0)))] (by kernel_rfl) ?_
            replace AF : Hid (ArB wr.drew ob (fun p => min (g p) 1)) := AF
            replace hB : Hid (wr.drew.heap[w.heap.size]? = some (.cells #[.int .i64 L.size, .slice A L.sgs.length c, .slice B L.nws.length d] 66 (0, 0))) := hB
            replace hQ : Hid (Below w.heap.size w wr.drew) := aA hQ.out.drew
            generalize wr.drew = wx at *
            have EQ := aA (fun W => j8 (P := Tryz.prog) W 9998 230 3 Tryz.underlying230 Tryz.underlying3 (fun W => by kernel_rfl) (fun p => min (g p) 1) g)
            have hEG : Tryz.prog.eqGuardType Tryz.prog.depth 230 = false := by kernel_rfl
            refine aQ (i := 0) (v := .agg (hP (fun p => min (g p) 1)).toArray) rfl rfl (by kernel_rfl) (by kernel_rfl) (by kernel_rfl) (by kernel_rfl) (by kernel_rfl) (fun _ _ _ h => h) rfl (fun W h => bQ W ob 0 230 (hP (fun p => min (g p) 1)) _ (gD h) Tryz.underlying230 rfl (by rw [dP]; kernel_rfl) _ _ (.tmp 3) (by rfl) (by rfl)) (AF.out) ?_
            refine aQ (i := 1) (v := .agg #[.int .i64 L.size, .slice A L.sgs.length c, .slice B L.nws.length d]) rfl rfl (by kernel_rfl) (by kernel_rfl) (by kernel_rfl) (by kernel_rfl) (by kernel_rfl) (fun _ _ _ h => h) rfl (fun W h => bZ W w.heap.size 66 _ _ h Tryz.underlying66 rfl (by kernel_rfl) _ _ (.tmp 1) (by rfl) (by rfl)) (hB.out) ?_
            generalize hAL : (hP (fun p => min (g p) 1)).toArray = al at *
            go_simp
            refine aI (i := 2) (by kernel_rfl) ?_
            refine aM rfl rfl ?_
            go_simp
            go_at_call 149
            refine (US.out wx hQ.out).mono ?_
            rintro e5 w5 ⟨rfl, q5⟩
            have AF5 := aB AF.out q5
            have Q5 := aA (aC hQ.out hQ.out.size q5)
            refine ⟨aO (by kernel_rfl) (.cons AF5 (.past (by kernel_rfl) .nil)), ?_⟩
            have EQ5 := EQ.out w5
            simp only [Nat.reduceAdd] at EQ5
            generalize (hP g).toArray = ag at *
            clear AF5 q5 US
            go_simp
            refine aI (i := 3) (by kernel_rfl) ?_
            refine aM rfl rfl ?_
            go_simp
            refine ⟨aN (by kernel_rfl) (by kernel_rfl), ?_⟩
            go_simp
            refine aI (i := 4) (by kernel_rfl) ?_
            refine aM rfl rfl ?_
            go_simp
            refine ⟨aN (by kernel_rfl) (by kernel_rfl), ?_⟩
            go_simp
            refine aS (by kernel_rfl) ?_ _
            go_wp2_with fail
            go_ret
            exact ⟨rfl, Q5.out⟩
  · rw [right_no L hp]
    clear hA hB
    unfold lyV at *
    by_cases h1 : L.size < 0
    · clear hp
      go_enter Tryz.func95, Tryz.ntmps95
      go_wp2_with fail
      go_ret
      exact ⟨rfl, q0⟩
    by_cases h2 : 8 < L.size
    · clear hp
      go_enter Tryz.func95, Tryz.ntmps95
      go_wp2_with fail
      go_ret
      exact ⟨rfl, q0⟩
    by_cases h3 : 16 < (L.sgs.length : Int)
    · clear hp
      go_enter Tryz.func95, Tryz.ntmps95
      go_wp2_with fail
      go_ret
      exact ⟨rfl, q0⟩
    have h4 : ((L.nws.length : Int) == (L.sgs.length : Int)) = false := by rw [beq_eq_false_iff_ne]; intro e; exact hp ⟨by omega, by omega, by omega, by omega⟩
    have h5 : ((L.nws.length : Int) != (L.sgs.length : Int)) = true := by simp [bne, h4]
    clear hp
    go_enter Tryz.func95, Tryz.ntmps95
    go_wp2_with fail
    go_ret
    exact ⟨rfl, q0⟩
end Go.Proofs.YtkmddjbialpppaaGreatDoor
