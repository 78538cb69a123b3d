import Derived.Test.YtkmddjbialpppaaGreatDoorCoF
import Derived.Test.YtkmddjbialpppaaGreatDoorMgPdG
namespace Go.Proofs.YtkmddjbialpppaaGreatDoor
open Go.ChangeShapes Go.WideShapes Go.ChangeAt Go.RowKit Go.Maps
open CM PD SG
theorem heap_mid {W W' : World} {bm n : Nat} {f : Int → Option Int} (hm : MId W bm n f) (hg : W.grownBy W' (some bm)) {b : Nat} {cs : Array Value} {t : TypeId} {fz : Nat × Nat} (h : W.heap[b]? = some (.cells cs t fz)) : W'.heap[b]? = some (.cells cs t fz) := by
  have hne : b ≠ bm := by
    rintro rfl
    obtain ⟨D, ⟨es, clock, hb, _⟩, _⟩ := hm
    rw [h] at hb
    cases hb
  rw [hg.block b (Array.getElem?_eq_some_iff.1 h).1 (by simpa using hne)]
  exact h
def seen (l : List Pd) : Nat → Int → Option Int
  | 0 => fun _ => none
  | k + 1 => fun y => match l[k]? with
    | some p => if y = p.id then some (k : Int) else seen l k y
    | none => seen l k y
theorem seen_succ {l : List Pd} {k : Nat} (h : k < l.length) : seen l (k + 1) = fun y => if y = l[k].id then some (k : Int) else seen l k y := by
  funext y
  simp [seen, h]
def okAt (c : Cf) (k : Nat) : Bool := match c.l[k]? with
  | some p => iW c p (seen c.l k p.id).isSome
  | none => false
theorem okAt_eq {c : Cf} {k : Nat} (h : k < c.l.length) : okAt c k = iW c c.l[k] (seen c.l k c.l[k].id).isSome := by simp [okAt, h]
def LookV (c : Cf) (W : World) (e : Value) : Prop :=
  (∃ b n, e = .tuple #[.map (some b), .int .i64 (-1)] ∧ MId W b n (seen c.l c.l.length) ∧ ∀ k, k < c.l.length → okAt c k = true) ∨
  (∃ k : Nat, k < c.l.length ∧ (∀ j, j < k → okAt c j = true) ∧ okAt c k = false ∧ e = .tuple #[.map none, .int .i64 k])
theorem PdR.at_ {w : World} {B : Nat} {A : Option Addr} {l : List Pd} (h : Rd w B A 22 (pdRow l)) {k : Nat} (hk : k < l.length) :
    ∃ b off, A = some ⟨b, off, none⟩ ∧ b < B ∧ w.rangeAt b (off + k * 22) l[k].cs := by
  obtain ⟨b, off, e, hb, hc⟩ := h (by simpa [pdRow] using Nat.lt_of_le_of_lt (Nat.zero_le _) hk)
  refine ⟨b, off, e, hb, fun j v hj => ?_⟩
  have hx : (pdRow l)[k]? = some l[k].cs := by simp [pdRow, hk]
  exact hc k _ j _ hx hj
def zPd : Pd := ⟨0, 0, 0, .zero, 0, .zero, .zero, .zero, ⟨0, 0, 0, 0, 0⟩, ⟨0, 0, 0, 0, 0⟩, 0, 0⟩
set_option maxRecDepth 100000 in
set_option maxHeartbeats 16000000 in
theorem confLook_any (c : Cf) (w : World) (ho : c.Ok w) (hn : 2 ≤ c.nodes ∧ c.nodes ≤ 4) (hb : c.base ≤ 2048 - c.nodes) :
    Calls Tryz.prog 74 #[.agg c.cs.toArray] w fun e w' => (∃ v, e = .returned v ∧ LookV c w' v) ∧ Below w.heap.size w w' := by
  obtain ⟨w0, hw0⟩ : ∃ w0, w0 = (w.alloc (.cells c.cs.toArray 25)).alloc (.map #[] 0) := ⟨_, rfl⟩
  have step : ∀ (W : World) (o : Obj), Below W.heap.size W (W.alloc o) := fun W o => (Below.refl _ _).alloc (Nat.le_refl _) _
  have B1 := aA (aB (World.alloc_heap_new w (.cells c.cs.toArray 25)) (step _ (.map #[] 0)))
  have M1 := aA (MId.made (w.alloc (.cells c.cs.toArray 25)))
  have Q0 : Hid (Below w.heap.size w w0) := by rw [hw0]; exact aA ((step _ _).alloc (by simp) _)
  have z0 : w0.heap.size = w.heap.size + 2 := by rw [hw0]; simp
  rw [← hw0] at B1 M1
  simp only [World.size_alloc] at M1
  have MM0 : Hid (MId w0 (w.heap.size + 1) 0 (seen c.l 0)) := M1
  have HO := aA ho
  have hl := ho.n
  have HN := aA (fun (p : Pd) (W : World) n s (q : Below w.heap.size w W) (hp : p.Ok W) (hm : MId W (w.heap.size + 1) n s) => confMay_any c p (w.heap.size + 1) n s W (ho.next q) hp hm hn hb)
  clear step ho hn hb M1
  obtain ⟨c0, c1, c2, c3, c4, c5, c6, c7⟩ := bL B1.out
  clear c0 c2 c3 c4 c5 c6 c7
  have hmm := @run_makeMap Tryz.prog
  go_enter Tryz.func74, Tryz.ntmps74
  go_upto_region 2 with fail
  change Code.wp _ _ _ _ ((w.alloc (.cells c.cs.toArray 25)).alloc (.map #[] 0))
  rw [← hw0]
  clear hw0 hmm
  go_wp2_with fail
  clear c1
  go_loopw [11] (fun vi W => ∃ k : Nat, k ≤ c.l.length ∧ vi = .int .i64 k ∧ Hid (∀ j, j < k → okAt c j = true) ∧ Hid (MId W (w.heap.size + 1) k (seen c.l k)) ∧ Hid (W.heap[w.heap.size]? = some (.cells c.cs.toArray 25 (0, 0))) ∧ Hid (Below w.heap.size w W) ∧ w.heap.size + 2 ≤ W.heap.size) (fun vi _ => c.l.length - (intOf vi).toNat)
  case atStart => exact ⟨0, Nat.zero_le _, rfl, aA (fun j h => absurd h (Nat.not_lt_zero _)), MM0, B1, Q0, by omega⟩
  case round =>
    obtain ⟨k, hk, rfl, hA, hM, hB, hQ, hz⟩ := hrel
    clear MM0 B1 Q0
    by_cases hkl : k < c.l.length
    · have hki : (k : Int) < (c.l.length : Int) := by omega
      obtain ⟨pb, po, hca, hpb, hrg⟩ := PdR.at_ (HO.out.next hQ.out).r hkl
      have RG := aA hrg
      have hpo := (HO.out.next hQ.out).p c.l[k] (List.getElem_mem hkl)
      have HPO := aA hpo
      have HAt := aA (okAt_eq hkl)
      have HSu := aA (seen_succ hkl)
      clear hrg hpo
      generalize c.l[k] = p at *
      rw [hca]
      have q2 : Below wr.heap.size wr (wr.alloc (.cells zPd.cs.toArray 79)) := (Below.refl _ _).alloc (Nat.le_refl _) _
      have g2 := World.alloc_heap_new wr (.cells zPd.cs.toArray 79)
      have TH := aA (show (wr.alloc (.cells zPd.cs.toArray 79)).there wr.heap.size 0 22 from aK (cs := zPd.cs) g2)
      go_wp2_with (first | (refine wpList_load_mid rfl 79 (.tmp 14) (by rfl) pb (po + k * 22) (by rfl) p.cs _ (by exact RG.out) Tryz.underlying79 (by rfl) (by kernel_rfl) ?_) | (refine aF (by rfl) 79 (.tmp 6) (.tmp 15) (by rfl) wr.heap.size 0 p.cs (by rfl) (by rfl) (by exact TH.out) (by kernel_rfl) (by simp [Value.oneCell', Pd.cs, Iv.v, Fv.v]) ?_))
      intro w2 e2
      have s2 : Below wr.heap.size wr w2 := by rw [e2.out]; exact q2.trans (aE (g := wr.heap.size) _ 0 _ (Nat.le_refl _))
      have P2 := aA (show w2.heap[wr.heap.size]? = some (.cells p.cs.toArray 79 (0, 0)) by rw [e2.out]; exact aJ p.cs (xs := zPd.cs) g2 rfl)
      have B2 := aA (aB hB.out s2)
      have Q2 := aA (aC hQ.out hQ.out.size s2)
      have M2 := aA (hM.out.below s2)
      have HP2 := aA (HPO.out.next s2)
      have z2 : w.heap.size + 2 ≤ w2.heap.size := Nat.le_trans hz s2.size
      have CM := aA (HN.out p w2 k (seen c.l k) Q2.out HP2.out M2.out)
      have hid := HPO.out.id
      clear e2 TH g2 q2 s2 hB hM RG HPO
      generalize wr.heap.size = pbx at *
      rw [← HAt.out] at CM
      go_wp2_with (first | (refine wpList_load_row rfl 25 (.tmp 1) (by rfl) w.heap.size (by rfl) 25 c.cs.toArray (0, 0) _ (by exact B2.out) Tryz.underlying25 (by rfl) (by kernel_rfl) ?_) | (refine wpList_load_row rfl 79 (.tmp 6) (by rfl) pbx (by rfl) 79 p.cs.toArray (0, 0) _ (by exact P2.out) Tryz.underlying79 (by rfl) (by kernel_rfl) ?_))
      (with_reducible refine (CM.out).mono ?_)
      rintro e3 w3 ⟨rfl, q3⟩
      have P3 := aA (aB P2.out q3)
      have B3 := aA (aB B2.out q3)
      have Q3 := aA (aC Q2.out Q2.out.size q3)
      have M3 := aA (M2.out.below q3)
      have z3 : w.heap.size + 2 ≤ w3.heap.size := Nat.le_trans z2 q3.size
      clear q3 P2 B2 Q2 M2 CM HP2
      rcases hok : okAt c k with _ | _
      · have HV := aA (show LookV c w3 (.tuple #[.map none, .int .i64 k]) from .inr ⟨k, hkl, hA.out, hok, rfl⟩)
        clear hok
        go_wp2_with fail
        go_ret2
        exact ⟨⟨_, rfl, HV.out⟩, Q3.out⟩
      · have HA2 := aA (show ∀ j, j < k + 1 → okAt c j = true from fun j hj => by
          rcases Nat.lt_or_ge j k with h | h
          · exact hA.out j h
          · rw [show j = k by omega]; exact hok)
        clear hok
        obtain ⟨W4, hput, m4, hg4⟩ := M3.out.put (by unfold maxLen; omega) p.id (k : Int) hid (by omega)
        rw [← HSu.out] at m4
        have M4 := aA m4
        have B4 := aA (heap_mid M3.out hg4 B3.out)
        have Q4 := aA (Q3.out.grown hg4 Q3.out.size (fun j e => by cases e; omega))
        have z4 : w.heap.size + 2 ≤ W4.heap.size := Nat.le_trans z3 hg4.size
        obtain ⟨⟨p0, p1, p2, p3, p4, p5, p6, p7, p8, p9⟩, _⟩ := dQ P3.out
        clear p1 p2 p3 p4 p5 p6 p7 p8 p9 m4 hg4 B3 Q3 M3
        go_wp2_with fail
        go_roundw
        case rel => exact ⟨k + 1, by omega, by go_num, HA2, M4, B4, Q4, z4⟩
        case measure => simp [intOf]; omega
    · obtain rfl : k = c.l.length := by omega
      have HV := aA (show LookV c wr (.tuple #[.map (some (w.heap.size + 1)), .int .i64 (-1)]) from .inl ⟨_, _, rfl, hM.out, hA.out⟩)
      go_wp2_with fail
      go_ret2
      exact ⟨⟨_, rfl, HV.out⟩, hQ.out⟩
def cF (c : Cf) : Bool := gN c && (List.range c.l.length).all (okAt c)
def WhyV (c : Cf) (a e : Int) : Prop :=
  (gN c = false ∧ a = -1 ∧ e = 40) ∨ (gN c = true ∧ ∃ k : Nat, k < c.l.length ∧ (∀ j, j < k → okAt c j = true) ∧ okAt c k = false ∧ a = k ∧ e = 40) ∨ (gN c = true ∧ (∀ k, k < c.l.length → okAt c k = true) ∧ a = -1 ∧ e = 0)
theorem WhyV.right {c : Cf} {a e : Int} (h : WhyV c a e) : (e = 0 ∧ cF c = true) ∨ (e = 40 ∧ cF c = false) := by
  rcases h with ⟨hf, _, rfl⟩ | ⟨hf, k, hk, _, hn, _, rfl⟩ | ⟨hf, ha, _, rfl⟩
  · exact .inr ⟨rfl, by rw [cF, hf]; rfl⟩
  · refine .inr ⟨rfl, ?_⟩
    rw [cF, hf, Bool.true_and, List.all_eq_false]
    exact ⟨k, List.mem_range.2 hk, by simp [hn]⟩
  · refine .inl ⟨rfl, ?_⟩
    rw [cF, hf, Bool.true_and, List.all_eq_true]
    exact fun k hk => ha k (List.mem_range.1 hk)
theorem gS {c : Cf} (h : gN c = true) : (2 ≤ c.nodes ∧ c.nodes ≤ 4) ∧ c.base ≤ 2048 - c.nodes := by
  unfold gN at h
  simp only [Bool.and_eq_true, decide_eq_true_eq] at h
  exact ⟨b8 h.1, h.2.2.1⟩
set_option maxRecDepth 100000 in
set_option maxHeartbeats 16000000 in
theorem confWhy_any (c : Cf) (w : World) (ho : c.Ok w) : Calls Tryz.prog 32 #[.agg c.cs.toArray] w fun e w' => (∃ a k, e = .returned (.tuple #[.int .i64 a, .int .i64 k]) ∧ WhyV c a k) ∧ Below w.heap.size w w' := by
  obtain ⟨w0, hw0⟩ : ∃ w0, w0 = w.alloc (.cells c.cs.toArray 25) := ⟨_, rfl⟩
  have B0 := aA (World.alloc_heap_new w (.cells c.cs.toArray 25))
  have Q0 : Hid (Below w.heap.size w w0) := by rw [hw0]; exact aA ((Below.refl _ _).alloc (Nat.le_refl _) _)
  rw [← hw0] at B0
  have FA := aA (confFast_any c w0 (ho.next Q0.out))
  have HO := aA ho
  clear ho
  go_enter Tryz.func32, Tryz.ntmps32
  go_upto_region 1 with fail
  change Code.wp _ _ _ _ (w.alloc (.cells c.cs.toArray 25))
  rw [← hw0]
  clear hw0
  go_wp2_with (refine wpList_load_row rfl 25 (.tmp 1) (by rfl) w.heap.size (by rfl) 25 c.cs.toArray (0, 0) _ (by exact B0.out) Tryz.underlying25 (by rfl) (by kernel_rfl) ?_)
  (with_reducible refine (FA.out).mono ?_)
  rintro e1 w1 ⟨rfl, q1⟩
  have B1 := aA (aB B0.out q1)
  have Q1 := aA (aC Q0.out Q0.out.size q1)
  clear q1 B0 Q0 FA
  rcases hf : gN c with _ | _
  · have HV := aA (show WhyV c (-1) 40 from .inl ⟨hf, rfl, rfl⟩)
    clear hf
    go_wp2_with fail
    go_ret2
    exact ⟨⟨_, _, rfl, HV.out⟩, Q1.out⟩
  have HF := aA hf
  have hn := gS hf
  have LK := aA (confLook_any c w1 (HO.out.next Q1.out) hn.1 hn.2)
  clear hf hn
  go_wp2_with (refine wpList_load_row rfl 25 (.tmp 1) (by rfl) w.heap.size (by rfl) 25 c.cs.toArray (0, 0) _ (by exact B1.out) Tryz.underlying25 (by rfl) (by kernel_rfl) ?_)
  (with_reducible refine (LK.out).mono ?_)
  rintro e2 w2 ⟨⟨v, rfl, hv⟩, q2⟩
  have Q2 := aA (aC Q1.out Q1.out.size q2)
  clear q2 LK B1 Q1
  rcases hv with ⟨b, n, rfl, _, hA⟩ | ⟨k, hk, hA, hB, rfl⟩
  · have HV := aA (show WhyV c (-1) 0 from .inr (.inr ⟨HF.out, hA, rfl, rfl⟩))
    clear hA
    go_wp2_with fail
    go_ret2
    exact ⟨⟨_, _, rfl, HV.out⟩, Q2.out⟩
  · have HV := aA (show WhyV c k 40 from .inr (.inl ⟨HF.out, k, hk, hA, hB, rfl, rfl⟩))
    clear hA hB
    go_wp2_with fail
    go_ret2
    exact ⟨⟨_, _, rfl, HV.out⟩, Q2.out⟩
set_option maxRecDepth 100000 in
set_option maxHeartbeats 16000000 in
theorem cD (c : Cf) (w : World) (ho : c.Ok w) : Calls Tryz.prog 7 #[.agg c.cs.toArray] w fun e w' => e = .returned (.bool (cF c)) ∧ Below w.heap.size w w' := by
  obtain ⟨r, hr⟩ : ∃ r, r = cF c := ⟨_, rfl⟩
  rw [← hr]
  have HR := aA hr
  clear hr
  obtain ⟨w0, hw0⟩ : ∃ w0, w0 = w.alloc (.cells c.cs.toArray 25) := ⟨_, rfl⟩
  have B0 := aA (World.alloc_heap_new w (.cells c.cs.toArray 25))
  have Q0 : Hid (Below w.heap.size w w0) := by rw [hw0]; exact aA ((Below.refl _ _).alloc (Nat.le_refl _) _)
  rw [← hw0] at B0
  have FA := aA (confWhy_any c w0 (ho.next Q0.out))
  clear ho
  go_enter Tryz.func7, Tryz.ntmps7
  go_upto_region 1 with fail
  change Code.wp _ _ _ _ (w.alloc (.cells c.cs.toArray 25))
  rw [← hw0]
  clear hw0
  go_wp2_with (refine wpList_load_row rfl 25 (.tmp 1) (by rfl) w.heap.size (by rfl) 25 c.cs.toArray (0, 0) _ (by exact B0.out) Tryz.underlying25 (by rfl) (by kernel_rfl) ?_)
  (with_reducible refine (FA.out).mono ?_)
  rintro e1 w1 ⟨⟨a, k, rfl, hv⟩, q1⟩
  have Q1 := aA (aC Q0.out Q0.out.size q1)
  clear q1 B0 Q0 FA
  rcases hv.right with ⟨rfl, hb⟩ | ⟨rfl, hb⟩
  all_goals have E := aA (HR.out.trans hb)
  all_goals clear HR hb hv
  all_goals go_wp2_with fail
  all_goals go_ret
  all_goals exact ⟨by rw [E.out]; rfl, Q1.out⟩
end Go.Proofs.YtkmddjbialpppaaGreatDoor
namespace Go.Proofs.YtkmddjbialpppaaGreatDoor
open Go.ChangeShapes Go.WideShapes Go.ChangeAt Go.RowKit
open CM PD SG
def CInV (c : Cf) (i : Int) (V : Inn) (E : Int) : Prop :=
  (∃ (k : Nat) (h : k < c.l.length), i = k ∧ cF c = true ∧ CinV c.l[k] V E) ∨ ((cK i 0 ((c.l.length : Int) - 1) && cF c) = false ∧ E = 1 ∧ V = .zero)
def cY (l : List Pd) (pB : Pd → Bool) : Nat → List Nat
  | 0 => []
  | k + 1 => match l[k]? with
    | some p => if pB p = true then cY l pB k ++ [k] else cY l pB k
    | none => cY l pB k
theorem whP_yes {l : List Pd} {pB : Pd → Bool} {k : Nat} (h : k < l.length) (hp : pB l[k] = true) : cY l pB (k + 1) = cY l pB k ++ [k] := by simp [cY, h, hp]
theorem whP_no {l : List Pd} {pB : Pd → Bool} {k : Nat} (h : k < l.length) (hp : pB l[k] = false) : cY l pB (k + 1) = cY l pB k := by simp [cY, h, hp]
theorem eW (l : List Pd) (pB : Pd → Bool) : ∀ k, (cY l pB k).length ≤ k
  | 0 => Nat.le_refl _
  | k + 1 => by
    have := eW l pB k
    unfold cY
    split
    · split
      · simp; omega
      · omega
    · omega
theorem whP_lt (l : List Pd) (pB : Pd → Bool) : ∀ k, ∀ j ∈ cY l pB k, j < k
  | 0, j, h => by cases h
  | k + 1, j, h => by
    have ih := whP_lt l pB k
    unfold cY at h
    split at h
    · split at h
      · rcases List.mem_append.1 h with h | h
        · have := ih j h; omega
        · have := List.mem_singleton.1 h; omega
      · have := ih j h; omega
    · have := ih j h; omega
def dE (c : Cf) (pB : Pd → Bool) : List Nat := if cF c = true then cY c.l pB c.l.length else []
set_option maxRecDepth 100000 in
set_option maxHeartbeats 16000000 in
theorem which1_any (fid cap : Nat) (pB : Pd → Bool) (hp : ∀ (args : Array Value) (w : World), (callFunc fid args).run Tryz.prog w = .ok (.enter fid args) w) (c : Cf) (w : World) (ho : c.Ok w)
    (hc0 : Hid (cF c = true → ∀ p ∈ c.l, ∀ W, Below w.heap.size w W → Calls Tryz.prog fid #[.agg p.cs.toArray, .pointer (some ⟨cap, 0, none⟩)] W fun e w' => e = .returned (.bool (pB p)) ∧ Below W.heap.size W w')) :
    Calls Tryz.prog 65 #[.agg c.cs.toArray, .func (.func fid) #[] #[.pointer (some ⟨cap, 0, none⟩)]] w fun e w' => (∃ A cc, e = .returned (.slice A (dE c pB).length cc) ∧ NR w' w'.heap.size A (dE c pB) ∧ ∀ g off, A = some ⟨g, off, none⟩ → w.heap.size ≤ g) ∧ Below w.heap.size w w' := by
  obtain ⟨w0, hw0⟩ : ∃ w0, w0 = w.alloc (.cells c.cs.toArray 25) := ⟨_, rfl⟩
  have B0 := aA (World.alloc_heap_new w (.cells c.cs.toArray 25))
  have Q0 : Hid (Below w.heap.size w w0) := by rw [hw0]; exact aA ((Below.refl _ _).alloc (Nat.le_refl _) _)
  rw [← hw0] at B0
  have RT := aA (cD c w0 (ho.next Q0.out))
  have HO := aA ho
  have hl := ho.n
  obtain ⟨R, hR⟩ : ∃ R, R = dE c pB := ⟨_, rfl⟩
  rw [← hR]
  have HR := aA hR
  clear ho hR
  go_enter Tryz.func65, Tryz.ntmps65
  go_upto_region 1 with fail
  change Code.wp _ _ _ _ (w.alloc (.cells c.cs.toArray 25))
  rw [← hw0]
  clear hw0
  go_wp2_with (refine wpList_load_row rfl 25 (.tmp 2) (by rfl) w.heap.size (by rfl) 25 c.cs.toArray (0, 0) _ (by exact B0.out) Tryz.underlying25 (by rfl) (by kernel_rfl) ?_)
  (with_reducible refine (RT.out).mono ?_)
  rintro e1 w1 ⟨rfl, q1⟩
  have B1 := aA (aB B0.out q1)
  have Q1 := aA (aC Q0.out Q0.out.size q1)
  clear q1 B0 Q0 RT
  rcases hb : cF c with _ | _
  · have hR0 : R = [] := by rw [HR.out]; unfold dE; rw [hb]; simp
    clear HR hb
    subst hR0
    go_wp2_with fail
    go_ret
    exact ⟨⟨none, 0, rfl, Rd.nil, fun _ _ h => by cases h⟩, Q1.out⟩
  have HE := aA (show R = cY c.l pB c.l.length by rw [HR.out]; unfold dE; rw [hb]; simp)
  have hc := aA (hc0.out hb)
  clear hc0
  clear HR hb
  obtain ⟨c0, c1, c2, c3, c4, c5, c6, c7⟩ := bL B1.out
  clear c0 c2 c3 c4 c5 c6 c7
  have OW : Hid (Own w1 w.heap.size 3 1 none 0 (aX (cY c.l pB 0))) := aA Own.nil
  go_wp2_with fail
  clear c1
  go_loopw [5, 14] (fun vs vi W => ∃ (k : Nat) (A : Option Addr) (cc : Nat), k ≤ c.l.length ∧ vi = .int .i64 k ∧ vs = .slice A (cY c.l pB k).length cc ∧ Hid (Own W w.heap.size 3 1 A cc (aX (cY c.l pB k))) ∧ Hid (Below w.heap.size w W)) (fun _ vi _ => c.l.length - (intOf vi).toNat)
  case atStart => exact ⟨0, none, 0, Nat.zero_le _, rfl, rfl, OW, Q1⟩
  case round =>
    obtain ⟨k, A, cc, hk, rfl, rfl, hOw, hQ⟩ := hrel
    by_cases hkl : k < c.l.length
    · have hki : (k : Int) < (c.l.length : Int) := by omega
      obtain ⟨pb, po, hca, hpb, hrg⟩ := PdR.at_ (HO.out.next hQ.out).r hkl
      have RG := aA hrg
      have HC := aA (fun W q => hc.out c.l[k] (List.getElem_mem hkl) W q)
      have HY := aA (fun h => whP_yes (pB := pB) hkl h)
      have HN := aA (fun h => whP_no (pB := pB) hkl h)
      clear hrg
      generalize c.l[k] = p at *
      rw [hca]
      have q2 : Below wr.heap.size wr (wr.alloc (.cells zPd.cs.toArray 79)) := (Below.refl _ _).alloc (Nat.le_refl _) _
      have g2 := World.alloc_heap_new wr (.cells zPd.cs.toArray 79)
      have TH := aA (show (wr.alloc (.cells zPd.cs.toArray 79)).there wr.heap.size 0 22 from aK (cs := zPd.cs) g2)
      go_wp2_with (first | (refine wpList_load_mid rfl 79 (.tmp 17) (by rfl) pb (po + k * 22) (by rfl) p.cs _ (by exact RG.out) Tryz.underlying79 (by rfl) (by kernel_rfl) ?_) | (refine aF (by rfl) 79 (.tmp 7) (.tmp 18) (by rfl) wr.heap.size 0 p.cs (by rfl) (by rfl) (by exact TH.out) (by kernel_rfl) (by simp [Value.oneCell', Pd.cs, Iv.v, Fv.v]) ?_))
      intro w2 e2
      have s2 : Below wr.heap.size wr w2 := by rw [e2.out]; exact q2.trans (aE (g := wr.heap.size) _ 0 _ (Nat.le_refl _))
      have P2 := aA (show w2.heap[wr.heap.size]? = some (.cells p.cs.toArray 79 (0, 0)) by rw [e2.out]; exact aJ p.cs (xs := zPd.cs) g2 rfl)
      have O2 := aA (hOw.out.grown s2)
      have Q2 := aA (aC hQ.out hQ.out.size s2)
      have C2 := aA (HC.out w2 Q2.out)
      clear e2 TH g2 q2 s2 RG hOw hQ HC
      generalize wr.heap.size = pbx at *
      have HL := eW c.l pB k
      rcases hpb : pB p with _ | _
      · have hn := HN.out hpb
        rw [hpb] at C2
        go_wp2_with (refine wpList_load_row rfl 79 (.tmp 7) (by rfl) pbx (by rfl) 79 p.cs.toArray (0, 0) _ (by exact P2.out) Tryz.underlying79 (by rfl) (by kernel_rfl) ?_)
        (with_reducible refine (C2.out).mono ?_)
        rintro e3 w3 ⟨rfl, q3⟩
        have O3 := aA (O2.out.grown q3)
        have Q3 := aA (aC Q2.out Q2.out.size q3)
        clear q3 O2 Q2 C2 P2 HN HY hpb
        rw [← hn] at O3
        have HN2 := aA hn
        clear hn
        go_wp2_with fail
        go_roundw
        case rel => exact ⟨k + 1, _, _, by omega, by go_num, by rw [HN2.out], O3, Q3⟩
        case measure => simp [intOf]; omega
      · have hy := HY.out hpb
        rw [hpb] at C2
        have hy2 : aX (cY c.l pB (k + 1)) = aX (cY c.l pB k) ++ [[.int .i64 (k : Int)]] := by rw [hy]; simp [aX]
        have HY2 := aA hy2
        have HY3 := aA (show (cY c.l pB (k + 1)).length = (cY c.l pB k).length + 1 by rw [hy]; simp)
        clear hy hy2
        go_wp2_with (refine wpList_load_row rfl 79 (.tmp 7) (by rfl) pbx (by rfl) 79 p.cs.toArray (0, 0) _ (by exact P2.out) Tryz.underlying79 (by rfl) (by kernel_rfl) ?_)
        (with_reducible refine (C2.out).mono ?_)
        rintro e3 w3 ⟨rfl, q3⟩
        have O3 := aA (O2.out.grown q3)
        have Q3 := aA (aC Q2.out Q2.out.size q3)
        have z3 : w.heap.size ≤ w3.heap.size := Q3.out.size
        clear q3 O2 Q2 C2 P2 HN HY hpb
        go_wp2_with (at_builtin; refine cX _ _ [.int .i64 (k : Int)] (by rfl) rfl _ _ 61 rfl kO (by decide) rfl (by simp [Value.oneCell']) w.heap.size _ _ _ (aX (cY c.l pB k)) (by rfl) (by exact O3.out) _ (by rfl) (by rw [bY]; omega) z3 (by rw [bY]) ?_)
        intro A2 c2 w4 P4
        have O4 := aA (HY2.out ▸ P4.own)
        have Q4 := aA (P4.q Q3.out (Nat.le_refl _))
        clear P4 O3 Q3 z3
        go_wp2_with fail
        go_roundw
        case rel => exact ⟨k + 1, A2, c2, by omega, by go_num, by rw [HY3.out], O4, Q4⟩
        case measure => simp [intOf]; omega
    · obtain rfl : k = c.l.length := by omega
      rw [← HE.out] at hOw ⊢
      have RR := aA (hOw.out.rd (cR R))
      have RB := aA (gQ hOw.out)
      clear hOw
      go_wp2_with fail
      go_ret
      exact ⟨⟨_, _, rfl, RR.out, RB.out⟩, hQ.out⟩
set_option maxRecDepth 100000 in
theorem sent1_any (p : Pd) (nb : Nat) (node : Int) (w : World) (hz : nb < w.heap.size) (hn : Hid (w.cell? ⟨nb, 0, none⟩ = some (.int .i64 node))) : Calls Tryz.prog 66 #[.agg p.cs.toArray, .pointer (some ⟨nb, 0, none⟩)] w fun e w' => e = .returned (.bool (p.frm == node)) ∧ Below w.heap.size w w' := by
  obtain ⟨r, hr⟩ : ∃ r, r = (p.frm == node) := ⟨_, rfl⟩
  rw [← hr]
  have HR := aA hr
  clear hr
  have q0 : Below w.heap.size w (w.alloc (.cells p.cs.toArray 79)) := (Below.refl _ _).alloc (Nat.le_refl _) _
  have B0 := World.alloc_heap_new w (.cells p.cs.toArray 79)
  have n0 := aT q0 hz hn.out
  obtain ⟨w0, hw0⟩ : ∃ w0, w0 = w.alloc (.cells p.cs.toArray 79) := ⟨_, rfl⟩
  rw [← hw0] at B0 n0 q0
  obtain ⟨⟨_, p1, _⟩, _⟩ := dQ B0
  have Q0 := aA q0
  clear B0 q0 hz
  go_enter Tryz.func66, Tryz.ntmps66
  go_upto_region 1 with fail
  change Code.wp _ _ _ _ (w.alloc (.cells p.cs.toArray 79))
  rw [← hw0]
  clear hw0
  go_wp2_with fail
  go_ret
  refine ⟨aV ?_, Q0.out⟩
  rw [HR.out]
def fT (c : Cf) (node : Int) (p : Pd) : Bool := cK node 0 (c.nodes - 1) && (p.dst / 2 ^ node.toNat % 2 == 1)
set_option maxRecDepth 100000 in
set_option maxHeartbeats 4000000 in
theorem heard1_any (c : Cf) (p : Pd) (nb cb : Nat) (node : Int) (w : World) (hnodes : 2 ≤ c.nodes ∧ c.nodes ≤ 4) (hz : nb < w.heap.size) (hzc : cb < w.heap.size) (hn : Hid (w.cell? ⟨nb, 0, none⟩ = some (.int .i64 node))) (hc : Hid (w.cell? ⟨cb, 0, none⟩ = some (.int .i64 c.nodes))) (hd : lim p.dst) :
    Calls Tryz.prog 69 #[.agg p.cs.toArray, .pointer (some ⟨nb, 0, none⟩), .pointer (some ⟨cb, 0, none⟩)] w fun e w' => e = .returned (.bool (fT c node p)) ∧ Below w.heap.size w w' := by
  obtain ⟨r, hr⟩ : ∃ r, r = fT c node p := ⟨_, rfl⟩
  rw [← hr]
  unfold fT at hr
  have HR := aA hr
  clear hr
  have q0 : Below w.heap.size w (w.alloc (.cells p.cs.toArray 79)) := (Below.refl _ _).alloc (Nat.le_refl _) _
  have B0 := World.alloc_heap_new w (.cells p.cs.toArray 79)
  have n0 := aT q0 hz hn.out
  have m0 := aT q0 hzc hc.out
  obtain ⟨w0, hw0⟩ : ∃ w0, w0 = w.alloc (.cells p.cs.toArray 79) := ⟨_, rfl⟩
  rw [← hw0] at B0 n0 m0 q0
  obtain ⟨⟨_, _, p2, _⟩, _⟩ := dQ B0
  have Q0 := aA q0
  have WI := aA dR
  obtain ⟨hn2, hn4⟩ := hnodes
  unfold lim at hd
  clear B0 q0 hz hzc
  go_enter Tryz.func69, Tryz.ntmps69
  go_upto_region 1 with fail
  change Code.wp _ _ _ _ (w.alloc (.cells p.cs.toArray 79))
  rw [← hw0]
  clear hw0
  go_wp2_with fail
  (with_reducible refine (WI.out _ _ _ _).mono ?_)
  rintro e1 w1 ⟨rfl, rfl⟩
  rcases h1 : cK node 0 (c.nodes - 1) with _ | _
  · have E := aA (show r = false by rw [HR.out, h1]; rfl)
    clear HR WI h1
    go_wp2_with fail
    go_ret
    exact ⟨by rw [E.out]; rfl, Q0.out⟩
  obtain ⟨k1, k2⟩ := b8 h1
  have E := aA (show r = (bits .and .i64 (p.dst / 2 ^ node.toNat) 1 == 1) by rw [HR.out, h1, b4]; rfl)
  clear HR WI h1
  go_wp2_with fail
  go_ret
  refine ⟨aV ?_, Q0.out⟩
  rw [E.out]
end Go.Proofs.YtkmddjbialpppaaGreatDoor
