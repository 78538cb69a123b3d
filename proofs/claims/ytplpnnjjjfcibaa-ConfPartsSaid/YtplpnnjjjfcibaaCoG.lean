/- The walk of conf.look. -/
import Derived.Test.YtplpnnjjjfcibaaCoF
namespace Go.Proofs.Ytplpnnjjjfcibaa
open Go.ChangeShapes Go.WideShapes Go.ChangeAt Go.RowKit Go.Maps
open CM PD SG

theorem heap_mid {W W' : World} {bm n : Nat} {f : Int → Option Int} (hm : MId W bm n f) (hg : W.grownBy W' (some bm)) {b : Nat} {cs : Array Value} {t : TypeId} {fz : Nat × Nat} (h : W.heap[b]? = some (.cells cs t fz)) : W'.heap[b]? = some (.cells cs t fz) := by
  have hne : b ≠ bm := by
    rintro rfl
    obtain ⟨D, ⟨es, clock, hb, _⟩, _⟩ := hm
    rw [h] at hb
    cases hb
  rw [hg.block b (Array.getElem?_eq_some_iff.1 h).1 (by simpa using hne)]
  exact h
/-- The places of the first k identifiers. -/
def seen (l : List Pd) : Nat → Int → Option Int
  | 0 => fun _ => none
  | k + 1 => fun y => match l[k]? with
    | some p => if y = p.id then some (k : Int) else seen l k y
    | none => seen l k y
theorem seen_succ {l : List Pd} {k : Nat} (h : k < l.length) : seen l (k + 1) = fun y => if y = l[k].id then some (k : Int) else seen l k y := by
  funext y
  simp [seen, h]
def okAt (c : Cf) (k : Nat) : Bool := match c.l[k]? with
  | some p => mayB c p (seen c.l k p.id).isSome
  | none => false
theorem okAt_eq {c : Cf} {k : Nat} (h : k < c.l.length) : okAt c k = mayB c c.l[k] (seen c.l k c.l[k].id).isSome := by simp [okAt, h]
def LookV (c : Cf) (W : World) (e : Value) : Prop :=
  (∃ b n, e = .tuple #[.map (some b), .int .i64 (-1)] ∧ MId W b n (seen c.l c.l.length) ∧ ∀ k, k < c.l.length → okAt c k = true) ∨
  (∃ k : Nat, k < c.l.length ∧ (∀ j, j < k → okAt c j = true) ∧ okAt c k = false ∧ e = .tuple #[.map none, .int .i64 k])
theorem PdR.at_ {w : World} {B : Nat} {A : Option Addr} {l : List Pd} (h : Rd w B A 22 (pdRow l)) {k : Nat} (hk : k < l.length) :
    ∃ b off, A = some ⟨b, off, none⟩ ∧ b < B ∧ w.rangeAt b (off + k * 22) l[k].cs := by
  obtain ⟨b, off, e, hb, hc⟩ := h (by simpa [pdRow] using Nat.lt_of_le_of_lt (Nat.zero_le _) hk)
  refine ⟨b, off, e, hb, fun j v hj => ?_⟩
  have hx : (pdRow l)[k]? = some l[k].cs := by simp [pdRow, hk]
  exact hc k _ j _ hx hj
def zPd : Pd := ⟨0, 0, 0, .zero, 0, .zero, .zero, .zero, ⟨0, 0, 0, 0, 0⟩, ⟨0, 0, 0, 0, 0⟩, 0, 0⟩

set_option maxRecDepth 100000 in
set_option maxHeartbeats 16000000 in
theorem confLook_any (c : Cf) (w : World) (ho : c.Ok w) (hn : 2 ≤ c.nodes ∧ c.nodes ≤ 4) (hb : c.base ≤ 2048 - c.nodes) :
    Calls Try.prog 56 #[.agg c.cs.toArray] w fun e w' => (∃ v, e = .returned v ∧ LookV c w' v) ∧ Below w.heap.size w w' := by
  obtain ⟨w0, hw0⟩ : ∃ w0, w0 = (w.alloc (.cells c.cs.toArray 52)).alloc (.map #[] 0) := ⟨_, rfl⟩
  have step : ∀ (W : World) (o : Obj), Below W.heap.size W (W.alloc o) := fun W o => (Below.refl _ _).alloc (Nat.le_refl _) _
  have B1 := hide (heap_below (World.alloc_heap_new w (.cells c.cs.toArray 52)) (step _ (.map #[] 0)))
  have M1 := hide (MId.made (w.alloc (.cells c.cs.toArray 52)))
  have Q0 : Hid (Below w.heap.size w w0) := by rw [hw0]; exact hide ((step _ _).alloc (by simp) _)
  have z0 : w0.heap.size = w.heap.size + 2 := by rw [hw0]; simp
  rw [← hw0] at B1 M1
  simp only [World.size_alloc] at M1
  have MM0 : Hid (MId w0 (w.heap.size + 1) 0 (seen c.l 0)) := M1
  have HO := hide ho
  have hl := ho.n
  have HN := hide (fun (p : Pd) (W : World) n s (q : Below w.heap.size w W) (hp : p.Ok W) (hm : MId W (w.heap.size + 1) n s) => confMay_any c p (w.heap.size + 1) n s W (ho.next q) hp hm hn hb)
  clear step ho hn hb M1
  obtain ⟨c0, c1, c2, c3, c4, c5, c6, c7⟩ := cf_cells B1.out
  clear c0 c2 c3 c4 c5 c6 c7
  have hmm := @run_makeMap Try.prog
  go_enter Try.func56, Try.ntmps56
  go_upto_region 2 with fail
  change Code.wp _ _ _ _ ((w.alloc (.cells c.cs.toArray 52)).alloc (.map #[] 0))
  rw [← hw0]
  clear hw0 hmm
  go_wp2_with fail
  clear c1
  go_loopw [11] (fun vi W => ∃ k : Nat, k ≤ c.l.length ∧ vi = .int .i64 k ∧ Hid (∀ j, j < k → okAt c j = true) ∧ Hid (MId W (w.heap.size + 1) k (seen c.l k)) ∧ Hid (W.heap[w.heap.size]? = some (.cells c.cs.toArray 52 (0, 0))) ∧ Hid (Below w.heap.size w W) ∧ w.heap.size + 2 ≤ W.heap.size) (fun vi _ => c.l.length - (intOf vi).toNat)
  case atStart => exact ⟨0, Nat.zero_le _, rfl, hide (fun j h => absurd h (Nat.not_lt_zero _)), MM0, B1, Q0, by omega⟩
  case round =>
    obtain ⟨k, hk, rfl, hA, hM, hB, hQ, hz⟩ := hrel
    clear MM0 B1 Q0
    by_cases hkl : k < c.l.length
    · have hki : (k : Int) < (c.l.length : Int) := by omega
      obtain ⟨pb, po, hca, hpb, hrg⟩ := PdR.at_ (HO.out.next hQ.out).r hkl
      have RG := hide hrg
      have hpo := (HO.out.next hQ.out).p c.l[k] (List.getElem_mem hkl)
      have HPO := hide hpo
      have HAt := hide (okAt_eq hkl)
      have HSu := hide (seen_succ hkl)
      clear hrg hpo
      generalize c.l[k] = p at *
      rw [hca]
      have q2 : Below wr.heap.size wr (wr.alloc (.cells zPd.cs.toArray 67)) := (Below.refl _ _).alloc (Nat.le_refl _) _
      have g2 := World.alloc_heap_new wr (.cells zPd.cs.toArray 67)
      have TH := hide (show (wr.alloc (.cells zPd.cs.toArray 67)).there wr.heap.size 0 22 from there_heap (cs := zPd.cs) g2)
      go_wp2_with (first | (refine wpList_load_mid rfl 67 (.tmp 14) (by rfl) pb (po + k * 22) (by rfl) p.cs _ (by exact RG.out) Try.underlying67 (by rfl) (by kernel_rfl) ?_) | (refine wpList_store_hid (by rfl) 67 (.tmp 6) (.tmp 15) (by rfl) wr.heap.size 0 p.cs (by rfl) (by rfl) (by exact TH.out) (by kernel_rfl) (by simp [Value.oneCell', Pd.cs, Iv.v, Fv.v]) ?_))
      intro w2 e2
      have s2 : Below wr.heap.size wr w2 := by rw [e2.out]; exact q2.trans (below_setCells (g := wr.heap.size) _ 0 _ (Nat.le_refl _))
      have P2 := hide (show w2.heap[wr.heap.size]? = some (.cells p.cs.toArray 67 (0, 0)) by rw [e2.out]; exact whole_heap p.cs (xs := zPd.cs) g2 rfl)
      have B2 := hide (heap_below hB.out s2)
      have Q2 := hide (below_next hQ.out hQ.out.size s2)
      have M2 := hide (hM.out.below s2)
      have HP2 := hide (HPO.out.next s2)
      have z2 : w.heap.size + 2 ≤ w2.heap.size := Nat.le_trans hz s2.size
      have CM := hide (HN.out p w2 k (seen c.l k) Q2.out HP2.out M2.out)
      have hid := HPO.out.id
      clear e2 TH g2 q2 s2 hB hM RG HPO
      generalize wr.heap.size = pbx at *
      rw [← HAt.out] at CM
      go_wp2_with (first | (refine wpList_load_row rfl 52 (.tmp 1) (by rfl) w.heap.size (by rfl) 52 c.cs.toArray (0, 0) _ (by exact B2.out) Try.underlying52 (by rfl) (by kernel_rfl) ?_) | (refine wpList_load_row rfl 67 (.tmp 6) (by rfl) pbx (by rfl) 67 p.cs.toArray (0, 0) _ (by exact P2.out) Try.underlying67 (by rfl) (by kernel_rfl) ?_))
      (with_reducible refine (CM.out).mono ?_)
      rintro e3 w3 ⟨rfl, q3⟩
      have P3 := hide (heap_below P2.out q3)
      have B3 := hide (heap_below B2.out q3)
      have Q3 := hide (below_next Q2.out Q2.out.size q3)
      have M3 := hide (M2.out.below q3)
      have z3 : w.heap.size + 2 ≤ w3.heap.size := Nat.le_trans z2 q3.size
      clear q3 P2 B2 Q2 M2 CM HP2
      rcases hok : okAt c k with _ | _
      · have HV := hide (show LookV c w3 (.tuple #[.map none, .int .i64 k]) from .inr ⟨k, hkl, hA.out, hok, rfl⟩)
        clear hok
        go_wp2_with fail
        go_ret2
        exact ⟨⟨_, rfl, HV.out⟩, Q3.out⟩
      · have HA2 := hide (show ∀ j, j < k + 1 → okAt c j = true from fun j hj => by
          rcases Nat.lt_or_ge j k with h | h
          · exact hA.out j h
          · rw [show j = k by omega]; exact hok)
        clear hok
        obtain ⟨W4, hput, m4, hg4⟩ := M3.out.put (by unfold maxLen; omega) p.id (k : Int) hid (by omega)
        rw [← HSu.out] at m4
        have M4 := hide m4
        have B4 := hide (heap_mid M3.out hg4 B3.out)
        have Q4 := hide (Q3.out.grown hg4 Q3.out.size (fun j e => by cases e; omega))
        have z4 : w.heap.size + 2 ≤ W4.heap.size := Nat.le_trans z3 hg4.size
        obtain ⟨⟨p0, p1, p2, p3, p4, p5, p6, p7, p8, p9⟩, _⟩ := pd_cells P3.out
        clear p1 p2 p3 p4 p5 p6 p7 p8 p9 m4 hg4 B3 Q3 M3
        go_wp2_with fail
        go_roundw
        case rel => exact ⟨k + 1, by omega, by go_num, HA2, M4, B4, Q4, z4⟩
        case measure => simp [intOf]; omega
    · obtain rfl : k = c.l.length := by omega
      have HV := hide (show LookV c wr (.tuple #[.map (some (w.heap.size + 1)), .int .i64 (-1)]) from .inl ⟨_, _, rfl, hM.out, hA.out⟩)
      go_wp2_with fail
      go_ret2
      exact ⟨⟨_, rfl, HV.out⟩, hQ.out⟩
end Go.Proofs.Ytplpnnjjjfcibaa
