import Derived.Test.YtkmddjbialpppaaGreatDoorMgSgC
import Derived.Test.YtkmddjbialpppaaGreatDoorMgFin
namespace Go.Proofs.YtkmddjbialpppaaGreatDoor
open Go.ChangeShapes Go.WideShapes Go.ChangeAt Go.RowKit
open SG PD
def jQ (s : Sg) : List Value := [.int .i64 s.start, .int .i64 s.width, .bool s.big, .bool s.sgn]
def SgR (w : World) (B : Nat) (A : Option Addr) (l : List Sg) : Prop := Rd w B A 4 (l.map jQ)
def eS (l : List Int) : List (List Value) := l.map fun x => [Value.int .i64 x]
def InR (w : World) (B : Nat) (A : Option Addr) (l : List Int) : Prop := Rd w B A 1 (eS l)
theorem SgR.at_ {w : World} {B : Nat} {A : Option Addr} {l : List Sg} (h : SgR w B A l) {k : Nat} (hk : k < l.length) :
    ∃ b off, A = some ⟨b, off, none⟩ ∧ b < B ∧ w.cell? ⟨b, off + k * 4, none⟩ = some (.int .i64 l[k].start) ∧ w.cell? ⟨b, off + k * 4 + 1, none⟩ = some (.int .i64 l[k].width) ∧ w.cell? ⟨b, off + k * 4 + 2, none⟩ = some (.bool l[k].big) ∧ w.cell? ⟨b, off + k * 4 + 3, none⟩ = some (.bool l[k].sgn) := by
  obtain ⟨b, off, e, hb, hc⟩ := h (by rw [List.length_map]; omega)
  have hx : (l.map jQ)[k]? = some (jQ l[k]) := by simp [hk]
  exact ⟨b, off, e, hb, hc k _ 0 _ hx rfl, hc k _ 1 _ hx rfl, hc k _ 2 _ hx rfl, hc k _ 3 _ hx rfl⟩
theorem InR.at_ {w : World} {B : Nat} {A : Option Addr} {l : List Int} (h : InR w B A l) {k : Nat} (hk : k < l.length) : ∃ b off, A = some ⟨b, off, none⟩ ∧ b < B ∧ w.cell? ⟨b, off + k, none⟩ = some (.int .i64 l[k]) := by
  obtain ⟨b, off, e, hb, hc⟩ := h (by simp [eS]; omega)
  refine ⟨b, off, e, hb, ?_⟩
  have := hc k _ 0 _ (show (eS l)[k]? = some [.int .i64 l[k]] by simp [eS, hk]) rfl
  simpa using this
def lyV (L : Ly) (A : Option Addr) (c : Nat) (B : Option Addr) (d : Nat) : Array Value := #[.int .i64 L.size, .slice A L.sgs.length c, .slice B L.nws.length d]
def hP (g : Nat → Nat) : List Value := (List.range 64).map fun (p : Nat) => Value.int .i64 (g p : Int)
theorem dP (g : Nat → Nat) : (hP g).length = 64 := by simp [hP]
theorem arL_at (g : Nat → Nat) {p : Nat} (hp : p < 64) : (hP g)[p]? = some (.int .i64 (g p : Int)) := by simp [hP, hp]
theorem arL_set (g : Nat → Nat) {p : Nat} (v : Nat) : (hP g).set p (.int .i64 (v : Int)) = hP (fun q => if q = p then v else g q) := by
  apply List.ext_getElem?
  intro q
  rw [List.getElem?_set]
  by_cases hq : q < 64
  · rw [arL_at _ hq, arL_at _ hq, dP]
    by_cases e : p = q
    · subst e; simp [hq]
    · rw [if_neg e, if_neg (fun e2 => e e2.symm)]
  · have h1 : ∀ g' : Nat → Nat, (hP g')[q]? = none := fun g' => List.getElem?_eq_none (by rw [dP]; omega)
    rw [h1, h1, dP]
    split <;> simp <;> omega
theorem arL_one (g : Nat → Nat) : ∀ v ∈ hP g, v.oneCell' = true := by
  intro v hv
  obtain ⟨p, _, rfl⟩ := List.mem_map.1 hv
  rfl
theorem arL_congr {g h : Nat → Nat} (e : ∀ p < 64, g p = h p) : hP g = hP h := by
  unfold hP
  apply List.map_congr_left
  intro p hp
  rw [e p (List.mem_range.1 hp)]
def ArB (W : World) (b : Nat) (g : Nat → Nat) : Prop := W.heap[b]? = some (.cells (hP g).toArray 230 (0, 0))
theorem ArB.cell {W : World} {b : Nat} {g : Nat → Nat} (h : ArB W b g) {p : Nat} (hp : p < 64) : W.cell? ⟨b, p, none⟩ = some (.int .i64 (g p : Int)) ∧ W.frozen? ⟨b, p, none⟩ = false := by
  unfold ArB at h
  refine ⟨?_, by simp [World.frozen?, h]⟩
  simp only [World.cell?, h]
  simpa using arL_at g hp
theorem ArB.set {W : World} {b : Nat} {g : Nat → Nat} (h : ArB W b g) (p v : Nat) : ArB (W.setCell ⟨b, p, none⟩ (.int .i64 (v : Int))) b (fun q => if q = p then v else g q) := by
  have := heap_setCell_same W b p _ _ (.int .i64 (v : Int)) h
  unfold ArB
  rw [this, ← arL_set]
  simp
theorem ArB.below {W W' : World} {b : Nat} {g : Nat → Nat} (h : ArB W b g) (q : Below W.heap.size W W') : ArB W' b g := aB h q
theorem ArB.congr {W : World} {b : Nat} {g h : Nat → Nat} (hg : ArB W b g) (e : ∀ p < 64, g p = h p) : ArB W b h := by unfold ArB at *; rw [← arL_congr e]; exact hg
structure UsM (w : World) (lv : Array Value) (g : Nat → Nat) (W : World) : Prop where
  q : Below w.heap.size w W
  bx : W.heap[w.heap.size]? = some (.cells lv 66 (0, 0))
  rb : ArB W (w.heap.size + 1) (fun _ => 0)
  ob : ArB W (w.heap.size + 2) g
theorem UsM.below {w W W' : World} {lv : Array Value} {g : Nat → Nat} (h : UsM w lv g W) (q : Below W.heap.size W W') : UsM w lv g W' :=
  ⟨aC h.q h.q.size q, aB h.bx q, h.rb.below q, h.ob.below q⟩
theorem UsM.set {w W : World} {lv : Array Value} {g : Nat → Nat} (h : UsM w lv g W) (p v : Nat) : UsM w lv (fun q => if q = p then v else g q) (W.setCell ⟨w.heap.size + 2, p, none⟩ (.int .i64 (v : Int))) := by
  refine ⟨h.q.setCell (p := ⟨w.heap.size + 2, p, none⟩) (by simp) _, ?_, ?_, h.ob.set p v⟩
  · rw [heap_setCell_other W ⟨w.heap.size + 2, p, none⟩ _ _ (by simp)]; exact h.bx
  · unfold ArB; rw [heap_setCell_other W ⟨w.heap.size + 2, p, none⟩ _ _ (by simp)]; exact h.rb
theorem UsM.congr {w W : World} {lv : Array Value} {g g' : Nat → Nat} (h : UsM w lv g W) (e : ∀ p < 64, g p = g' p) : UsM w lv g' W := ⟨h.q, h.bx, h.rb, h.ob.congr e⟩
theorem us_start (w : World) (lv : Array Value) : UsM w lv (fun _ => 0) (((w.alloc (.cells lv 66)).alloc (.cells (hP fun _ => 0).toArray 230)).alloc (.cells (hP fun _ => 0).toArray 230)) := by
  have step : ∀ (W : World) (o : Obj), Below W.heap.size W (W.alloc o) := fun W o => (Below.refl _ _).alloc (Nat.le_refl _) _
  have z1 : (w.alloc (.cells lv 66)).heap.size = w.heap.size + 1 := by simp
  have a1 := World.alloc_heap_new w (.cells lv 66)
  have q1 := step w (.cells lv 66)
  generalize w.alloc (.cells lv 66) = w1 at *
  have a2 := World.alloc_heap_new w1 (.cells (hP fun _ => 0).toArray 230)
  have z2 : (w1.alloc (.cells (hP fun _ => 0).toArray 230)).heap.size = w.heap.size + 2 := by simp [z1]
  have q2 := step w1 (.cells (hP fun _ => 0).toArray 230)
  generalize w1.alloc (.cells (hP fun _ => 0).toArray 230) = w2 at *
  have a3 := World.alloc_heap_new w2 (.cells (hP fun _ => 0).toArray 230)
  have q3 := step w2 (.cells (hP fun _ => 0).toArray 230)
  generalize w2.alloc (.cells (hP fun _ => 0).toArray 230) = w3 at *
  rw [z1] at a2
  rw [z2] at a3
  exact ⟨(q1.trans (q2.mono (by omega))).trans (q3.mono (by omega)), aB (aB a1 q2) q3, aB (show ArB w2 _ _ from a2) q3, a3⟩
def cS (L : Ly) (k : Nat) (p : Nat) : Nat := ((L.sgs.take k).flatMap eG).count p
def cN (L : Ly) (k : Nat) (p : Nat) : Nat := (L.nws.take k).countP (fun a => a == (p : Int))
theorem cS_succ {L : Ly} {k : Nat} (hk : k < L.sgs.length) (p : Nat) : cS L (k + 1) p = cS L k p + (eG L.sgs[k]).count p := by
  unfold cS
  rw [List.take_succ_eq_append_getElem hk, List.flatMap_append, List.count_append]
  simp
theorem cS_le (L : Ly) (k p : Nat) (hk : k ≤ L.sgs.length) : cS L k p ≤ k := by
  induction k with
  | zero => simp [cS]
  | succ k ih =>
    rw [cS_succ (by omega)]
    have := ih (by omega)
    have h1 := List.nodup_iff_count.1 (plL_nodup L.sgs[k]) p
    omega
theorem cN_succ {L : Ly} {k : Nat} (hk : k < L.nws.length) (p : Nat) : cN L (k + 1) p = cN L k p + if L.nws[k] = (p : Int) then 1 else 0 := by
  unfold cN
  rw [List.take_succ_eq_append_getElem hk, List.countP_append, List.countP_singleton]
  congr 1
  by_cases h : L.nws[k] = (p : Int) <;> simp [h]
theorem cN_le (L : Ly) (k p : Nat) : cN L k p ≤ k := by
  unfold cN
  have := List.countP_le_length (p := fun a => a == (p : Int)) (l := L.nws.take k)
  rw [List.length_take] at this
  omega
theorem count_take {l : List Nat} {j : Nat} (hj : j < l.length) (p : Nat) : (l.take (j + 1)).count p = (l.take j).count p + if p = l[j] then 1 else 0 := by
  rw [List.take_succ_eq_append_getElem hj, List.count_append, List.count_singleton]
  congr 1
  by_cases h : l[j] = p
  · simp [h]
  · rw [if_neg (by simpa using h), if_neg (fun e => h e.symm)]
theorem cnt_all (L : Ly) (p : Nat) : cS L L.sgs.length p + cN L L.nws.length p = i5 L.sgs L.nws p := by
  unfold cS cN i5
  rw [List.take_of_length_le (Nat.le_refl _), List.take_of_length_le (Nat.le_refl _)]
theorem Places_both (s : Sg) (w : World) : Calls Tryz.prog 186 #[.agg #[.int .i64 s.start, .int .i64 s.width, .bool s.big, .bool s.sgn]] w fun e w' => ∃ A c x, e = .returned (.tuple #[.slice A (eG s).length c, .int .i64 x]) ∧ NR w' w'.heap.size A (eG s) ∧ (∀ g off, A = some ⟨g, off, none⟩ → w.heap.size ≤ g) ∧ Below w.heap.size w w' := by
  by_cases h : eG s = []
  · refine (Places_none s w h).mono ?_
    rintro e w' ⟨he, q⟩
    exact ⟨none, 0, 1, by rw [he, h]; rfl, by rw [h]; exact Rd.nil, (fun _ _ h => by cases h), q⟩
  · refine (Places_some s w h).mono ?_
    rintro e w' ⟨g, c, he, ho, q⟩
    exact ⟨_, c, 0, he, ho.rd (cR _), gQ ho, q⟩
set_option maxRecDepth 100000 in
set_option maxHeartbeats 4000000 in
theorem used_any (L : Ly) (A : Option Addr) (c : Nat) (B : Option Addr) (d : Nat) (w : World) (hA : SgR w w.heap.size A L.sgs) (hB : InR w w.heap.size B L.nws) (hs : L.sgs.length ≤ 1000) (hn : L.nws.length ≤ 1000) (hc : L.sgs.length ≤ c) (hd : L.nws.length ≤ d) :
    Calls Tryz.prog 149 #[.agg (lyV L A c B d)] w fun e w' => e = .returned (.agg (hP (i5 L.sgs L.nws)).toArray) ∧ Below w.heap.size w w' := by
  have HA := aA hA
  have HB := aA hB
  have U0 := aA (us_start w (lyV L A c B d))
  have CS := aA (fun k (hk : k < L.sgs.length) p => cS_succ hk p)
  have CSL := aA (fun k p (hk : k ≤ L.sgs.length) => cS_le L k p hk)
  have CN := aA (fun k (hk : k < L.nws.length) p => cN_succ hk p)
  have CNL := aA (fun k p => cN_le L k p)
  have CA := aA (fun p => cnt_all L p)
  clear hA hB
  unfold lyV at *
  go_enter Tryz.func149, Tryz.ntmps149
  go_upto_region 2 with fail
  generalize hw1 : World.alloc _ _ = w1
  have U1 : Hid (UsM w #[.int .i64 L.size, .slice A L.sgs.length c, .slice B L.nws.length d] (fun _ => 0) w1) := by
    rw [← hw1]; exact U0.out
  clear hw1 U0
  have b1 : w1.cell? ⟨w.heap.size, 1, none⟩ = some (.slice A L.sgs.length c) := by simp [World.cell?, U1.out.bx]
  go_wp2_with fail
  go_loopw [15] (fun vi W => ∃ k : Nat, k ≤ L.sgs.length ∧ vi = .int .i64 k ∧ Hid (UsM w #[.int .i64 L.size, .slice A L.sgs.length c, .slice B L.nws.length d] (cS L k) W)) (fun vi _ => L.sgs.length - (intOf vi).toNat)
  case atStart => exact ⟨0, Nat.zero_le _, rfl, aA (U1.out.congr (fun p _ => by simp [cS]))⟩
  case round =>
    obtain ⟨k, hk, rfl, hU⟩ := hrel
    clear b1 U1
    by_cases hlt : k < L.sgs.length
    · have HAk := aA (Rd.below HA.out hU.out.q)
      obtain ⟨ab, ao, rfl, hab, s0, s1, s2, s3⟩ := SgR.at_ HAk.out hlt
      have PL := aA (fun W => Places_both L.sgs[k] W)
      have CSk := aA (CS.out k hlt)
      have CLk := aA (fun p => CSL.out k p hk)
      have N1 := aA (fun p => List.nodup_iff_count.1 (plL_nodup L.sgs[k]) p)
      have PLT := aA (fun p (hp : p ∈ eG L.sgs[k]) => plL_lt hp)
      have hll : (eG L.sgs[k]).length ≤ 64 := by
        by_cases h0 : eG L.sgs[k] = []
        · rw [h0]; simp
        · have := j9 h0; omega
      have hki : (k : Int) < (L.sgs.length : Int) := by omega
      have z1 : w.heap.size ≤ wr.heap.size := hU.out.q.size
      clear HAk
      generalize eG L.sgs[k] = l at *
      generalize L.sgs[k] = S at *
      have th := aA (show (wr.alloc (.cells #[.int .i64 0, .int .i64 0, .bool false, .bool false] 136)).there wr.heap.size 0 4 from aK (cs := [_, _, _, _]) (World.alloc_heap_new wr _))
      go_wp2_with (refine aF (by rfl) 136 (.tmp 5) (.tmp 18) (by rfl) wr.heap.size 0 [.int .i64 S.start, .int .i64 S.width, .bool S.big, .bool S.sgn] (by rfl) (by rfl) (by exact th.out) (by kernel_rfl) (by simp [Value.oneCell']) ?_)
      intro w2 e2
      have bs := aA (show w2.heap[wr.heap.size]? = some (.cells #[.int .i64 S.start, .int .i64 S.width, .bool S.big, .bool S.sgn] 136 (0, 0)) by rw [e2.out]; exact aJ [.int .i64 S.start, .int .i64 S.width, .bool S.big, .bool S.sgn] (xs := [_, _, _, _]) (World.alloc_heap_new wr _) rfl)
      have qb : Below wr.heap.size wr w2 := by
        rw [e2.out]
        exact ((Below.refl _ _).alloc (Nat.le_refl _) _).trans (aE (g := wr.heap.size) _ 0 _ (Nat.le_refl _))
      have U2 := aA (hU.out.below qb)
      clear th e2 qb hU s0 s1 s2 s3
      obtain ⟨c0, c1, c2, c3⟩ := jC bs.out
      go_wp2_with fail
      (with_reducible refine (PL.out _).mono ?_)
      rintro e3 w3 ⟨A3, cc3, x3, rfl, hr3, hA3, q3⟩
      have z2 : w.heap.size + 2 < w2.heap.size := aH U2.out.ob
      have HA3 := aA hA3
      have U3 := aA (U2.out.below q3)
      have R3 := aA hr3
      clear U2 q3 hr3 hA3 c0 c1 c2 c3 bs PL
      go_wp2_with fail
      go_loopw [26] (fun vj W => ∃ j : Nat, j ≤ l.length ∧ vj = .int .i64 j ∧ Hid (UsM w #[.int .i64 L.size, .slice (some ⟨ab, ao, none⟩) L.sgs.length c, .slice B L.nws.length d] (fun p => cS L k p + (l.take j).count p) W) ∧ Hid (NR W w3.heap.size A3 l)) (fun vj _ => l.length - (intOf vj).toNat)
      case atStart => exact ⟨0, Nat.zero_le _, rfl, aA (U3.out.congr (fun p _ => by simp)), R3⟩
      case round =>
        obtain ⟨j, hj, rfl, hV, hR⟩ := hrel
        by_cases hjl : j < l.length
        · obtain ⟨b3, o3, rfl, hb3, d0⟩ := hR.out.at_ hjl
          have hlp := PLT.out l[j] (List.getElem_mem hjl)
          have CT := aA (fun p => count_take hjl p)
          have hcl : cS L k l[j] + (l.take j).count l[j] ≤ 100000 := by
            have h1 := CLk.out l[j]
            have h2 := List.count_le_length (l := l.take j) (a := l[j])
            rw [List.length_take] at h2
            omega
          obtain ⟨y, hy⟩ : ∃ y, y = cS L k l[j] + (l.take j).count l[j] := ⟨_, rfl⟩
          have VN := hV.out.set l[j] (y + 1)
          have VN2 := aA (VN.congr (g' := fun p => cS L k p + (l.take (j + 1)).count p) (fun p _ => by
            rw [CT.out p]
            by_cases e : p = l[j]
            · rw [if_pos e, if_pos e, hy, e]; omega
            · rw [if_neg e, if_neg e]; omega))
          have RN := aA (rd_setCell hR.out (x := w.heap.size + 2) (j := l[j]) (fun g off he => by have := HA3.out g off he; omega) (.int .i64 ((y + 1 : Nat) : Int)))
          obtain ⟨e0, e1⟩ := hV.out.ob.cell hlp
          rw [← hy] at e0 hcl
          have hji : (j : Int) < (l.length : Int) := by omega
          have hlpi : (l[j] : Int) < 64 := by omega
          have hy1 : (y : Int) ≤ 100000 := by omega
          clear VN CT hV hR hy hki hab
          generalize l[j] = p at *
          go_wp2_with fail
          go_roundw
          case rel => exact ⟨j + 1, by omega, by go_num, VN2, RN⟩
          case measure => simp [intOf]; omega
        · obtain rfl : j = l.length := by omega
          have FIN := aA (hV.out.congr (g' := cS L (k + 1)) (fun p _ => by rw [CSk.out p, List.take_of_length_le (Nat.le_refl _)]))
          clear hV hR
          go_wp2_with fail
          go_roundw
          case rel => exact ⟨k + 1, by omega, by go_num, FIN⟩
          case measure => simp [intOf]; omega
    · obtain rfl : k = L.sgs.length := by omega
      have b2 : wr.cell? ⟨w.heap.size, 2, none⟩ = some (.slice B L.nws.length d) := by simp [World.cell?, hU.out.bx]
      have HU := aA hU.out
      clear hU CS CSL
      go_wp2_with fail
      clear b2
      go_loopw [40] (fun vi W => ∃ k : Nat, k ≤ L.nws.length ∧ vi = .int .i64 k ∧ Hid (UsM w #[.int .i64 L.size, .slice A L.sgs.length c, .slice B L.nws.length d] (fun p => cS L L.sgs.length p + cN L k p) W)) (fun vi _ => L.nws.length - (intOf vi).toNat)
      case atStart => exact ⟨0, Nat.zero_le _, rfl, aA (HU.out.congr (fun p _ => by simp [cN]))⟩
      case round =>
        obtain ⟨k, hk, rfl, hV⟩ := hrel
        by_cases hlt : k < L.nws.length
        · have HBk := aA (Rd.below HB.out hV.out.q)
          obtain ⟨b3, o3, rfl, hb3, d0⟩ := InR.at_ HBk.out hlt
          have CNk := aA (fun p => CN.out k hlt p)
          have hki : (k : Int) < (L.nws.length : Int) := by omega
          have hb4 : b3 < wr.heap.size := Nat.lt_of_lt_of_le hb3 hV.out.q.size
          clear HBk
          generalize L.nws[k] = a at *
          by_cases ha : 0 ≤ a ∧ a < 64
          · obtain ⟨p, rfl⟩ := Int.eq_ofNat_of_zero_le ha.1
            have hp : p < 64 := by omega
            have hcl : cS L L.sgs.length p + cN L k p ≤ 100000 := by
              have h1 := cS_le L L.sgs.length p (Nat.le_refl _)
              have h2 := CNL.out k p
              omega
            obtain ⟨y, hy⟩ : ∃ y, y = cS L L.sgs.length p + cN L k p := ⟨_, rfl⟩
            have VN := hV.out.set p (y + 1)
            have VN2 := aA (VN.congr (g' := fun p => cS L L.sgs.length p + cN L (k + 1) p) (fun q _ => by
              rw [CNk.out q]
              by_cases e : q = p
              · rw [if_pos e, if_pos (by rw [e]), hy, e]; omega
              · rw [if_neg e, if_neg (by omega)]; rfl))
            obtain ⟨e0, e1⟩ := hV.out.ob.cell hp
            rw [← hy] at e0 hcl
            have hpi : (p : Int) < 64 := by omega
            have hy1 : (y : Int) ≤ 100000 := by omega
            clear VN hV hy ha CNk
            go_wp2_with fail
            go_roundw
            case rel => exact ⟨k + 1, by omega, by go_num, VN2⟩
            case measure => simp [intOf]; omega
          · have VN2 := aA (hV.out.congr (g' := fun p => cS L L.sgs.length p + cN L (k + 1) p) (fun q hq => by
              rw [CNk.out q, if_neg (by omega)]; rfl))
            clear hV CNk
            by_cases h0 : 0 ≤ a
            · have h64 : ¬ a < 64 := by omega
              clear ha
              go_wp2_with fail
              go_roundw
              case rel => exact ⟨k + 1, by omega, by go_num, VN2⟩
              case measure => simp [intOf]; omega
            · clear ha
              go_wp2_with fail
              go_roundw
              case rel => exact ⟨k + 1, by omega, by go_num, VN2⟩
              case measure => simp [intOf]; omega
        · obtain rfl : k = L.nws.length := by omega
          have FIN := aA (hV.out.congr (g' := i5 L.sgs L.nws) (fun p _ => by rw [CA.out p]))
          clear hV CA CN CNL
          have RG := aA (gD FIN.out.ob)
          have TH : Hid (wr.there (w.heap.size + 1) 0 (hP (i5 L.sgs L.nws)).length) := by
            have := aK FIN.out.rb
            rw [dP] at this ⊢
            exact this
          go_wp2_with (first | (refine wpList_load_mid (by rfl) 230 (.tmp 3) (by rfl) (w.heap.size + 2) 0 (by rfl) (hP (i5 L.sgs L.nws)) _ (by exact RG.out) Tryz.underlying230 rfl (by rw [dP]; kernel_rfl) ?_) | (refine aF (by rfl) 230 (.tmp 2) (.tmp 56) (by rfl) (w.heap.size + 1) 0 (hP (i5 L.sgs L.nws)) (by rfl) (by rfl) (by exact TH.out) (by rw [dP]; kernel_rfl) (by exact arL_one _) ?_))
          intro w5 e5
          have RB5 := aA (show ArB w5 (w.heap.size + 1) (i5 L.sgs L.nws) by
            unfold ArB
            rw [e5.out]
            exact aJ (hP (i5 L.sgs L.nws)) FIN.out.rb (by rw [dP, dP]))
          have Q5 := aA (show Below w.heap.size w w5 by rw [e5.out]; exact FIN.out.q.trans (aE (g := w.heap.size + 1) _ 0 _ (by omega)))
          clear e5 RG TH
          go_wp2_with fail
          refine bodyPost_ret (v := .agg (hP (i5 L.sgs L.nws)).toArray) ?_ rfl ⟨rfl, Q5.out⟩
          refine results_cell_row (p := 2) (ty := 230) (by rfl) _ w5 (w.heap.size + 1) 230 (hP (i5 L.sgs L.nws)).toArray (0, 0) _ (by rfl) RB5.out Tryz.underlying230 (by rfl) ?_
          rw [List.size_toArray, dP]
          kernel_rfl
end Go.Proofs.YtkmddjbialpppaaGreatDoor
