/- The walk of conf.which, with one captured pointer. -/
import Derived.Test.YtplpnnjjjfcibaaMgCoH
import Derived.Test.YtplpnnjjjfcibaaMgPdU
namespace Go.Proofs.Ytplpnnjjjfcibaa
open Go.ChangeShapes Go.WideShapes Go.ChangeAt Go.RowKit
open CM PD SG

/-- The places below k of those that are so. -/
def whP (l : List Pd) (pB : Pd → Bool) : Nat → List Nat
  | 0 => []
  | k + 1 => match l[k]? with
    | some p => if pB p = true then whP l pB k ++ [k] else whP l pB k
    | none => whP l pB k
theorem whP_yes {l : List Pd} {pB : Pd → Bool} {k : Nat} (h : k < l.length) (hp : pB l[k] = true) : whP l pB (k + 1) = whP l pB k ++ [k] := by simp [whP, h, hp]
theorem whP_no {l : List Pd} {pB : Pd → Bool} {k : Nat} (h : k < l.length) (hp : pB l[k] = false) : whP l pB (k + 1) = whP l pB k := by simp [whP, h, hp]
theorem whP_len (l : List Pd) (pB : Pd → Bool) : ∀ k, (whP l pB k).length ≤ k
  | 0 => Nat.le_refl _
  | k + 1 => by
    have := whP_len l pB k
    unfold whP
    split
    · split
      · simp; omega
      · omega
    · omega
theorem whP_lt (l : List Pd) (pB : Pd → Bool) : ∀ k, ∀ j ∈ whP l pB k, j < k
  | 0, j, h => by cases h
  | k + 1, j, h => by
    have ih := whP_lt l pB k
    unfold whP at h
    split at h
    · split at h
      · rcases List.mem_append.1 h with h | h
        · have := ih j h; omega
        · have := List.mem_singleton.1 h; omega
      · have := ih j h; omega
    · have := ih j h; omega
def whichL (c : Cf) (pB : Pd → Bool) : List Nat := if confB c = true then whP c.l pB c.l.length else []
set_option maxRecDepth 100000 in
set_option maxHeartbeats 16000000 in
theorem which1_any (fid cap : Nat) (pB : Pd → Bool) (hp : ∀ (args : Array Value) (w : World), (callFunc fid args).run Try.prog w = .ok (.enter fid args) w) (c : Cf) (w : World) (ho : c.Ok w)
    (hc0 : Hid (confB c = true → ∀ p ∈ c.l, ∀ W, Below w.heap.size w W → Calls Try.prog fid #[.agg p.cs.toArray, .pointer (some ⟨cap, 0, none⟩)] W fun e w' => e = .returned (.bool (pB p)) ∧ Below W.heap.size W w')) :
    Calls Try.prog 60 #[.agg c.cs.toArray, .func (.func fid) #[] #[.pointer (some ⟨cap, 0, none⟩)]] w fun e w' => (∃ A cc, e = .returned (.slice A (whichL c pB).length cc) ∧ NR w' w'.heap.size A (whichL c pB) ∧ ∀ g off, A = some ⟨g, off, none⟩ → w.heap.size ≤ g) ∧ Below w.heap.size w w' := by
  obtain ⟨w0, hw0⟩ : ∃ w0, w0 = w.alloc (.cells c.cs.toArray 52) := ⟨_, rfl⟩
  have B0 := hide (World.alloc_heap_new w (.cells c.cs.toArray 52))
  have Q0 : Hid (Below w.heap.size w w0) := by rw [hw0]; exact hide ((Below.refl _ _).alloc (Nat.le_refl _) _)
  rw [← hw0] at B0
  have RT := hide (confRight_any c w0 (ho.next Q0.out))
  have HO := hide ho
  have hl := ho.n
  obtain ⟨R, hR⟩ : ∃ R, R = whichL c pB := ⟨_, rfl⟩
  rw [← hR]
  have HR := hide hR
  clear ho hR
  go_enter Try.func60, Try.ntmps60
  go_upto_region 1 with fail
  change Code.wp _ _ _ _ (w.alloc (.cells c.cs.toArray 52))
  rw [← hw0]
  clear hw0
  go_wp2_with (refine wpList_load_row rfl 52 (.tmp 2) (by rfl) w.heap.size (by rfl) 52 c.cs.toArray (0, 0) _ (by exact B0.out) Try.underlying52 (by rfl) (by kernel_rfl) ?_)
  (with_reducible refine (RT.out).mono ?_)
  rintro e1 w1 ⟨rfl, q1⟩
  have B1 := hide (heap_below B0.out q1)
  have Q1 := hide (below_next Q0.out Q0.out.size q1)
  clear q1 B0 Q0 RT
  rcases hb : confB c with _ | _
  · have hR0 : R = [] := by rw [HR.out]; unfold whichL; rw [hb]; simp
    clear HR hb
    subst hR0
    go_wp2_with fail
    go_ret
    exact ⟨⟨none, 0, rfl, Rd.nil, fun _ _ h => by cases h⟩, Q1.out⟩
  have HE := hide (show R = whP c.l pB c.l.length by rw [HR.out]; unfold whichL; rw [hb]; simp)
  have hc := hide (hc0.out hb)
  clear hc0
  clear HR hb
  obtain ⟨c0, c1, c2, c3, c4, c5, c6, c7⟩ := cf_cells B1.out
  clear c0 c2 c3 c4 c5 c6 c7
  have OW : Hid (Own w1 w.heap.size 3 1 none 0 (rowN (whP c.l pB 0))) := hide Own.nil
  go_wp2_with fail
  clear c1
  go_loopw [5, 14] (fun vs vi W => ∃ (k : Nat) (A : Option Addr) (cc : Nat), k ≤ c.l.length ∧ vi = .int .i64 k ∧ vs = .slice A (whP c.l pB k).length cc ∧ Hid (Own W w.heap.size 3 1 A cc (rowN (whP c.l pB k))) ∧ Hid (Below w.heap.size w W)) (fun _ vi _ => c.l.length - (intOf vi).toNat)
  case atStart => exact ⟨0, none, 0, Nat.zero_le _, rfl, rfl, OW, Q1⟩
  case round =>
    obtain ⟨k, A, cc, hk, rfl, rfl, hOw, hQ⟩ := hrel
    by_cases hkl : k < c.l.length
    · have hki : (k : Int) < (c.l.length : Int) := by omega
      obtain ⟨pb, po, hca, hpb, hrg⟩ := PdR.at_ (HO.out.next hQ.out).r hkl
      have RG := hide hrg
      have HC := hide (fun W q => hc.out c.l[k] (List.getElem_mem hkl) W q)
      have HY := hide (fun h => whP_yes (pB := pB) hkl h)
      have HN := hide (fun h => whP_no (pB := pB) hkl h)
      clear hrg
      generalize c.l[k] = p at *
      rw [hca]
      have q2 : Below wr.heap.size wr (wr.alloc (.cells zPd.cs.toArray 67)) := (Below.refl _ _).alloc (Nat.le_refl _) _
      have g2 := World.alloc_heap_new wr (.cells zPd.cs.toArray 67)
      have TH := hide (show (wr.alloc (.cells zPd.cs.toArray 67)).there wr.heap.size 0 22 from there_heap (cs := zPd.cs) g2)
      go_wp2_with (first | (refine wpList_load_mid rfl 67 (.tmp 17) (by rfl) pb (po + k * 22) (by rfl) p.cs _ (by exact RG.out) Try.underlying67 (by rfl) (by kernel_rfl) ?_) | (refine wpList_store_hid (by rfl) 67 (.tmp 7) (.tmp 18) (by rfl) wr.heap.size 0 p.cs (by rfl) (by rfl) (by exact TH.out) (by kernel_rfl) (by simp [Value.oneCell', Pd.cs, Iv.v, Fv.v]) ?_))
      intro w2 e2
      have s2 : Below wr.heap.size wr w2 := by rw [e2.out]; exact q2.trans (below_setCells (g := wr.heap.size) _ 0 _ (Nat.le_refl _))
      have P2 := hide (show w2.heap[wr.heap.size]? = some (.cells p.cs.toArray 67 (0, 0)) by rw [e2.out]; exact whole_heap p.cs (xs := zPd.cs) g2 rfl)
      have O2 := hide (hOw.out.grown s2)
      have Q2 := hide (below_next hQ.out hQ.out.size s2)
      have C2 := hide (HC.out w2 Q2.out)
      clear e2 TH g2 q2 s2 RG hOw hQ HC
      generalize wr.heap.size = pbx at *
      have HL := whP_len c.l pB k
      rcases hpb : pB p with _ | _
      · have hn := HN.out hpb
        rw [hpb] at C2
        go_wp2_with (refine wpList_load_row rfl 67 (.tmp 7) (by rfl) pbx (by rfl) 67 p.cs.toArray (0, 0) _ (by exact P2.out) Try.underlying67 (by rfl) (by kernel_rfl) ?_)
        (with_reducible refine (C2.out).mono ?_)
        rintro e3 w3 ⟨rfl, q3⟩
        have O3 := hide (O2.out.grown q3)
        have Q3 := hide (below_next Q2.out Q2.out.size q3)
        clear q3 O2 Q2 C2 P2 HN HY hpb
        rw [← hn] at O3
        have HN2 := hide hn
        clear hn
        go_wp2_with fail
        go_roundw
        case rel => exact ⟨k + 1, _, _, by omega, by go_num, by rw [HN2.out], O3, Q3⟩
        case measure => simp [intOf]; omega
      · have hy := HY.out hpb
        rw [hpb] at C2
        have hy2 : rowN (whP c.l pB (k + 1)) = rowN (whP c.l pB k) ++ [[.int .i64 (k : Int)]] := by rw [hy]; simp [rowN]
        have HY2 := hide hy2
        have HY3 := hide (show (whP c.l pB (k + 1)).length = (whP c.l pB k).length + 1 by rw [hy]; simp)
        clear hy hy2
        go_wp2_with (refine wpList_load_row rfl 67 (.tmp 7) (by rfl) pbx (by rfl) 67 p.cs.toArray (0, 0) _ (by exact P2.out) Try.underlying67 (by rfl) (by kernel_rfl) ?_)
        (with_reducible refine (C2.out).mono ?_)
        rintro e3 w3 ⟨rfl, q3⟩
        have O3 := hide (O2.out.grown q3)
        have Q3 := hide (below_next Q2.out Q2.out.size q3)
        have z3 : w.heap.size ≤ w3.heap.size := Q3.out.size
        clear q3 O2 Q2 C2 P2 HN HY hpb
        go_wp2_with (at_builtin; refine wpList_append_one _ _ [.int .i64 (k : Int)] (by rfl) rfl _ _ 23 rfl slInt (by decide) rfl (by simp [Value.oneCell']) w.heap.size _ _ _ (rowN (whP c.l pB k)) (by rfl) (by exact O3.out) _ (by rfl) (by rw [rowN_len]; omega) z3 (by rw [rowN_len]) ?_)
        intro A2 c2 w4 P4
        have O4 := hide (HY2.out ▸ P4.own)
        have Q4 := hide (P4.q Q3.out (Nat.le_refl _))
        clear P4 O3 Q3 z3
        go_wp2_with fail
        go_roundw
        case rel => exact ⟨k + 1, A2, c2, by omega, by go_num, by rw [HY3.out], O4, Q4⟩
        case measure => simp [intOf]; omega
    · obtain rfl : k = c.l.length := by omega
      rw [← HE.out] at hOw ⊢
      have RR := hide (hOw.out.rd (rowN_rows R))
      have RB := hide (own_blk hOw.out)
      clear hOw
      go_wp2_with fail
      go_ret
      exact ⟨⟨_, _, rfl, RR.out, RB.out⟩, hQ.out⟩
end Go.Proofs.Ytplpnnjjjfcibaa

/- The walks of the closures of conf.Sent and conf.Heard. -/
namespace Go.Proofs.Ytplpnnjjjfcibaa
open Go.ChangeShapes Go.WideShapes Go.ChangeAt Go.RowKit
open CM PD SG

set_option maxRecDepth 100000 in
theorem sent1_any (p : Pd) (nb : Nat) (node : Int) (w : World) (hz : nb < w.heap.size) (hn : Hid (w.cell? ⟨nb, 0, none⟩ = some (.int .i64 node))) : Calls Try.prog 61 #[.agg p.cs.toArray, .pointer (some ⟨nb, 0, none⟩)] w fun e w' => e = .returned (.bool (p.frm == node)) ∧ Below w.heap.size w w' := by
  obtain ⟨r, hr⟩ : ∃ r, r = (p.frm == node) := ⟨_, rfl⟩
  rw [← hr]
  have HR := hide hr
  clear hr
  have q0 : Below w.heap.size w (w.alloc (.cells p.cs.toArray 67)) := (Below.refl _ _).alloc (Nat.le_refl _) _
  have B0 := World.alloc_heap_new w (.cells p.cs.toArray 67)
  have n0 := cellBelow q0 hz hn.out
  obtain ⟨w0, hw0⟩ : ∃ w0, w0 = w.alloc (.cells p.cs.toArray 67) := ⟨_, rfl⟩
  rw [← hw0] at B0 n0 q0
  obtain ⟨⟨_, p1, _⟩, _⟩ := pd_cells B0
  have Q0 := hide q0
  clear B0 q0 hz
  go_enter Try.func61, Try.ntmps61
  go_upto_region 1 with fail
  change Code.wp _ _ _ _ (w.alloc (.cells p.cs.toArray 67))
  rw [← hw0]
  clear hw0
  go_wp2_with fail
  go_ret
  refine ⟨ret_bool ?_, Q0.out⟩
  rw [HR.out]
def hearB (c : Cf) (node : Int) (p : Pd) : Bool := inI node 0 (c.nodes - 1) && (p.dst / 2 ^ node.toNat % 2 == 1)
set_option maxRecDepth 100000 in
set_option maxHeartbeats 4000000 in
theorem heard1_any (c : Cf) (p : Pd) (nb cb : Nat) (node : Int) (w : World) (hnodes : 2 ≤ c.nodes ∧ c.nodes ≤ 4) (hz : nb < w.heap.size) (hzc : cb < w.heap.size) (hn : Hid (w.cell? ⟨nb, 0, none⟩ = some (.int .i64 node))) (hc : Hid (w.cell? ⟨cb, 0, none⟩ = some (.int .i64 c.nodes))) (hd : lim p.dst) :
    Calls Try.prog 62 #[.agg p.cs.toArray, .pointer (some ⟨nb, 0, none⟩), .pointer (some ⟨cb, 0, none⟩)] w fun e w' => e = .returned (.bool (hearB c node p)) ∧ Below w.heap.size w w' := by
  obtain ⟨r, hr⟩ : ∃ r, r = hearB c node p := ⟨_, rfl⟩
  rw [← hr]
  unfold hearB at hr
  have HR := hide hr
  clear hr
  have q0 : Below w.heap.size w (w.alloc (.cells p.cs.toArray 67)) := (Below.refl _ _).alloc (Nat.le_refl _) _
  have B0 := World.alloc_heap_new w (.cells p.cs.toArray 67)
  have n0 := cellBelow q0 hz hn.out
  have m0 := cellBelow q0 hzc hc.out
  obtain ⟨w0, hw0⟩ : ∃ w0, w0 = w.alloc (.cells p.cs.toArray 67) := ⟨_, rfl⟩
  rw [← hw0] at B0 n0 m0 q0
  obtain ⟨⟨_, _, p2, _⟩, _⟩ := pd_cells B0
  have Q0 := hide q0
  have WI := hide confWithin_any
  obtain ⟨hn2, hn4⟩ := hnodes
  unfold lim at hd
  clear B0 q0 hz hzc
  go_enter Try.func62, Try.ntmps62
  go_upto_region 1 with fail
  change Code.wp _ _ _ _ (w.alloc (.cells p.cs.toArray 67))
  rw [← hw0]
  clear hw0
  go_wp2_with fail
  (with_reducible refine (WI.out _ _ _ _).mono ?_)
  rintro e1 w1 ⟨rfl, rfl⟩
  rcases h1 : inI node 0 (c.nodes - 1) with _ | _
  · have E := hide (show r = false by rw [HR.out, h1]; rfl)
    clear HR WI h1
    go_wp2_with fail
    go_ret
    exact ⟨by rw [E.out]; rfl, Q0.out⟩
  obtain ⟨k1, k2⟩ := inI_true h1
  have E := hide (show r = (bits .and .i64 (p.dst / 2 ^ node.toNat) 1 == 1) by rw [HR.out, h1, and_one_i64]; rfl)
  clear HR WI h1
  go_wp2_with fail
  go_ret
  refine ⟨ret_bool ?_, Q0.out⟩
  rw [E.out]
end Go.Proofs.Ytplpnnjjjfcibaa

/- The walks of conf.which with two captured pointers, conf.Sent, conf.Heard. -/
namespace Go.Proofs.Ytplpnnjjjfcibaa
open Go.ChangeShapes Go.WideShapes Go.ChangeAt Go.RowKit
open CM PD SG

set_option maxRecDepth 100000 in
set_option maxHeartbeats 16000000 in
theorem which2_any (fid cap cap2 : Nat) (pB : Pd → Bool) (hp : ∀ (args : Array Value) (w : World), (callFunc fid args).run Try.prog w = .ok (.enter fid args) w) (c : Cf) (w : World) (ho : c.Ok w)
    (hc0 : Hid (confB c = true → ∀ p ∈ c.l, ∀ W, Below w.heap.size w W → Calls Try.prog fid #[.agg p.cs.toArray, .pointer (some ⟨cap, 0, none⟩), .pointer (some ⟨cap2, 0, none⟩)] W fun e w' => e = .returned (.bool (pB p)) ∧ Below W.heap.size W w')) :
    Calls Try.prog 60 #[.agg c.cs.toArray, .func (.func fid) #[] #[.pointer (some ⟨cap, 0, none⟩), .pointer (some ⟨cap2, 0, none⟩)]] w fun e w' => (∃ A cc, e = .returned (.slice A (whichL c pB).length cc) ∧ NR w' w'.heap.size A (whichL c pB) ∧ ∀ g off, A = some ⟨g, off, none⟩ → w.heap.size ≤ g) ∧ Below w.heap.size w w' := by
  obtain ⟨w0, hw0⟩ : ∃ w0, w0 = w.alloc (.cells c.cs.toArray 52) := ⟨_, rfl⟩
  have B0 := hide (World.alloc_heap_new w (.cells c.cs.toArray 52))
  have Q0 : Hid (Below w.heap.size w w0) := by rw [hw0]; exact hide ((Below.refl _ _).alloc (Nat.le_refl _) _)
  rw [← hw0] at B0
  have RT := hide (confRight_any c w0 (ho.next Q0.out))
  have HO := hide ho
  have hl := ho.n
  obtain ⟨R, hR⟩ : ∃ R, R = whichL c pB := ⟨_, rfl⟩
  rw [← hR]
  have HR := hide hR
  clear ho hR
  go_enter Try.func60, Try.ntmps60
  go_upto_region 1 with fail
  change Code.wp _ _ _ _ (w.alloc (.cells c.cs.toArray 52))
  rw [← hw0]
  clear hw0
  go_wp2_with (refine wpList_load_row rfl 52 (.tmp 2) (by rfl) w.heap.size (by rfl) 52 c.cs.toArray (0, 0) _ (by exact B0.out) Try.underlying52 (by rfl) (by kernel_rfl) ?_)
  (with_reducible refine (RT.out).mono ?_)
  rintro e1 w1 ⟨rfl, q1⟩
  have B1 := hide (heap_below B0.out q1)
  have Q1 := hide (below_next Q0.out Q0.out.size q1)
  clear q1 B0 Q0 RT
  rcases hb : confB c with _ | _
  · have hR0 : R = [] := by rw [HR.out]; unfold whichL; rw [hb]; simp
    clear HR hb
    subst hR0
    go_wp2_with fail
    go_ret
    exact ⟨⟨none, 0, rfl, Rd.nil, fun _ _ h => by cases h⟩, Q1.out⟩
  have HE := hide (show R = whP c.l pB c.l.length by rw [HR.out]; unfold whichL; rw [hb]; simp)
  have hc := hide (hc0.out hb)
  clear hc0
  clear HR hb
  obtain ⟨c0, c1, c2, c3, c4, c5, c6, c7⟩ := cf_cells B1.out
  clear c0 c2 c3 c4 c5 c6 c7
  have OW : Hid (Own w1 w.heap.size 3 1 none 0 (rowN (whP c.l pB 0))) := hide Own.nil
  go_wp2_with fail
  clear c1
  go_loopw [5, 14] (fun vs vi W => ∃ (k : Nat) (A : Option Addr) (cc : Nat), k ≤ c.l.length ∧ vi = .int .i64 k ∧ vs = .slice A (whP c.l pB k).length cc ∧ Hid (Own W w.heap.size 3 1 A cc (rowN (whP c.l pB k))) ∧ Hid (Below w.heap.size w W)) (fun _ vi _ => c.l.length - (intOf vi).toNat)
  case atStart => exact ⟨0, none, 0, Nat.zero_le _, rfl, rfl, OW, Q1⟩
  case round =>
    obtain ⟨k, A, cc, hk, rfl, rfl, hOw, hQ⟩ := hrel
    by_cases hkl : k < c.l.length
    · have hki : (k : Int) < (c.l.length : Int) := by omega
      obtain ⟨pb, po, hca, hpb, hrg⟩ := PdR.at_ (HO.out.next hQ.out).r hkl
      have RG := hide hrg
      have HC := hide (fun W q => hc.out c.l[k] (List.getElem_mem hkl) W q)
      have HY := hide (fun h => whP_yes (pB := pB) hkl h)
      have HN := hide (fun h => whP_no (pB := pB) hkl h)
      clear hrg
      generalize c.l[k] = p at *
      rw [hca]
      have q2 : Below wr.heap.size wr (wr.alloc (.cells zPd.cs.toArray 67)) := (Below.refl _ _).alloc (Nat.le_refl _) _
      have g2 := World.alloc_heap_new wr (.cells zPd.cs.toArray 67)
      have TH := hide (show (wr.alloc (.cells zPd.cs.toArray 67)).there wr.heap.size 0 22 from there_heap (cs := zPd.cs) g2)
      go_wp2_with (first | (refine wpList_load_mid rfl 67 (.tmp 17) (by rfl) pb (po + k * 22) (by rfl) p.cs _ (by exact RG.out) Try.underlying67 (by rfl) (by kernel_rfl) ?_) | (refine wpList_store_hid (by rfl) 67 (.tmp 7) (.tmp 18) (by rfl) wr.heap.size 0 p.cs (by rfl) (by rfl) (by exact TH.out) (by kernel_rfl) (by simp [Value.oneCell', Pd.cs, Iv.v, Fv.v]) ?_))
      intro w2 e2
      have s2 : Below wr.heap.size wr w2 := by rw [e2.out]; exact q2.trans (below_setCells (g := wr.heap.size) _ 0 _ (Nat.le_refl _))
      have P2 := hide (show w2.heap[wr.heap.size]? = some (.cells p.cs.toArray 67 (0, 0)) by rw [e2.out]; exact whole_heap p.cs (xs := zPd.cs) g2 rfl)
      have O2 := hide (hOw.out.grown s2)
      have Q2 := hide (below_next hQ.out hQ.out.size s2)
      have C2 := hide (HC.out w2 Q2.out)
      clear e2 TH g2 q2 s2 RG hOw hQ HC
      generalize wr.heap.size = pbx at *
      have HL := whP_len c.l pB k
      rcases hpb : pB p with _ | _
      · have hn := HN.out hpb
        rw [hpb] at C2
        go_wp2_with (refine wpList_load_row rfl 67 (.tmp 7) (by rfl) pbx (by rfl) 67 p.cs.toArray (0, 0) _ (by exact P2.out) Try.underlying67 (by rfl) (by kernel_rfl) ?_)
        (with_reducible refine (C2.out).mono ?_)
        rintro e3 w3 ⟨rfl, q3⟩
        have O3 := hide (O2.out.grown q3)
        have Q3 := hide (below_next Q2.out Q2.out.size q3)
        clear q3 O2 Q2 C2 P2 HN HY hpb
        rw [← hn] at O3
        have HN2 := hide hn
        clear hn
        go_wp2_with fail
        go_roundw
        case rel => exact ⟨k + 1, _, _, by omega, by go_num, by rw [HN2.out], O3, Q3⟩
        case measure => simp [intOf]; omega
      · have hy := HY.out hpb
        rw [hpb] at C2
        have hy2 : rowN (whP c.l pB (k + 1)) = rowN (whP c.l pB k) ++ [[.int .i64 (k : Int)]] := by rw [hy]; simp [rowN]
        have HY2 := hide hy2
        have HY3 := hide (show (whP c.l pB (k + 1)).length = (whP c.l pB k).length + 1 by rw [hy]; simp)
        clear hy hy2
        go_wp2_with (refine wpList_load_row rfl 67 (.tmp 7) (by rfl) pbx (by rfl) 67 p.cs.toArray (0, 0) _ (by exact P2.out) Try.underlying67 (by rfl) (by kernel_rfl) ?_)
        (with_reducible refine (C2.out).mono ?_)
        rintro e3 w3 ⟨rfl, q3⟩
        have O3 := hide (O2.out.grown q3)
        have Q3 := hide (below_next Q2.out Q2.out.size q3)
        have z3 : w.heap.size ≤ w3.heap.size := Q3.out.size
        clear q3 O2 Q2 C2 P2 HN HY hpb
        go_wp2_with (at_builtin; refine wpList_append_one _ _ [.int .i64 (k : Int)] (by rfl) rfl _ _ 23 rfl slInt (by decide) rfl (by simp [Value.oneCell']) w.heap.size _ _ _ (rowN (whP c.l pB k)) (by rfl) (by exact O3.out) _ (by rfl) (by rw [rowN_len]; omega) z3 (by rw [rowN_len]) ?_)
        intro A2 c2 w4 P4
        have O4 := hide (HY2.out ▸ P4.own)
        have Q4 := hide (P4.q Q3.out (Nat.le_refl _))
        clear P4 O3 Q3 z3
        go_wp2_with fail
        go_roundw
        case rel => exact ⟨k + 1, A2, c2, by omega, by go_num, by rw [HY3.out], O4, Q4⟩
        case measure => simp [intOf]; omega
    · obtain rfl : k = c.l.length := by omega
      rw [← HE.out] at hOw ⊢
      have RR := hide (hOw.out.rd (rowN_rows R))
      have RB := hide (own_blk hOw.out)
      clear hOw
      go_wp2_with fail
      go_ret
      exact ⟨⟨_, _, rfl, RR.out, RB.out⟩, hQ.out⟩

theorem confB_fast {c : Cf} (h : confB c = true) : fastB c = true := by
  unfold confB at h
  exact (Bool.and_eq_true_iff.1 h).1
def sentB (node : Int) (p : Pd) : Bool := p.frm == node

set_option maxRecDepth 100000 in
set_option maxHeartbeats 4000000 in
theorem confSent_any (c : Cf) (node : Int) (w : World) (ho : c.Ok w) : Calls Try.prog 27 #[.agg c.cs.toArray, .int .i64 node] w fun e w' => (∃ A cc, e = .returned (.slice A (whichL c (sentB node)).length cc) ∧ NR w' w'.heap.size A (whichL c (sentB node)) ∧ ∀ g off, A = some ⟨g, off, none⟩ → w.heap.size ≤ g) ∧ Below w.heap.size w w' := by
  obtain ⟨w0, hw0⟩ : ∃ w0, w0 = (w.alloc (.cells c.cs.toArray 52)).alloc (.cells #[.int .i64 node] 3) := ⟨_, rfl⟩
  have step : ∀ (W : World) (o : Obj), Below W.heap.size W (W.alloc o) := fun W o => (Below.refl _ _).alloc (Nat.le_refl _) _
  have B1 := hide (heap_below (World.alloc_heap_new w (.cells c.cs.toArray 52)) (step _ (.cells #[.int .i64 node] 3)))
  have B2 := hide (World.alloc_heap_new (w.alloc (.cells c.cs.toArray 52)) (.cells #[.int .i64 node] 3))
  have Q0 : Hid (Below w.heap.size w w0) := by rw [hw0]; exact hide ((step _ _).alloc (by simp) _)
  rw [← hw0] at B1 B2
  simp only [World.size_alloc] at B2
  have z0 : w.heap.size + 1 < w0.heap.size := heap_lt B2.out
  have n0 : w0.cell? ⟨w.heap.size + 1, 0, none⟩ = some (.int .i64 node) := by simp [World.cell?, B2.out]
  have WH := hide (which1_any 61 (w.heap.size + 1) (sentB node) (fun _ _ => rfl) c w0 (ho.next Q0.out) (hide fun _ p hp W q => sent1_any p (w.heap.size + 1) node W (Nat.lt_of_lt_of_le z0 q.size) (hide (cellBelow q z0 n0))))
  generalize whichL c (sentB node) = R at *
  clear step ho n0 B2
  go_enter Try.func27, Try.ntmps27
  go_upto_region 1 with fail
  change Code.wp _ _ _ _ ((w.alloc (.cells c.cs.toArray 52)).alloc (.cells #[.int .i64 node] 3))
  rw [← hw0]
  clear hw0
  go_wp2_with (refine wpList_load_row rfl 52 (.tmp 2) (by rfl) w.heap.size (by rfl) 52 c.cs.toArray (0, 0) _ (by exact B1.out) Try.underlying52 (by rfl) (by kernel_rfl) ?_)
  (with_reducible refine (WH.out).mono ?_)
  rintro e1 w1 ⟨⟨A, cc, rfl, hR, hB⟩, q1⟩
  have Q1 := hide (below_next Q0.out Q0.out.size q1)
  have HR := hide hR
  have HB := hide (show ∀ g off, A = some ⟨g, off, none⟩ → w.heap.size ≤ g from fun g off h => Nat.le_trans Q0.out.size (hB g off h))
  clear q1 Q0 WH hR B1 hB
  go_wp2_with fail
  go_ret
  exact ⟨⟨A, cc, rfl, HR.out, HB.out⟩, Q1.out⟩

set_option maxRecDepth 100000 in
set_option maxHeartbeats 4000000 in
theorem confHeard_any (c : Cf) (node : Int) (w : World) (ho : c.Ok w) : Calls Try.prog 28 #[.agg c.cs.toArray, .int .i64 node] w fun e w' => (∃ A cc, e = .returned (.slice A (whichL c (hearB c node)).length cc) ∧ NR w' w'.heap.size A (whichL c (hearB c node)) ∧ ∀ g off, A = some ⟨g, off, none⟩ → w.heap.size ≤ g) ∧ Below w.heap.size w w' := by
  obtain ⟨w0, hw0⟩ : ∃ w0, w0 = (w.alloc (.cells c.cs.toArray 52)).alloc (.cells #[.int .i64 node] 3) := ⟨_, rfl⟩
  have step : ∀ (W : World) (o : Obj), Below W.heap.size W (W.alloc o) := fun W o => (Below.refl _ _).alloc (Nat.le_refl _) _
  have B1 := hide (heap_below (World.alloc_heap_new w (.cells c.cs.toArray 52)) (step _ (.cells #[.int .i64 node] 3)))
  have B2 := hide (World.alloc_heap_new (w.alloc (.cells c.cs.toArray 52)) (.cells #[.int .i64 node] 3))
  have Q0 : Hid (Below w.heap.size w w0) := by rw [hw0]; exact hide ((step _ _).alloc (by simp) _)
  rw [← hw0] at B1 B2
  simp only [World.size_alloc] at B2
  have z0 : w.heap.size + 1 < w0.heap.size := heap_lt B2.out
  have z1 : w.heap.size < w0.heap.size := heap_lt B1.out
  have n0 : w0.cell? ⟨w.heap.size + 1, 0, none⟩ = some (.int .i64 node) := by simp [World.cell?, B2.out]
  have m0 := (cf_cells B1.out).1
  have WH := hide (which2_any 62 (w.heap.size + 1) w.heap.size (hearB c node) (fun _ _ => rfl) c w0 (ho.next Q0.out) (hide fun hcb p hp W q => heard1_any c p (w.heap.size + 1) w.heap.size node W (fastB_nodes (confB_fast hcb)).1 (Nat.lt_of_lt_of_le z0 q.size) (Nat.lt_of_lt_of_le z1 q.size) (hide (cellBelow q z0 n0)) (hide (cellBelow q z1 m0)) (ho.p p hp).dst))
  generalize whichL c (hearB c node) = R at *
  clear step ho n0 m0 B2
  go_enter Try.func28, Try.ntmps28
  go_upto_region 1 with fail
  change Code.wp _ _ _ _ ((w.alloc (.cells c.cs.toArray 52)).alloc (.cells #[.int .i64 node] 3))
  rw [← hw0]
  clear hw0
  go_wp2_with (refine wpList_load_row rfl 52 (.tmp 2) (by rfl) w.heap.size (by rfl) 52 c.cs.toArray (0, 0) _ (by exact B1.out) Try.underlying52 (by rfl) (by kernel_rfl) ?_)
  (with_reducible refine (WH.out).mono ?_)
  rintro e1 w1 ⟨⟨A, cc, rfl, hR, hB⟩, q1⟩
  have Q1 := hide (below_next Q0.out Q0.out.size q1)
  have HR := hide hR
  have HB := hide (show ∀ g off, A = some ⟨g, off, none⟩ → w.heap.size ≤ g from fun g off h => Nat.le_trans Q0.out.size (hB g off h))
  clear q1 Q0 WH hR B1 hB
  go_wp2_with fail
  go_ret
  exact ⟨⟨A, cc, rfl, HR.out, HB.out⟩, Q1.out⟩
end Go.Proofs.Ytplpnnjjjfcibaa
