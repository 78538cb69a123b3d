/- The walk of conf.which, with one captured pointer. -/
import Derived.Test.YtplpnnjjjfcibaaMgCoH
import Derived.Test.YtplpnnjjjfcibaaMgPdU
import Derived.Test.YtplpnnjjjfcibaaCoV
import Derived.Test.YtplpnnjjjfcibaaCoX
namespace Go.Proofs.Ytplpnnjjjfcibaa
open Go.ChangeShapes Go.WideShapes Go.ChangeAt Go.RowKit
open CM PD SG

/-- The places below k of those that are so. -/
def whP (l : List Pd) (pB : Pd → Bool) : Nat → List Nat
  | 0 => []
  | k + 1 => match l[k]? with
    | some p => if pB p = true then whP l pB k ++ [k] else whP l pB k
    | none => whP l pB k
theorem whP_yes {l : List Pd} {pB : Pd → Bool} {k : Nat} (h : k < l.length) (hp : pB l[k] = true) : whP l pB (k + 1) = whP l pB k ++ [k] := by simp [whP, h, hp]
theorem whP_no {l : List Pd} {pB : Pd → Bool} {k : Nat} (h : k < l.length) (hp : pB l[k] = false) : whP l pB (k + 1) = whP l pB k := by simp [whP, h, hp]
theorem whP_len (l : List Pd) (pB : Pd → Bool) : ∀ k, (whP l pB k).length ≤ k
  | 0 => Nat.le_refl _
  | k + 1 => by
    have := whP_len l pB k
    unfold whP
    split
    · split
      · simp; omega
      · omega
    · omega
theorem whP_lt (l : List Pd) (pB : Pd → Bool) : ∀ k, ∀ j ∈ whP l pB k, j < k
  | 0, j, h => by cases h
  | k + 1, j, h => by
    have ih := whP_lt l pB k
    unfold whP at h
    split at h
    · split at h
      · rcases List.mem_append.1 h with h | h
        · have := ih j h; omega
        · have := List.mem_singleton.1 h; omega
      · have := ih j h; omega
    · have := ih j h; omega
def whichL (c : Cf) (pB : Pd → Bool) : List Nat := if confB c = true then whP c.l pB c.l.length else []
set_option maxRecDepth 100000 in
set_option maxHeartbeats 16000000 in
theorem which1_any (fid cap : Nat) (pB : Pd → Bool) (hp : ∀ (args : Array Value) (w : World), (callFunc fid args).run Try.prog w = .ok (.enter fid args) w) (c : Cf) (w : World) (ho : c.Ok w)
    (hc0 : Hid (confB c = true → ∀ p ∈ c.l, ∀ W, Below w.heap.size w W → Calls Try.prog fid #[.agg p.cs.toArray, .pointer (some ⟨cap, 0, none⟩)] W fun e w' => e = .returned (.bool (pB p)) ∧ Below W.heap.size W w')) :
    Calls Try.prog 60 #[.agg c.cs.toArray, .func (.func fid) #[] #[.pointer (some ⟨cap, 0, none⟩)]] w fun e w' => (∃ A cc, e = .returned (.slice A (whichL c pB).length cc) ∧ NR w' w'.heap.size A (whichL c pB) ∧ ∀ g off, A = some ⟨g, off, none⟩ → w.heap.size ≤ g) ∧ Below w.heap.size w w' := by
  obtain ⟨w0, hw0⟩ : ∃ w0, w0 = w.alloc (.cells c.cs.toArray 52) := ⟨_, rfl⟩
  have B0 := hide (World.alloc_heap_new w (.cells c.cs.toArray 52))
  have Q0 : Hid (Below w.heap.size w w0) := by rw [hw0]; exact hide ((Below.refl _ _).alloc (Nat.le_refl _) _)
  rw [← hw0] at B0
  have RT := hide (confRight_any c w0 (ho.next Q0.out))
  have HO := hide ho
  have hl := ho.n
  obtain ⟨R, hR⟩ : ∃ R, R = whichL c pB := ⟨_, rfl⟩
  rw [← hR]
  have HR := hide hR
  clear ho hR
  go_enter Try.func60, Try.ntmps60
  go_upto_region 1 with fail
  change Code.wp _ _ _ _ (w.alloc (.cells c.cs.toArray 52))
  rw [← hw0]
  clear hw0
  go_wp2_with (refine wpList_load_row rfl 52 (.tmp 2) (by rfl) w.heap.size (by rfl) 52 c.cs.toArray (0, 0) _ (by exact B0.out) Try.underlying52 (by rfl) (by kernel_rfl) ?_)
  (with_reducible refine (RT.out).mono ?_)
  rintro e1 w1 ⟨rfl, q1⟩
  have B1 := hide (heap_below B0.out q1)
  have Q1 := hide (below_next Q0.out Q0.out.size q1)
  clear q1 B0 Q0 RT
  rcases hb : confB c with _ | _
  · have hR0 : R = [] := by rw [HR.out]; unfold whichL; rw [hb]; simp
    clear HR hb
    subst hR0
    go_wp2_with fail
    go_ret
    exact ⟨⟨none, 0, rfl, Rd.nil, fun _ _ h => by cases h⟩, Q1.out⟩
  have HE := hide (show R = whP c.l pB c.l.length by rw [HR.out]; unfold whichL; rw [hb]; simp)
  have hc := hide (hc0.out hb)
  clear hc0
  clear HR hb
  obtain ⟨c0, c1, c2, c3, c4, c5, c6, c7⟩ := cf_cells B1.out
  clear c0 c2 c3 c4 c5 c6 c7
  have OW : Hid (Own w1 w.heap.size 3 1 none 0 (rowN (whP c.l pB 0))) := hide Own.nil
  go_wp2_with fail
  clear c1
  go_loopw [5, 14] (fun vs vi W => ∃ (k : Nat) (A : Option Addr) (cc : Nat), k ≤ c.l.length ∧ vi = .int .i64 k ∧ vs = .slice A (whP c.l pB k).length cc ∧ Hid (Own W w.heap.size 3 1 A cc (rowN (whP c.l pB k))) ∧ Hid (Below w.heap.size w W)) (fun _ vi _ => c.l.length - (intOf vi).toNat)
  case atStart => exact ⟨0, none, 0, Nat.zero_le _, rfl, rfl, OW, Q1⟩
  case round =>
    obtain ⟨k, A, cc, hk, rfl, rfl, hOw, hQ⟩ := hrel
    by_cases hkl : k < c.l.length
    · have hki : (k : Int) < (c.l.length : Int) := by omega
      obtain ⟨pb, po, hca, hpb, hrg⟩ := PdR.at_ (HO.out.next hQ.out).r hkl
      have RG := hide hrg
      have HC := hide (fun W q => hc.out c.l[k] (List.getElem_mem hkl) W q)
      have HY := hide (fun h => whP_yes (pB := pB) hkl h)
      have HN := hide (fun h => whP_no (pB := pB) hkl h)
      clear hrg
      generalize c.l[k] = p at *
      rw [hca]
      have q2 : Below wr.heap.size wr (wr.alloc (.cells zPd.cs.toArray 67)) := (Below.refl _ _).alloc (Nat.le_refl _) _
      have g2 := World.alloc_heap_new wr (.cells zPd.cs.toArray 67)
      have TH := hide (show (wr.alloc (.cells zPd.cs.toArray 67)).there wr.heap.size 0 22 from there_heap (cs := zPd.cs) g2)
      go_wp2_with (first | (refine wpList_load_mid rfl 67 (.tmp 17) (by rfl) pb (po + k * 22) (by rfl) p.cs _ (by exact RG.out) Try.underlying67 (by rfl) (by kernel_rfl) ?_) | (refine wpList_store_hid (by rfl) 67 (.tmp 7) (.tmp 18) (by rfl) wr.heap.size 0 p.cs (by rfl) (by rfl) (by exact TH.out) (by kernel_rfl) (by simp [Value.oneCell', Pd.cs, Iv.v, Fv.v]) ?_))
      intro w2 e2
      have s2 : Below wr.heap.size wr w2 := by rw [e2.out]; exact q2.trans (below_setCells (g := wr.heap.size) _ 0 _ (Nat.le_refl _))
      have P2 := hide (show w2.heap[wr.heap.size]? = some (.cells p.cs.toArray 67 (0, 0)) by rw [e2.out]; exact whole_heap p.cs (xs := zPd.cs) g2 rfl)
      have O2 := hide (hOw.out.grown s2)
      have Q2 := hide (below_next hQ.out hQ.out.size s2)
      have C2 := hide (HC.out w2 Q2.out)
      clear e2 TH g2 q2 s2 RG hOw hQ HC
      generalize wr.heap.size = pbx at *
      have HL := whP_len c.l pB k
      rcases hpb : pB p with _ | _
      · have hn := HN.out hpb
        rw [hpb] at C2
        go_wp2_with (refine wpList_load_row rfl 67 (.tmp 7) (by rfl) pbx (by rfl) 67 p.cs.toArray (0, 0) _ (by exact P2.out) Try.underlying67 (by rfl) (by kernel_rfl) ?_)
        (with_reducible refine (C2.out).mono ?_)
        rintro e3 w3 ⟨rfl, q3⟩
        have O3 := hide (O2.out.grown q3)
        have Q3 := hide (below_next Q2.out Q2.out.size q3)
        clear q3 O2 Q2 C2 P2 HN HY hpb
        rw [← hn] at O3
        have HN2 := hide hn
        clear hn
        go_wp2_with fail
        go_roundw
        case rel => exact ⟨k + 1, _, _, by omega, by go_num, by rw [HN2.out], O3, Q3⟩
        case measure => simp [intOf]; omega
      · have hy := HY.out hpb
        rw [hpb] at C2
        have hy2 : rowN (whP c.l pB (k + 1)) = rowN (whP c.l pB k) ++ [[.int .i64 (k : Int)]] := by rw [hy]; simp [rowN]
        have HY2 := hide hy2
        have HY3 := hide (show (whP c.l pB (k + 1)).length = (whP c.l pB k).length + 1 by rw [hy]; simp)
        clear hy hy2
        go_wp2_with (refine wpList_load_row rfl 67 (.tmp 7) (by rfl) pbx (by rfl) 67 p.cs.toArray (0, 0) _ (by exact P2.out) Try.underlying67 (by rfl) (by kernel_rfl) ?_)
        (with_reducible refine (C2.out).mono ?_)
        rintro e3 w3 ⟨rfl, q3⟩
        have O3 := hide (O2.out.grown q3)
        have Q3 := hide (below_next Q2.out Q2.out.size q3)
        have z3 : w.heap.size ≤ w3.heap.size := Q3.out.size
        clear q3 O2 Q2 C2 P2 HN HY hpb
        go_wp2_with (at_builtin; refine wpList_append_one _ _ [.int .i64 (k : Int)] (by rfl) rfl _ _ 23 rfl slInt (by decide) rfl (by simp [Value.oneCell']) w.heap.size _ _ _ (rowN (whP c.l pB k)) (by rfl) (by exact O3.out) _ (by rfl) (by rw [rowN_len]; omega) z3 (by rw [rowN_len]) ?_)
        intro A2 c2 w4 P4
        have O4 := hide (HY2.out ▸ P4.own)
        have Q4 := hide (P4.q Q3.out (Nat.le_refl _))
        clear P4 O3 Q3 z3
        go_wp2_with fail
        go_roundw
        case rel => exact ⟨k + 1, A2, c2, by omega, by go_num, by rw [HY3.out], O4, Q4⟩
        case measure => simp [intOf]; omega
    · obtain rfl : k = c.l.length := by omega
      rw [← HE.out] at hOw ⊢
      have RR := hide (hOw.out.rd (rowN_rows R))
      have RB := hide (own_blk hOw.out)
      clear hOw
      go_wp2_with fail
      go_ret
      exact ⟨⟨_, _, rfl, RR.out, RB.out⟩, hQ.out⟩
end Go.Proofs.Ytplpnnjjjfcibaa

/- The walks of the closures of conf.Sent and conf.Heard. -/
namespace Go.Proofs.Ytplpnnjjjfcibaa
open Go.ChangeShapes Go.WideShapes Go.ChangeAt Go.RowKit
open CM PD SG

set_option maxRecDepth 100000 in
theorem sent1_any (p : Pd) (nb : Nat) (node : Int) (w : World) (hz : nb < w.heap.size) (hn : Hid (w.cell? ⟨nb, 0, none⟩ = some (.int .i64 node))) : Calls Try.prog 61 #[.agg p.cs.toArray, .pointer (some ⟨nb, 0, none⟩)] w fun e w' => e = .returned (.bool (p.frm == node)) ∧ Below w.heap.size w w' := by
  obtain ⟨r, hr⟩ : ∃ r, r = (p.frm == node) := ⟨_, rfl⟩
  rw [← hr]
  have HR := hide hr
  clear hr
  have q0 : Below w.heap.size w (w.alloc (.cells p.cs.toArray 67)) := (Below.refl _ _).alloc (Nat.le_refl _) _
  have B0 := World.alloc_heap_new w (.cells p.cs.toArray 67)
  have n0 := cellBelow q0 hz hn.out
  obtain ⟨w0, hw0⟩ : ∃ w0, w0 = w.alloc (.cells p.cs.toArray 67) := ⟨_, rfl⟩
  rw [← hw0] at B0 n0 q0
  obtain ⟨⟨_, p1, _⟩, _⟩ := pd_cells B0
  have Q0 := hide q0
  clear B0 q0 hz
  go_enter Try.func61, Try.ntmps61
  go_upto_region 1 with fail
  change Code.wp _ _ _ _ (w.alloc (.cells p.cs.toArray 67))
  rw [← hw0]
  clear hw0
  go_wp2_with fail
  go_ret
  refine ⟨ret_bool ?_, Q0.out⟩
  rw [HR.out]
def hearB (c : Cf) (node : Int) (p : Pd) : Bool := inI node 0 (c.nodes - 1) && (p.dst / 2 ^ node.toNat % 2 == 1)
set_option maxRecDepth 100000 in
set_option maxHeartbeats 4000000 in
theorem heard1_any (c : Cf) (p : Pd) (nb cb : Nat) (node : Int) (w : World) (hnodes : 2 ≤ c.nodes ∧ c.nodes ≤ 4) (hz : nb < w.heap.size) (hzc : cb < w.heap.size) (hn : Hid (w.cell? ⟨nb, 0, none⟩ = some (.int .i64 node))) (hc : Hid (w.cell? ⟨cb, 0, none⟩ = some (.int .i64 c.nodes))) (hd : lim p.dst) :
    Calls Try.prog 62 #[.agg p.cs.toArray, .pointer (some ⟨nb, 0, none⟩), .pointer (some ⟨cb, 0, none⟩)] w fun e w' => e = .returned (.bool (hearB c node p)) ∧ Below w.heap.size w w' := by
  obtain ⟨r, hr⟩ : ∃ r, r = hearB c node p := ⟨_, rfl⟩
  rw [← hr]
  unfold hearB at hr
  have HR := hide hr
  clear hr
  have q0 : Below w.heap.size w (w.alloc (.cells p.cs.toArray 67)) := (Below.refl _ _).alloc (Nat.le_refl _) _
  have B0 := World.alloc_heap_new w (.cells p.cs.toArray 67)
  have n0 := cellBelow q0 hz hn.out
  have m0 := cellBelow q0 hzc hc.out
  obtain ⟨w0, hw0⟩ : ∃ w0, w0 = w.alloc (.cells p.cs.toArray 67) := ⟨_, rfl⟩
  rw [← hw0] at B0 n0 m0 q0
  obtain ⟨⟨_, _, p2, _⟩, _⟩ := pd_cells B0
  have Q0 := hide q0
  have WI := hide confWithin_any
  obtain ⟨hn2, hn4⟩ := hnodes
  unfold lim at hd
  clear B0 q0 hz hzc
  go_enter Try.func62, Try.ntmps62
  go_upto_region 1 with fail
  change Code.wp _ _ _ _ (w.alloc (.cells p.cs.toArray 67))
  rw [← hw0]
  clear hw0
  go_wp2_with fail
  (with_reducible refine (WI.out _ _ _ _).mono ?_)
  rintro e1 w1 ⟨rfl, rfl⟩
  rcases h1 : inI node 0 (c.nodes - 1) with _ | _
  · have E := hide (show r = false by rw [HR.out, h1]; rfl)
    clear HR WI h1
    go_wp2_with fail
    go_ret
    exact ⟨by rw [E.out]; rfl, Q0.out⟩
  obtain ⟨k1, k2⟩ := inI_true h1
  have E := hide (show r = (bits .and .i64 (p.dst / 2 ^ node.toNat) 1 == 1) by rw [HR.out, h1, and_one_i64]; rfl)
  clear HR WI h1
  go_wp2_with fail
  go_ret
  refine ⟨ret_bool ?_, Q0.out⟩
  rw [E.out]
end Go.Proofs.Ytplpnnjjjfcibaa

/- The walks of conf.which with two captured pointers, conf.Sent, conf.Heard. -/
namespace Go.Proofs.Ytplpnnjjjfcibaa
open Go.ChangeShapes Go.WideShapes Go.ChangeAt Go.RowKit
open CM PD SG

set_option maxRecDepth 100000 in
set_option maxHeartbeats 16000000 in
theorem which2_any (fid cap cap2 : Nat) (pB : Pd → Bool) (hp : ∀ (args : Array Value) (w : World), (callFunc fid args).run Try.prog w = .ok (.enter fid args) w) (c : Cf) (w : World) (ho : c.Ok w)
    (hc0 : Hid (confB c = true → ∀ p ∈ c.l, ∀ W, Below w.heap.size w W → Calls Try.prog fid #[.agg p.cs.toArray, .pointer (some ⟨cap, 0, none⟩), .pointer (some ⟨cap2, 0, none⟩)] W fun e w' => e = .returned (.bool (pB p)) ∧ Below W.heap.size W w')) :
    Calls Try.prog 60 #[.agg c.cs.toArray, .func (.func fid) #[] #[.pointer (some ⟨cap, 0, none⟩), .pointer (some ⟨cap2, 0, none⟩)]] w fun e w' => (∃ A cc, e = .returned (.slice A (whichL c pB).length cc) ∧ NR w' w'.heap.size A (whichL c pB) ∧ ∀ g off, A = some ⟨g, off, none⟩ → w.heap.size ≤ g) ∧ Below w.heap.size w w' := by
  obtain ⟨w0, hw0⟩ : ∃ w0, w0 = w.alloc (.cells c.cs.toArray 52) := ⟨_, rfl⟩
  have B0 := hide (World.alloc_heap_new w (.cells c.cs.toArray 52))
  have Q0 : Hid (Below w.heap.size w w0) := by rw [hw0]; exact hide ((Below.refl _ _).alloc (Nat.le_refl _) _)
  rw [← hw0] at B0
  have RT := hide (confRight_any c w0 (ho.next Q0.out))
  have HO := hide ho
  have hl := ho.n
  obtain ⟨R, hR⟩ : ∃ R, R = whichL c pB := ⟨_, rfl⟩
  rw [← hR]
  have HR := hide hR
  clear ho hR
  go_enter Try.func60, Try.ntmps60
  go_upto_region 1 with fail
  change Code.wp _ _ _ _ (w.alloc (.cells c.cs.toArray 52))
  rw [← hw0]
  clear hw0
  go_wp2_with (refine wpList_load_row rfl 52 (.tmp 2) (by rfl) w.heap.size (by rfl) 52 c.cs.toArray (0, 0) _ (by exact B0.out) Try.underlying52 (by rfl) (by kernel_rfl) ?_)
  (with_reducible refine (RT.out).mono ?_)
  rintro e1 w1 ⟨rfl, q1⟩
  have B1 := hide (heap_below B0.out q1)
  have Q1 := hide (below_next Q0.out Q0.out.size q1)
  clear q1 B0 Q0 RT
  rcases hb : confB c with _ | _
  · have hR0 : R = [] := by rw [HR.out]; unfold whichL; rw [hb]; simp
    clear HR hb
    subst hR0
    go_wp2_with fail
    go_ret
    exact ⟨⟨none, 0, rfl, Rd.nil, fun _ _ h => by cases h⟩, Q1.out⟩
  have HE := hide (show R = whP c.l pB c.l.length by rw [HR.out]; unfold whichL; rw [hb]; simp)
  have hc := hide (hc0.out hb)
  clear hc0
  clear HR hb
  obtain ⟨c0, c1, c2, c3, c4, c5, c6, c7⟩ := cf_cells B1.out
  clear c0 c2 c3 c4 c5 c6 c7
  have OW : Hid (Own w1 w.heap.size 3 1 none 0 (rowN (whP c.l pB 0))) := hide Own.nil
  go_wp2_with fail
  clear c1
  go_loopw [5, 14] (fun vs vi W => ∃ (k : Nat) (A : Option Addr) (cc : Nat), k ≤ c.l.length ∧ vi = .int .i64 k ∧ vs = .slice A (whP c.l pB k).length cc ∧ Hid (Own W w.heap.size 3 1 A cc (rowN (whP c.l pB k))) ∧ Hid (Below w.heap.size w W)) (fun _ vi _ => c.l.length - (intOf vi).toNat)
  case atStart => exact ⟨0, none, 0, Nat.zero_le _, rfl, rfl, OW, Q1⟩
  case round =>
    obtain ⟨k, A, cc, hk, rfl, rfl, hOw, hQ⟩ := hrel
    by_cases hkl : k < c.l.length
    · have hki : (k : Int) < (c.l.length : Int) := by omega
      obtain ⟨pb, po, hca, hpb, hrg⟩ := PdR.at_ (HO.out.next hQ.out).r hkl
      have RG := hide hrg
      have HC := hide (fun W q => hc.out c.l[k] (List.getElem_mem hkl) W q)
      have HY := hide (fun h => whP_yes (pB := pB) hkl h)
      have HN := hide (fun h => whP_no (pB := pB) hkl h)
      clear hrg
      generalize c.l[k] = p at *
      rw [hca]
      have q2 : Below wr.heap.size wr (wr.alloc (.cells zPd.cs.toArray 67)) := (Below.refl _ _).alloc (Nat.le_refl _) _
      have g2 := World.alloc_heap_new wr (.cells zPd.cs.toArray 67)
      have TH := hide (show (wr.alloc (.cells zPd.cs.toArray 67)).there wr.heap.size 0 22 from there_heap (cs := zPd.cs) g2)
      go_wp2_with (first | (refine wpList_load_mid rfl 67 (.tmp 17) (by rfl) pb (po + k * 22) (by rfl) p.cs _ (by exact RG.out) Try.underlying67 (by rfl) (by kernel_rfl) ?_) | (refine wpList_store_hid (by rfl) 67 (.tmp 7) (.tmp 18) (by rfl) wr.heap.size 0 p.cs (by rfl) (by rfl) (by exact TH.out) (by kernel_rfl) (by simp [Value.oneCell', Pd.cs, Iv.v, Fv.v]) ?_))
      intro w2 e2
      have s2 : Below wr.heap.size wr w2 := by rw [e2.out]; exact q2.trans (below_setCells (g := wr.heap.size) _ 0 _ (Nat.le_refl _))
      have P2 := hide (show w2.heap[wr.heap.size]? = some (.cells p.cs.toArray 67 (0, 0)) by rw [e2.out]; exact whole_heap p.cs (xs := zPd.cs) g2 rfl)
      have O2 := hide (hOw.out.grown s2)
      have Q2 := hide (below_next hQ.out hQ.out.size s2)
      have C2 := hide (HC.out w2 Q2.out)
      clear e2 TH g2 q2 s2 RG hOw hQ HC
      generalize wr.heap.size = pbx at *
      have HL := whP_len c.l pB k
      rcases hpb : pB p with _ | _
      · have hn := HN.out hpb
        rw [hpb] at C2
        go_wp2_with (refine wpList_load_row rfl 67 (.tmp 7) (by rfl) pbx (by rfl) 67 p.cs.toArray (0, 0) _ (by exact P2.out) Try.underlying67 (by rfl) (by kernel_rfl) ?_)
        (with_reducible refine (C2.out).mono ?_)
        rintro e3 w3 ⟨rfl, q3⟩
        have O3 := hide (O2.out.grown q3)
        have Q3 := hide (below_next Q2.out Q2.out.size q3)
        clear q3 O2 Q2 C2 P2 HN HY hpb
        rw [← hn] at O3
        have HN2 := hide hn
        clear hn
        go_wp2_with fail
        go_roundw
        case rel => exact ⟨k + 1, _, _, by omega, by go_num, by rw [HN2.out], O3, Q3⟩
        case measure => simp [intOf]; omega
      · have hy := HY.out hpb
        rw [hpb] at C2
        have hy2 : rowN (whP c.l pB (k + 1)) = rowN (whP c.l pB k) ++ [[.int .i64 (k : Int)]] := by rw [hy]; simp [rowN]
        have HY2 := hide hy2
        have HY3 := hide (show (whP c.l pB (k + 1)).length = (whP c.l pB k).length + 1 by rw [hy]; simp)
        clear hy hy2
        go_wp2_with (refine wpList_load_row rfl 67 (.tmp 7) (by rfl) pbx (by rfl) 67 p.cs.toArray (0, 0) _ (by exact P2.out) Try.underlying67 (by rfl) (by kernel_rfl) ?_)
        (with_reducible refine (C2.out).mono ?_)
        rintro e3 w3 ⟨rfl, q3⟩
        have O3 := hide (O2.out.grown q3)
        have Q3 := hide (below_next Q2.out Q2.out.size q3)
        have z3 : w.heap.size ≤ w3.heap.size := Q3.out.size
        clear q3 O2 Q2 C2 P2 HN HY hpb
        go_wp2_with (at_builtin; refine wpList_append_one _ _ [.int .i64 (k : Int)] (by rfl) rfl _ _ 23 rfl slInt (by decide) rfl (by simp [Value.oneCell']) w.heap.size _ _ _ (rowN (whP c.l pB k)) (by rfl) (by exact O3.out) _ (by rfl) (by rw [rowN_len]; omega) z3 (by rw [rowN_len]) ?_)
        intro A2 c2 w4 P4
        have O4 := hide (HY2.out ▸ P4.own)
        have Q4 := hide (P4.q Q3.out (Nat.le_refl _))
        clear P4 O3 Q3 z3
        go_wp2_with fail
        go_roundw
        case rel => exact ⟨k + 1, A2, c2, by omega, by go_num, by rw [HY3.out], O4, Q4⟩
        case measure => simp [intOf]; omega
    · obtain rfl : k = c.l.length := by omega
      rw [← HE.out] at hOw ⊢
      have RR := hide (hOw.out.rd (rowN_rows R))
      have RB := hide (own_blk hOw.out)
      clear hOw
      go_wp2_with fail
      go_ret
      exact ⟨⟨_, _, rfl, RR.out, RB.out⟩, hQ.out⟩

theorem confB_fast {c : Cf} (h : confB c = true) : fastB c = true := by
  unfold confB at h
  exact (Bool.and_eq_true_iff.1 h).1
def sentB (node : Int) (p : Pd) : Bool := p.frm == node

set_option maxRecDepth 100000 in
set_option maxHeartbeats 4000000 in
theorem confSent_any (c : Cf) (node : Int) (w : World) (ho : c.Ok w) : Calls Try.prog 27 #[.agg c.cs.toArray, .int .i64 node] w fun e w' => (∃ A cc, e = .returned (.slice A (whichL c (sentB node)).length cc) ∧ NR w' w'.heap.size A (whichL c (sentB node)) ∧ ∀ g off, A = some ⟨g, off, none⟩ → w.heap.size ≤ g) ∧ Below w.heap.size w w' := by
  obtain ⟨w0, hw0⟩ : ∃ w0, w0 = (w.alloc (.cells c.cs.toArray 52)).alloc (.cells #[.int .i64 node] 3) := ⟨_, rfl⟩
  have step : ∀ (W : World) (o : Obj), Below W.heap.size W (W.alloc o) := fun W o => (Below.refl _ _).alloc (Nat.le_refl _) _
  have B1 := hide (heap_below (World.alloc_heap_new w (.cells c.cs.toArray 52)) (step _ (.cells #[.int .i64 node] 3)))
  have B2 := hide (World.alloc_heap_new (w.alloc (.cells c.cs.toArray 52)) (.cells #[.int .i64 node] 3))
  have Q0 : Hid (Below w.heap.size w w0) := by rw [hw0]; exact hide ((step _ _).alloc (by simp) _)
  rw [← hw0] at B1 B2
  simp only [World.size_alloc] at B2
  have z0 : w.heap.size + 1 < w0.heap.size := heap_lt B2.out
  have n0 : w0.cell? ⟨w.heap.size + 1, 0, none⟩ = some (.int .i64 node) := by simp [World.cell?, B2.out]
  have WH := hide (which1_any 61 (w.heap.size + 1) (sentB node) (fun _ _ => rfl) c w0 (ho.next Q0.out) (hide fun _ p hp W q => sent1_any p (w.heap.size + 1) node W (Nat.lt_of_lt_of_le z0 q.size) (hide (cellBelow q z0 n0))))
  generalize whichL c (sentB node) = R at *
  clear step ho n0 B2
  go_enter Try.func27, Try.ntmps27
  go_upto_region 1 with fail
  change Code.wp _ _ _ _ ((w.alloc (.cells c.cs.toArray 52)).alloc (.cells #[.int .i64 node] 3))
  rw [← hw0]
  clear hw0
  go_wp2_with (refine wpList_load_row rfl 52 (.tmp 2) (by rfl) w.heap.size (by rfl) 52 c.cs.toArray (0, 0) _ (by exact B1.out) Try.underlying52 (by rfl) (by kernel_rfl) ?_)
  (with_reducible refine (WH.out).mono ?_)
  rintro e1 w1 ⟨⟨A, cc, rfl, hR, hB⟩, q1⟩
  have Q1 := hide (below_next Q0.out Q0.out.size q1)
  have HR := hide hR
  have HB := hide (show ∀ g off, A = some ⟨g, off, none⟩ → w.heap.size ≤ g from fun g off h => Nat.le_trans Q0.out.size (hB g off h))
  clear q1 Q0 WH hR B1 hB
  go_wp2_with fail
  go_ret
  exact ⟨⟨A, cc, rfl, HR.out, HB.out⟩, Q1.out⟩

set_option maxRecDepth 100000 in
set_option maxHeartbeats 4000000 in
theorem confHeard_any (c : Cf) (node : Int) (w : World) (ho : c.Ok w) : Calls Try.prog 28 #[.agg c.cs.toArray, .int .i64 node] w fun e w' => (∃ A cc, e = .returned (.slice A (whichL c (hearB c node)).length cc) ∧ NR w' w'.heap.size A (whichL c (hearB c node)) ∧ ∀ g off, A = some ⟨g, off, none⟩ → w.heap.size ≤ g) ∧ Below w.heap.size w w' := by
  obtain ⟨w0, hw0⟩ : ∃ w0, w0 = (w.alloc (.cells c.cs.toArray 52)).alloc (.cells #[.int .i64 node] 3) := ⟨_, rfl⟩
  have step : ∀ (W : World) (o : Obj), Below W.heap.size W (W.alloc o) := fun W o => (Below.refl _ _).alloc (Nat.le_refl _) _
  have B1 := hide (heap_below (World.alloc_heap_new w (.cells c.cs.toArray 52)) (step _ (.cells #[.int .i64 node] 3)))
  have B2 := hide (World.alloc_heap_new (w.alloc (.cells c.cs.toArray 52)) (.cells #[.int .i64 node] 3))
  have Q0 : Hid (Below w.heap.size w w0) := by rw [hw0]; exact hide ((step _ _).alloc (by simp) _)
  rw [← hw0] at B1 B2
  simp only [World.size_alloc] at B2
  have z0 : w.heap.size + 1 < w0.heap.size := heap_lt B2.out
  have z1 : w.heap.size < w0.heap.size := heap_lt B1.out
  have n0 : w0.cell? ⟨w.heap.size + 1, 0, none⟩ = some (.int .i64 node) := by simp [World.cell?, B2.out]
  have m0 := (cf_cells B1.out).1
  have WH := hide (which2_any 62 (w.heap.size + 1) w.heap.size (hearB c node) (fun _ _ => rfl) c w0 (ho.next Q0.out) (hide fun hcb p hp W q => heard1_any c p (w.heap.size + 1) w.heap.size node W (fastB_nodes (confB_fast hcb)).1 (Nat.lt_of_lt_of_le z0 q.size) (Nat.lt_of_lt_of_le z1 q.size) (hide (cellBelow q z0 n0)) (hide (cellBelow q z1 m0)) (ho.p p hp).dst))
  generalize whichL c (hearB c node) = R at *
  clear step ho n0 m0 B2
  go_enter Try.func28, Try.ntmps28
  go_upto_region 1 with fail
  change Code.wp _ _ _ _ ((w.alloc (.cells c.cs.toArray 52)).alloc (.cells #[.int .i64 node] 3))
  rw [← hw0]
  clear hw0
  go_wp2_with (refine wpList_load_row rfl 52 (.tmp 2) (by rfl) w.heap.size (by rfl) 52 c.cs.toArray (0, 0) _ (by exact B1.out) Try.underlying52 (by rfl) (by kernel_rfl) ?_)
  (with_reducible refine (WH.out).mono ?_)
  rintro e1 w1 ⟨⟨A, cc, rfl, hR, hB⟩, q1⟩
  have Q1 := hide (below_next Q0.out Q0.out.size q1)
  have HR := hide hR
  have HB := hide (show ∀ g off, A = some ⟨g, off, none⟩ → w.heap.size ≤ g from fun g off h => Nat.le_trans Q0.out.size (hB g off h))
  clear q1 Q0 WH hR B1 hB
  go_wp2_with fail
  go_ret
  exact ⟨⟨A, cc, rfl, HR.out, HB.out⟩, Q1.out⟩
end Go.Proofs.Ytplpnnjjjfcibaa

/- The walk of conf.Find. -/
namespace Go.Proofs.Ytplpnnjjjfcibaa
open Go.ChangeShapes Go.WideShapes Go.ChangeAt Go.RowKit Go.Maps
open CM PD SG

/-- What Find answers. -/
def FindV (c : Cf) (id : Int) (ext rem : Bool) (a : Int) (is : Bool) : Prop :=
  ((ext || rem || !confB c) = true ∧ a = 0 ∧ is = false) ∨ ((ext || rem) = false ∧ confB c = true ∧ a = (seen c.l c.l.length id).getD 0 ∧ is = (seen c.l c.l.length id).isSome)

set_option maxRecDepth 100000 in
set_option maxHeartbeats 16000000 in
theorem confFind_any (c : Cf) (id : Int) (ext rem : Bool) (dlc : Int) (dt : ByteArray) (w : World) (ho : c.Ok w) (hid : 0 ≤ id ∧ id < 4294967296) : Calls Try.prog 29 #[.agg c.cs.toArray, .agg #[.int .u32 id, .bool ext, .bool rem, .int .i64 dlc, .string dt]] w fun e w' => (∃ a is, e = .returned (.tuple #[.int .i64 a, .bool is]) ∧ FindV c id ext rem a is) ∧ Below w.heap.size w w' := by
  obtain ⟨w0, hw0⟩ : ∃ w0, w0 = (w.alloc (.cells c.cs.toArray 52)).alloc (.cells #[.int .u32 id, .bool ext, .bool rem, .int .i64 dlc, .string dt] 62) := ⟨_, rfl⟩
  have step : ∀ (W : World) (o : Obj), Below W.heap.size W (W.alloc o) := fun W o => (Below.refl _ _).alloc (Nat.le_refl _) _
  have B1 := hide (heap_below (World.alloc_heap_new w (.cells c.cs.toArray 52)) (step _ (.cells #[.int .u32 id, .bool ext, .bool rem, .int .i64 dlc, .string dt] 62)))
  have B2 := hide (World.alloc_heap_new (w.alloc (.cells c.cs.toArray 52)) (.cells #[.int .u32 id, .bool ext, .bool rem, .int .i64 dlc, .string dt] 62))
  have Q0 : Hid (Below w.heap.size w w0) := by rw [hw0]; exact hide ((step _ _).alloc (by simp) _)
  rw [← hw0] at B1 B2
  simp only [World.size_alloc] at B2
  have FA := confFast_any c w0 (ho.next Q0.out)
  unfold Cf.cs at FA
  replace FA := hide FA
  have HO := hide ho
  clear step ho
  obtain ⟨c0, c1, c2, c3, c4, c5, c6, c7⟩ := cf_cells B1.out
  have f0 : w0.cell? ⟨w.heap.size + 1, 0, none⟩ = some (.int .u32 id) := by simp [World.cell?, B2.out]
  have f1 : w0.cell? ⟨w.heap.size + 1, 1, none⟩ = some (.bool ext) := by simp [World.cell?, B2.out]
  have f2 : w0.cell? ⟨w.heap.size + 1, 2, none⟩ = some (.bool rem) := by simp [World.cell?, B2.out]
  go_enter Try.func29, Try.ntmps29
  go_upto_region 1 with fail
  change Code.wp _ _ _ _ ((w.alloc (.cells c.cs.toArray 52)).alloc (.cells #[.int .u32 id, .bool ext, .bool rem, .int .i64 dlc, .string dt] 62))
  rw [← hw0]
  clear hw0
  rcases he : (ext || rem) with _ | _
  case true =>
    have HV := hide (show FindV c id ext rem 0 false from .inl ⟨by rw [he]; rfl, rfl, rfl⟩)
    cases ext <;> cases rem
    case false.false => cases he
    all_goals clear he FA
    all_goals go_wp2_with fail
    all_goals go_ret2
    all_goals exact ⟨⟨_, _, rfl, HV.out⟩, Q0.out⟩
  obtain ⟨rfl, rfl⟩ : ext = false ∧ rem = false := by simpa using he
  clear he
  go_wp2_with fail
  (with_reducible refine (FA.out).mono ?_)
  rintro e1 w1 ⟨rfl, q1⟩
  have C1 := hide (heap_below B1.out q1)
  have C2 := hide (heap_below B2.out q1)
  have Q1 := hide (below_next Q0.out Q0.out.size q1)
  clear q1 B1 B2 Q0 FA c0 c1 c2 c3 c4 c5 c6 c7 f0 f1 f2
  rcases hf : fastB c with _ | _
  · have HV := hide (show FindV c id false false 0 false from .inl ⟨by rw [confB, hf]; rfl, rfl, rfl⟩)
    clear hf
    go_wp2_with fail
    go_ret2
    exact ⟨⟨_, _, rfl, HV.out⟩, Q1.out⟩
  have HF := hide hf
  have hn := fastB_nodes hf
  have LK := hide (confLook_any c w1 (HO.out.next Q1.out) hn.1 hn.2)
  clear hf hn
  go_wp2_with (refine wpList_load_row rfl 52 (.tmp 2) (by rfl) w.heap.size (by rfl) 52 c.cs.toArray (0, 0) _ (by exact C1.out) Try.underlying52 (by rfl) (by kernel_rfl) ?_)
  (with_reducible refine (LK.out).mono ?_)
  rintro e2 w2 ⟨⟨v, rfl, hv⟩, q2⟩
  have D2 := hide (heap_below C2.out q2)
  have Q2 := hide (below_next Q1.out Q1.out.size q2)
  have f0 : w2.cell? ⟨w.heap.size + 1, 0, none⟩ = some (.int .u32 id) := by simp [World.cell?, D2.out]
  clear q2 LK C1 C2 Q1
  rcases hv with ⟨b, n, rfl, hm, hA⟩ | ⟨k, hk, hA, hB, rfl⟩
  · have LG := hm.get id hid
    have HV := hide (show FindV c id false false ((seen c.l c.l.length id).getD 0) (seen c.l c.l.length id).isSome from .inr ⟨rfl, by rw [confB, HF.out, Bool.true_and, List.all_eq_true]; exact fun k hk => hA k (List.mem_range.1 hk), rfl, rfl⟩)
    clear hA hm
    generalize (seen c.l c.l.length id).getD 0 = x at *
    generalize (seen c.l c.l.length id).isSome = y at *
    go_wp2_with fail
    go_ret2
    exact ⟨⟨_, _, rfl, HV.out⟩, Q2.out⟩
  · have HV := hide (show FindV c id false false 0 false from .inl ⟨by
      have : confB c = false := by
        rw [confB, HF.out, Bool.true_and, List.all_eq_false]
        exact ⟨k, List.mem_range.2 hk, by simp [hB]⟩
      rw [this]; rfl, rfl, rfl⟩)
    clear hA hB
    have LN : ∀ W, (Instr.lookup 104 (.map none) (.int .u32 id) true).run Try.prog W = .ok (.tuple #[.int .i64 0, .bool false]) W := fun W => by kernel_rfl
    go_wp2_with fail
    go_ret2
    exact ⟨⟨_, _, rfl, HV.out⟩, Q2.out⟩
end Go.Proofs.Ytplpnnjjjfcibaa

/- Plain: what ConfOnce counts, and finds. -/
namespace Go.Proofs.Ytplpnnjjjfcibaa
open Go.ChangeShapes Go.WideShapes Go.ChangeAt Go.RowKit
open CM PD SG

def bump1 (T : List Nat) (k : Nat) : List Nat := T.set k (T.getD k 0 + 1)
def bump (T : List Nat) (ks : List Nat) : List Nat := ks.foldl bump1 T
theorem bump1_len (T : List Nat) (k : Nat) : (bump1 T k).length = T.length := by simp [bump1]
theorem bump_len : ∀ (ks T : List Nat), (bump T ks).length = T.length
  | [], _ => rfl
  | k :: r, T => by
    show (bump (bump1 T k) r).length = _
    rw [bump_len r, bump1_len]
theorem bump1_get (T : List Nat) (k i : Nat) (h : k < T.length) : (bump1 T k).getD i 0 = T.getD i 0 + if k = i then 1 else 0 := by
  unfold bump1
  rw [List.getD_eq_getElem?_getD, List.getD_eq_getElem?_getD, List.getD_eq_getElem?_getD, List.getElem?_set]
  by_cases e : k = i
  · subst e
    simp [h]
  · simp [e]
theorem bump_get : ∀ (ks T : List Nat), (∀ k ∈ ks, k < T.length) → ∀ i, (bump T ks).getD i 0 = T.getD i 0 + ks.count i
  | [], _, _, _ => by simp [bump]
  | k :: r, T, h, i => by
    show (bump (bump1 T k) r).getD i 0 = _
    rw [bump_get r (bump1 T k) (fun j hj => by rw [bump1_len]; exact h j (by simp [hj])) i, bump1_get T k i (h k (by simp)), List.count_cons]
    by_cases e : k = i
    · simp [e]; omega
    · simp [e]
theorem bump_take_succ (T ks : List Nat) (j : Nat) (h : j < ks.length) : bump T (ks.take (j + 1)) = bump1 (bump T (ks.take j)) ks[j] := by
  rw [List.take_succ_eq_append_getElem h, bump, List.foldl_append]
  rfl
theorem whP_count (l : List Pd) (pB : Pd → Bool) (i : Nat) : ∀ k, k ≤ l.length → (whP l pB k).count i = if i < k ∧ (l[i]?.map pB) = some true then 1 else 0
  | 0, _ => by simp [whP]
  | k + 1, hk => by
    have h : k < l.length := by omega
    have ih := whP_count l pB i k (by omega)
    cases hp : pB l[k] with
    | true =>
      rw [whP_yes h hp, List.count_append, ih]
      by_cases e : i = k
      · subst e
        simp [hp, h]
      · have : ([k] : List Nat).count i = 0 := by simp [List.count_cons, Ne.symm e]
        rw [this]
        have hi : (i < k + 1) ↔ i < k := by omega
        simp [hi]
    | false =>
      rw [whP_no h hp, ih]
      by_cases e : i = k
      · subst e
        simp [hp, h]
      · have hi : (i < k + 1) ↔ i < k := by omega
        simp [hi]
/-- How many below n are so. -/
def cntF (f : Nat → Pd → Bool) (p : Pd) : Nat → Nat
  | 0 => 0
  | n + 1 => cntF f p n + if f n p = true then 1 else 0
theorem cntF_le (f : Nat → Pd → Bool) (p : Pd) : ∀ n, cntF f p n ≤ n
  | 0 => Nat.le_refl _
  | n + 1 => by
    have := cntF_le f p n
    unfold cntF
    split <;> omega
def timesL (f : Nat → Pd → Bool) (l : List Pd) (n : Nat) : List Nat := l.map fun p => cntF f p n
theorem timesL_len (f : Nat → Pd → Bool) (l : List Pd) (n : Nat) : (timesL f l n).length = l.length := by simp [timesL]
theorem timesL_zero (f : Nat → Pd → Bool) (l : List Pd) : timesL f l 0 = List.replicate l.length 0 := by
  unfold timesL
  induction l with
  | nil => rfl
  | cons a r ih => rw [List.map_cons, ih]; rfl
theorem list_getD_ext {A B : List Nat} (hl : A.length = B.length) (h : ∀ i, A.getD i 0 = B.getD i 0) : A = B := by
  apply List.ext_getElem hl
  intro i h1 h2
  have := h i
  rw [List.getD_eq_getElem?_getD, List.getD_eq_getElem?_getD, List.getElem?_eq_getElem h1, List.getElem?_eq_getElem h2] at this
  exact this
theorem bump_times (f : Nat → Pd → Bool) (l : List Pd) (n : Nat) : bump (timesL f l n) (whP l (f n) l.length) = timesL f l (n + 1) := by
  apply list_getD_ext
  · rw [bump_len, timesL_len, timesL_len]
  intro i
  rw [bump_get _ _ (fun k hk => by rw [timesL_len]; exact whP_lt l (f n) l.length k hk), whP_count l (f n) i l.length (Nat.le_refl _)]
  unfold timesL
  rw [List.getD_eq_getElem?_getD, List.getD_eq_getElem?_getD, List.getElem?_map, List.getElem?_map]
  by_cases h : i < l.length
  · rw [List.getElem?_eq_getElem h]
    simp only [Option.map_some, Option.getD_some, cntF, h, true_and, Option.some.injEq]
  · rw [List.getElem?_eq_none (by omega)]
    simp
theorem bump_bound (f : Nat → Pd → Bool) (l : List Pd) (n : Nat) (ks : List Nat) (hk : ∀ k ∈ ks, k < l.length) (i : Nat) : (bump (timesL f l n) ks).getD i 0 ≤ n + ks.length := by
  rw [bump_get _ _ (fun k h => by rw [timesL_len]; exact hk k h)]
  have h1 : (timesL f l n).getD i 0 ≤ n := by
    unfold timesL
    rw [List.getD_eq_getElem?_getD, List.getElem?_map]
    by_cases h : i < l.length
    · rw [List.getElem?_eq_getElem h]; exact cntF_le f _ n
    · rw [List.getElem?_eq_none (by omega)]; simp
  have := List.count_le_length (a := i) (l := ks)
  omega
theorem rowN_bump1 (T : List Nat) (k : Nat) : rowN (bump1 T k) = (rowN T).set k [.int .i64 ((T.getD k 0 + 1 : Nat) : Int)] := by
  unfold bump1
  rw [rowN_set]

/-- The node of a Pdu sends it just once. -/
theorem cnt_sent (p : Pd) : ∀ n : Nat, cntF (fun n p => sentB (n : Int) p) p n = if 0 ≤ p.frm ∧ p.frm < n then 1 else 0
  | 0 => by
    rw [if_neg (by omega)]; rfl
  | n + 1 => by
    unfold cntF
    rw [cnt_sent p n]
    unfold sentB
    by_cases e : p.frm = n
    · rw [if_neg (by omega), if_pos (by simpa using e), if_pos (by omega)]
    · rw [if_neg (c := (p.frm == (n : Int)) = true) (by simpa using e), Nat.add_zero]
      by_cases h : 0 ≤ p.frm ∧ p.frm < n
      · rw [if_pos h, if_pos (by omega)]
      · rw [if_neg h, if_neg (by omega)]
theorem cnt_pos {f : Nat → Pd → Bool} {p : Pd} : ∀ {n m : Nat}, m < n → f m p = true → 1 ≤ cntF f p n
  | n + 1, m, hm, h => by
    unfold cntF
    by_cases e : m = n
    · subst e; rw [if_pos h]; omega
    · have := cnt_pos (f := f) (p := p) (n := n) (m := m) (by omega) h
      omega
theorem bit_some {x : Int} (h1 : 1 ≤ x) : ∀ n : Nat, x / 2 ^ n = 0 → ∃ m, m < n ∧ x / 2 ^ m % 2 = 1
  | 0, h => by simp at h; omega
  | n + 1, h => by
    by_cases e : x / 2 ^ n % 2 = 1
    · exact ⟨n, by omega, e⟩
    · have h2 : x / 2 ^ (n + 1) = x / 2 ^ n / 2 := by rw [Int.pow_succ, Int.ediv_ediv_of_nonneg (Int.pow_nonneg (by omega))]
      have hz : x / 2 ^ n = 0 := by omega
      obtain ⟨m, hm, hb⟩ := bit_some h1 n hz
      exact ⟨m, by omega, hb⟩
theorem confB_all {c : Cf} (h : confB c = true) {k : Nat} (hk : k < c.l.length) : PlaceP c k c.l[k] ∧ outB c.l[k] = true ∧ inB c.l[k] = true := by
  have hf := confB_fast h
  unfold confB at h
  have h2 := (Bool.and_eq_true_iff.1 h).2
  rw [List.all_eq_true] at h2
  have h3 := h2 k (List.mem_range.2 hk)
  rw [okAt_eq hk, mayB_place] at h3
  obtain ⟨h4, h5⟩ := Bool.and_eq_true_iff.1 h3
  obtain ⟨h6, h7⟩ := Bool.and_eq_true_iff.1 h5
  exact ⟨(placeB_iff hk (fastB_nodes hf).1).1 h4, h6, h7⟩
theorem conf_dst {c : Cf} (h : confB c = true) {p : Pd} (hp : p ∈ c.l) : 1 ≤ p.dst ∧ p.dst ≤ 15 := by
  obtain ⟨k, hk, rfl⟩ := List.getElem_of_mem hp
  have := (confB_all h hk).1.1.1
  exact ⟨this.2.2.1, this.2.2.2.1⟩
theorem conf_sent {c : Cf} (h : confB c = true) {k : Nat} (hk : k < c.l.length) : cntF (fun n p => sentB (n : Int) p) c.l[k] c.nodes.toNat = 1 := by
  have := (confB_all h hk).1.1.1
  have hn := (fastB_nodes (confB_fast h)).1
  rw [cnt_sent, if_pos (by omega)]
theorem conf_heard {c : Cf} (h : confB c = true) {k : Nat} (hk : k < c.l.length) : 1 ≤ cntF (fun n p => hearB c (n : Int) p) c.l[k] c.nodes.toNat := by
  have hp := (confB_all h hk).1
  have hn := (fastB_nodes (confB_fast h)).1
  have hz : c.l[k].dst / 2 ^ c.nodes.toNat = 0 := (bits_law (k := c.nodes.toNat) hp.1.1.2.2.1 (by omega) (by omega)).2 ⟨hp.1.1.2.2.2.1, fun i hi h4 => hp.2.1 i (by omega) h4⟩
  obtain ⟨m, hm, hb⟩ := bit_some hp.1.1.2.2.1 _ hz
  refine cnt_pos (m := m) hm ?_
  unfold hearB inI
  rw [Int.toNat_natCast, hb]
  simp
  omega
/-- Who sends a Pdu does not hear it. -/
theorem conf_apart {c : Cf} (h : confB c = true) {n : Nat} {k : Nat} (hs : k ∈ whP c.l (sentB n) c.l.length) (hh : k ∈ whP c.l (hearB c n) c.l.length) : False := by
  have hk := whP_lt c.l (sentB n) _ k hs
  have h1 : (whP c.l (sentB n) c.l.length).count k ≠ 0 := by have := List.count_pos_iff.2 hs; omega
  have h2 : (whP c.l (hearB c n) c.l.length).count k ≠ 0 := by have := List.count_pos_iff.2 hh; omega
  rw [whP_count _ _ _ _ (Nat.le_refl _), List.getElem?_eq_getElem hk] at h1 h2
  have s1 : sentB n c.l[k] = true := by
    by_cases e : sentB n c.l[k] = true
    · exact e
    · exfalso; apply h1; rw [if_neg (by simp [e])]
  have s2 : hearB c n c.l[k] = true := by
    by_cases e : hearB c n c.l[k] = true
    · exact e
    · exfalso; apply h2; rw [if_neg (by simp [e])]
  have hp := (confB_all h hk).1.1.2
  unfold sentB at s1
  unfold hearB at s2
  have e1 : c.l[k].frm = n := by simpa using s1
  have e2 : c.l[k].dst / 2 ^ n % 2 = 1 := by simpa using (Bool.and_eq_true_iff.1 s2).2
  rw [e1, Int.toNat_natCast] at hp
  omega
theorem seen_base {c : Cf} (h : confB c = true) {y : Int} (hy : c.base ≤ y ∧ y < c.base + c.nodes) : (seen c.l c.l.length y).isSome = false := by
  rw [← Bool.not_eq_true, seen_none y (Nat.le_refl _)]
  rintro ⟨j, hj, _, rfl⟩
  exact (confB_all h hj).1.2.2.1 hy
theorem seen_own {c : Cf} (h : confB c = true) {k : Nat} (hk : k < c.l.length) : ∀ m, k < m → m ≤ c.l.length → seen c.l m c.l[k].id = some (k : Int)
  | 0, h1, _ => absurd h1 (Nat.not_lt_zero _)
  | m + 1, h1, h2 => by
    have hm : m < c.l.length := by omega
    rw [seen_succ hm]
    by_cases e : m = k
    · subst e; simp
    · have hne : ¬ c.l[k].id = c.l[m].id := (confB_all h hm).1.2.2.2.2 k hk (by omega)
      simp only [if_neg hne]
      exact seen_own h hk m (by omega) (by omega)
end Go.Proofs.Ytplpnnjjjfcibaa

/- What ConfOnce carries: two rows of counts, a set of places, a row of places. -/
namespace Go.Proofs.Ytplpnnjjjfcibaa
open Go.ChangeShapes Go.WideShapes Go.ChangeAt Go.RowKit Go.Maps
open CM PD SG

theorem made0_eq (n : Nat) : (rowN (List.replicate n 0)).flatten.toArray = madeCells #[.int .i64 0] n := by
  have h1 : (rowN (List.replicate n 0)).flatten = List.replicate n (Value.int .i64 0) := by
    induction n with
    | zero => rfl
    | succ n ih =>
      rw [List.replicate_succ, List.replicate_succ, ← ih]
      rfl
  rw [h1]
  unfold madeCells
  apply Array.ext
  · simp
  · intro i h2 h3
    simp [Nat.mod_one]
theorem own_made0 (w : World) (base n : Nat) (hb : base ≤ w.heap.size) (hm : n ≤ maxLen) : Own (w.alloc (.cells (madeCells #[.int .i64 0] n) 3)) base 3 1 (some ⟨w.heap.size, 0, none⟩) n (rowN (List.replicate n 0)) := by
  have := Own.lit w base 3 1 (rowN (List.replicate n 0)) hb (by rw [rowN_len, List.length_replicate]; exact hm) (rowN_rows _)
  rw [made0_eq, rowN_len, List.length_replicate] at this
  exact this
theorem own_put1 {W : World} {base g c : Nat} {T : List Nat} (h : Own W base 3 1 (some ⟨g, 0, none⟩) c (rowN T)) {k : Nat} (hk : k < T.length) (x : Nat) : Own (W.setCell ⟨g, k, none⟩ (.int .i64 (x : Int))) base 3 1 (some ⟨g, 0, none⟩) c (rowN (T.set k x)) := by
  obtain ⟨s1, s2⟩ := World.ownsRow.stored h k (.int .i64 (x : Int))
  have := flatten_set (rowN T) 1 (rowN_rows T) k 0 _ (.int .i64 (x : Int)) (rowN_at hk) (by omega)
  rw [Nat.mul_one, Nat.add_zero] at this
  rw [this] at s1
  unfold Own
  rw [← rowN_set]
  rw [List.length_set]
  exact s1
theorem own_get1 {W : World} {base g c : Nat} {T : List Nat} (h : Own W base 3 1 (some ⟨g, 0, none⟩) c (rowN T)) {k : Nat} (hk : k < T.length) : W.cell? ⟨g, k, none⟩ = some (.int .i64 ((T.getD k 0 : Nat) : Int)) ∧ W.frozen? ⟨g, k, none⟩ = false := by
  have h1 := own_at h (rowN_rows T) (rowN_at hk) (j := 0) rfl
  rw [Nat.mul_one, Nat.add_zero] at h1
  refine ⟨?_, World.ownsRow.frozenAt h k⟩
  rw [h1, List.getD_eq_getElem?_getD, List.getElem?_eq_getElem hk]
  rfl
theorem mset_ne {W : World} {bm n : Nat} {s : Int → Bool} (hm : MSet W bm n s) {b : Nat} {cs : Array Value} {t : TypeId} {fz : Nat × Nat} (h : W.heap[b]? = some (.cells cs t fz)) : b ≠ bm := by
  rintro rfl
  obtain ⟨D, ⟨es, clock, hb, _⟩, _⟩ := hm
  rw [h] at hb
  cases hb
theorem heap_mset21 {W W' : World} {bm n : Nat} {s : Int → Bool} (hm : MSet W bm n s) (hg : W.grownBy W' (some bm)) {b : Nat} {cs : Array Value} {t : TypeId} {fz : Nat × Nat} (h : W.heap[b]? = some (.cells cs t fz)) : W'.heap[b]? = some (.cells cs t fz) := by
  rw [hg.block b (Array.getElem?_eq_some_iff.1 h).1 (by simpa using mset_ne hm h)]
  exact h
theorem own_mset {W W' : World} {bm : Nat} (hg : W.grownBy W' (some bm)) {base e sz g c : Nat} {R : List (List Value)} (h : Own W base e sz (some ⟨g, 0, none⟩) c R) (hne : g ≠ bm) : Own W' base e sz (some ⟨g, 0, none⟩) c R := by
  refine World.ownsRow.kept h hg (.inr ?_)
  simp [Value.ownBlock]
  omega
theorem rd_grown {W W' : World} {x : Nat} (hg : W.grownBy W' (some x)) {A : Option Addr} {sz : Nat} {R : List (List Value)} (h : Rd W W.heap.size A sz R) (hne : ∀ g off, A = some ⟨g, off, none⟩ → g ≠ x) : Rd W' W'.heap.size A sz R :=
  Rd.grown h hg (Nat.le_refl _) fun b off e => by simpa using hne b off e
theorem set_grown (W : World) (x j : Nat) (v : Value) : W.grownBy (W.setCell ⟨x, j, none⟩ v) (some x) := ⟨rfl, rfl, rfl, by simp [World.setCell], fun k _ hk => heap_setCell_other W ⟨x, j, none⟩ k v (fun e => hk (by simp [e]))⟩
theorem MSet.set {W : World} {b n : Nat} {s : Int → Bool} (h : MSet W b n s) {x : Nat} (hx : x ≠ b) (j : Nat) (v : Value) : MSet (W.setCell ⟨x, j, none⟩ v) b n s := by
  obtain ⟨D, h, hs⟩ := h
  exact ⟨D, h.kept (row := some x) (set_grown W x j v) (by simp; omega), hs⟩

/-- The two rows of counts. -/
structure O21 (w5 : World) (cap : Nat) (T H : List Nat) (W : World) : Prop where
  t : Own W w5.heap.size 3 1 (some ⟨w5.heap.size, 0, none⟩) cap (rowN T)
  h : Own W w5.heap.size 3 1 (some ⟨w5.heap.size + 1, 0, none⟩) cap (rowN H)
  q : Below w5.heap.size w5 W
theorem O21.lt {w5 : World} {cap : Nat} {T H : List Nat} {W : World} (h : O21 w5 cap T H W) (h0 : 0 < H.length) : w5.heap.size + 1 < W.heap.size := by
  obtain ⟨g, e, _, hg⟩ := Own.ofLen h.h (by rw [rowN_len]; exact h0)
  cases e
  exact hg
theorem O21.below {w5 : World} {cap : Nat} {T H : List Nat} {W W' : World} (h : O21 w5 cap T H W) (q : Below W.heap.size W W') : O21 w5 cap T H W' := ⟨h.t.grown q, h.h.grown q, below_next h.q h.q.size q⟩
theorem O21.put {w5 : World} {cap : Nat} {T H : List Nat} {W W' : World} (h : O21 w5 cap T H W) {bm : Nat} (hg : W.grownBy W' (some bm)) (hb : w5.heap.size + 1 < bm) : O21 w5 cap T H W' :=
  ⟨own_mset hg h.t (by omega), own_mset hg h.h (by omega), h.q.grown hg h.q.size (fun j e => by cases e; omega)⟩
theorem O21.bumpT {w5 : World} {cap : Nat} {T H : List Nat} {W : World} (h : O21 w5 cap T H W) {k : Nat} (hk : k < T.length) : O21 w5 cap (bump1 T k) H (W.setCell ⟨w5.heap.size, k, none⟩ (.int .i64 (((T.getD k 0 + 1 : Nat)) : Int))) :=
  ⟨own_put1 h.t hk _, own_setF h.h (by omega) _ _, h.q.setCell (p := ⟨w5.heap.size, k, none⟩) (Nat.le_refl _) _⟩
theorem O21.bumpH {w5 : World} {cap : Nat} {T H : List Nat} {W : World} (h : O21 w5 cap T H W) {k : Nat} (hk : k < H.length) : O21 w5 cap T (bump1 H k) (W.setCell ⟨w5.heap.size + 1, k, none⟩ (.int .i64 (((H.getD k 0 + 1 : Nat)) : Int))) :=
  ⟨own_setF h.t (by omega) _ _, own_put1 h.h hk _, h.q.setCell (p := ⟨w5.heap.size + 1, k, none⟩) (by simp) _⟩
theorem O21.bumpT' {w5 : World} {cap : Nat} {T H : List Nat} {W : World} (h : O21 w5 cap T H W) {k x : Nat} (hk : k < T.length) (hx : T.getD k 0 = x) : O21 w5 cap (bump1 T k) H (W.setCell ⟨w5.heap.size, k, none⟩ (.int .i64 ((x : Int) + 1))) := by
  have := h.bumpT hk
  rwa [hx] at this
theorem O21.bumpH' {w5 : World} {cap : Nat} {T H : List Nat} {W : World} (h : O21 w5 cap T H W) {k x : Nat} (hk : k < H.length) (hx : H.getD k 0 = x) : O21 w5 cap T (bump1 H k) (W.setCell ⟨w5.heap.size + 1, k, none⟩ (.int .i64 ((x : Int) + 1))) := by
  have := h.bumpH hk
  rwa [hx] at this
/-- The places that are in the first j. -/
def inN (L : List Nat) (j : Nat) : Int → Bool := fun x => (L.take j).any fun k => (k : Int) == x
theorem inN_zero (L : List Nat) : inN L 0 = fun _ => false := by funext x; simp [inN]
theorem inN_succ (L : List Nat) {j : Nat} (h : j < L.length) : inN L (j + 1) = fun y => if y = (L[j] : Int) then true else inN L j y := by
  funext x
  unfold inN
  rw [List.take_succ_eq_append_getElem h, List.any_append]
  by_cases e : x = (L[j] : Int)
  · subst e; simp
  · have : ¬ (L[j] : Int) = x := fun h => e h.symm
    simp [e, this]
theorem inN_full {L : List Nat} {k : Nat} (h : inN L L.length k = true) : k ∈ L := by
  unfold inN at h
  rw [List.take_length, List.any_eq_true] at h
  obtain ⟨j, hj, e⟩ := h
  have : (j : Int) = k := by simpa using e
  obtain rfl : j = k := by omega
  exact hj
theorem wrong_conf {c : Cf} {v : Int} (h : WrongV c v) : (v = -1 ∧ confB c = true) ∨ ((v != -1) = true ∧ confB c = false) := by
  rcases h with ⟨hf, rfl⟩ | ⟨hf, k, hk, _, hn, rfl⟩ | ⟨hf, ha, rfl⟩
  · exact .inr ⟨rfl, by rw [confB, hf]; rfl⟩
  · refine .inr ⟨by simp, ?_⟩
    rw [confB, hf, Bool.true_and, List.all_eq_false]
    exact ⟨k, List.mem_range.2 hk, by simp [hn]⟩
  · exact .inl ⟨rfl, by rw [confB, hf, Bool.true_and, List.all_eq_true]; exact fun k hk => ha k (List.mem_range.1 hk)⟩
end Go.Proofs.Ytplpnnjjjfcibaa

/- The reference's Sent and Heard. -/
namespace Go.Proofs.Ytplpnnjjjfcibaa
open Go.ChangeShapes Go.WideShapes Go.ChangeAt Go.RowKit
open CM PD SG

set_option maxRecDepth 100000 in
set_option maxHeartbeats 16000000 in
theorem refSent_any (c : Cf) (node : Int) (w : World) (ho : c.Ok w) : Calls Try.prog 33 #[.agg c.cs.toArray, .int .i64 node] w fun e w' => (∃ A cc, e = .returned (.slice A (whP c.l (sentB node) c.l.length).length cc) ∧ NR w' w'.heap.size A (whP c.l (sentB node) c.l.length)) ∧ Below w.heap.size w w' := by
  obtain ⟨w0, hw0⟩ : ∃ w0, w0 = w.alloc (.cells c.cs.toArray 52) := ⟨_, rfl⟩
  have B0 := hide (World.alloc_heap_new w (.cells c.cs.toArray 52))
  have Q0 : Hid (Below w.heap.size w w0) := by rw [hw0]; exact hide ((Below.refl _ _).alloc (Nat.le_refl _) _)
  rw [← hw0] at B0
  have HO := hide ho
  have hl := ho.n
  obtain ⟨pB, hpB⟩ : ∃ pB, pB = sentB node := ⟨_, rfl⟩
  rw [← hpB]
  have HPB := hide hpB
  obtain ⟨R, hR⟩ : ∃ R, R = whP c.l pB c.l.length := ⟨_, rfl⟩
  rw [← hR]
  have HE := hide hR
  clear ho hpB hR
  have q1 : Below w0.heap.size w0 (w0.alloc (.cells #[] 3)) := (Below.refl _ _).alloc (Nat.le_refl _) _
  have O1 : Hid (Own (w0.alloc (.cells #[] 3)) w.heap.size 3 1 (some ⟨w0.heap.size, 0, none⟩) 0 (rowN (whP c.l pB 0))) := hide (Own.lit w0 w.heap.size 3 1 [] Q0.out.size (by simp) (by simp))
  have B1 := hide (heap_below B0.out q1)
  have Q1 := hide (below_next Q0.out Q0.out.size q1)
  obtain ⟨c0, c1, c2, c3, c4, c5, c6, c7⟩ := cf_cells B1.out
  clear c0 c2 c3 c4 c5 c6 c7 q1 Q0
  go_enter Try.func33, Try.ntmps33
  go_upto_region 1 with fail
  change Code.wp _ _ _ _ (w.alloc (.cells c.cs.toArray 52))
  rw [← hw0]
  clear hw0
  go_wp2_with fail
  clear c1
  go_loopw [5, 12] (fun vs vi W => ∃ (k : Nat) (A : Option Addr) (cc : Nat), k ≤ c.l.length ∧ vi = .int .i64 k ∧ vs = .slice A (whP c.l pB k).length cc ∧ Hid (Own W w.heap.size 3 1 A cc (rowN (whP c.l pB k))) ∧ Hid (Below w.heap.size w W) ∧ Hid (W.heap[w.heap.size]? = some (.cells c.cs.toArray 52 (0, 0)))) (fun _ vi _ => c.l.length - (intOf vi).toNat)
  case atStart => exact ⟨0, _, 0, Nat.zero_le _, rfl, rfl, O1, Q1, B1⟩
  case round =>
    obtain ⟨k, A, cc, hk, rfl, rfl, hOw, hQ, hB⟩ := hrel
    clear O1 Q1 B1 B0
    by_cases hkl : k < c.l.length
    · have hki : (k : Int) < (c.l.length : Int) := by omega
      obtain ⟨pb, po, hca, hpb, hrg⟩ := PdR.at_ (HO.out.next hQ.out).r hkl
      have RG := hide hrg
      have HY := hide (fun h => whP_yes (pB := pB) hkl h)
      have HN := hide (fun h => whP_no (pB := pB) hkl h)
      have HM := hide (List.getElem_mem hkl)
      clear hrg
      generalize c.l[k] = p at *
      rw [hca]
      have q2 : Below wr.heap.size wr (wr.alloc (.cells zPd.cs.toArray 67)) := (Below.refl _ _).alloc (Nat.le_refl _) _
      have g2 := World.alloc_heap_new wr (.cells zPd.cs.toArray 67)
      have TH := hide (show (wr.alloc (.cells zPd.cs.toArray 67)).there wr.heap.size 0 22 from there_heap (cs := zPd.cs) g2)
      go_wp2_with (first | (refine wpList_load_mid rfl 67 (.tmp 15) (by rfl) pb (po + k * 22) (by rfl) p.cs _ (by exact RG.out) Try.underlying67 (by rfl) (by kernel_rfl) ?_) | (refine wpList_store_hid (by rfl) 67 (.tmp 7) (.tmp 16) (by rfl) wr.heap.size 0 p.cs (by rfl) (by rfl) (by exact TH.out) (by kernel_rfl) (by simp [Value.oneCell', Pd.cs, Iv.v, Fv.v]) ?_))
      intro w2 e2
      have s2 : Below wr.heap.size wr w2 := by rw [e2.out]; exact q2.trans (below_setCells (g := wr.heap.size) _ 0 _ (Nat.le_refl _))
      have P2 := hide (show w2.heap[wr.heap.size]? = some (.cells p.cs.toArray 67 (0, 0)) by rw [e2.out]; exact whole_heap p.cs (xs := zPd.cs) g2 rfl)
      have O2 := hide (hOw.out.grown s2)
      have B2 := hide (heap_below hB.out s2)
      have Q2 := hide (below_next hQ.out hQ.out.size s2)
      clear e2 TH g2 q2 s2 RG hOw hQ hB
      generalize wr.heap.size = pbx at *
      have HL := whP_len c.l pB k
      obtain ⟨⟨p0, p1, p2, p3, p4, p5, p6, p7, p8, p9⟩, _⟩ := pd_cells P2.out
      clear p0 p3 p4 p5 p6 p7 p8 p9 P2
      have HB := hide (show pB p = (p.frm == node) by rw [HPB.out]; rfl)
      rcases hb : (p.frm == node) with _ | _
      · have HN2 := hide (HN.out (HB.out.trans hb))
        have O3 := hide (show Own w2 w.heap.size 3 1 A cc (rowN (whP c.l pB (k + 1))) by rw [HN2.out]; exact O2.out)
        clear HY HN HB
        go_wp2_with fail
        go_roundw
        case rel => exact ⟨k + 1, _, _, by omega, by go_num, by rw [HN2.out], O3, Q2, B2⟩
        case measure => simp [intOf]; omega
      · have hy := HY.out (HB.out.trans hb)
        clear HN HY HB
        have hy2 : rowN (whP c.l pB (k + 1)) = rowN (whP c.l pB k) ++ [[.int .i64 (k : Int)]] := by rw [hy]; simp [rowN]
        have HY2 := hide hy2
        have HY3 := hide (show (whP c.l pB (k + 1)).length = (whP c.l pB k).length + 1 by rw [hy]; simp)
        clear hy hy2
        have z3 : w.heap.size ≤ w2.heap.size := Q2.out.size
        go_wp2_with (at_builtin; refine wpList_append_one _ _ [.int .i64 (k : Int)] (by rfl) rfl _ _ 23 rfl slInt (by decide) rfl (by simp [Value.oneCell']) w.heap.size _ _ _ (rowN (whP c.l pB k)) (by rfl) (by exact O2.out) _ (by rfl) (by rw [rowN_len]; omega) z3 (by rw [rowN_len]) ?_)
        intro A2 c2 w4 P4
        have O4 := hide (HY2.out ▸ P4.own)
        have Q4 := hide (P4.q Q2.out (Nat.le_refl _))
        have B4 := hide (P4.heap B2.out (by decide))
        clear P4 O2 Q2 z3 B2
        go_wp2_with fail
        go_roundw
        case rel => exact ⟨k + 1, A2, c2, by omega, by go_num, by rw [HY3.out], O4, Q4, B4⟩
        case measure => simp [intOf]; omega
    · obtain rfl : k = c.l.length := by omega
      rw [← HE.out] at hOw ⊢
      have RR := hide (hOw.out.rd (rowN_rows R))
      clear hOw
      go_wp2_with fail
      go_ret
      exact ⟨⟨_, _, rfl, RR.out⟩, hQ.out⟩

set_option maxRecDepth 100000 in
set_option maxHeartbeats 16000000 in
theorem refHeard_any (c : Cf) (node : Int) (w : World) (ho : c.Ok w) (hn : 2 ≤ c.nodes ∧ c.nodes ≤ 4) (hD : ∀ p ∈ c.l, 1 ≤ p.dst ∧ p.dst ≤ 15) : Calls Try.prog 34 #[.agg c.cs.toArray, .int .i64 node] w fun e w' => (∃ A cc, e = .returned (.slice A (whP c.l (hearB c node) c.l.length).length cc) ∧ NR w' w'.heap.size A (whP c.l (hearB c node) c.l.length)) ∧ Below w.heap.size w w' := by
  obtain ⟨w0, hw0⟩ : ∃ w0, w0 = w.alloc (.cells c.cs.toArray 52) := ⟨_, rfl⟩
  have B0 := hide (World.alloc_heap_new w (.cells c.cs.toArray 52))
  have Q0 : Hid (Below w.heap.size w w0) := by rw [hw0]; exact hide ((Below.refl _ _).alloc (Nat.le_refl _) _)
  rw [← hw0] at B0
  have HO := hide ho
  have hl := ho.n
  obtain ⟨pB, hpB⟩ : ∃ pB, pB = hearB c node := ⟨_, rfl⟩
  rw [← hpB]
  have HPB := hide hpB
  obtain ⟨R, hR⟩ : ∃ R, R = whP c.l pB c.l.length := ⟨_, rfl⟩
  rw [← hR]
  have HE := hide hR
  clear ho hpB hR
  have q1 : Below w0.heap.size w0 (w0.alloc (.cells #[] 3)) := (Below.refl _ _).alloc (Nat.le_refl _) _
  have O1 : Hid (Own (w0.alloc (.cells #[] 3)) w.heap.size 3 1 (some ⟨w0.heap.size, 0, none⟩) 0 (rowN (whP c.l pB 0))) := hide (Own.lit w0 w.heap.size 3 1 [] Q0.out.size (by simp) (by simp))
  have B1 := hide (heap_below B0.out q1)
  have Q1 := hide (below_next Q0.out Q0.out.size q1)
  obtain ⟨c0, c1, c2, c3, c4, c5, c6, c7⟩ := cf_cells B1.out
  clear c0 c2 c3 c4 c5 c6 c7 q1 Q0
  go_enter Try.func34, Try.ntmps34
  go_upto_region 1 with fail
  change Code.wp _ _ _ _ (w.alloc (.cells c.cs.toArray 52))
  rw [← hw0]
  clear hw0
  go_wp2_with fail
  clear c1
  go_loopw [5, 12] (fun vs vi W => ∃ (k : Nat) (A : Option Addr) (cc : Nat), k ≤ c.l.length ∧ vi = .int .i64 k ∧ vs = .slice A (whP c.l pB k).length cc ∧ Hid (Own W w.heap.size 3 1 A cc (rowN (whP c.l pB k))) ∧ Hid (Below w.heap.size w W) ∧ Hid (W.heap[w.heap.size]? = some (.cells c.cs.toArray 52 (0, 0)))) (fun _ vi _ => c.l.length - (intOf vi).toNat)
  case atStart => exact ⟨0, _, 0, Nat.zero_le _, rfl, rfl, O1, Q1, B1⟩
  case round =>
    obtain ⟨k, A, cc, hk, rfl, rfl, hOw, hQ, hB⟩ := hrel
    clear O1 Q1 B1 B0
    by_cases hkl : k < c.l.length
    · have hki : (k : Int) < (c.l.length : Int) := by omega
      obtain ⟨pb, po, hca, hpb, hrg⟩ := PdR.at_ (HO.out.next hQ.out).r hkl
      have RG := hide hrg
      have HY := hide (fun h => whP_yes (pB := pB) hkl h)
      have HN := hide (fun h => whP_no (pB := pB) hkl h)
      have HM := hide (List.getElem_mem hkl)
      clear hrg
      generalize c.l[k] = p at *
      rw [hca]
      have q2 : Below wr.heap.size wr (wr.alloc (.cells zPd.cs.toArray 67)) := (Below.refl _ _).alloc (Nat.le_refl _) _
      have g2 := World.alloc_heap_new wr (.cells zPd.cs.toArray 67)
      have TH := hide (show (wr.alloc (.cells zPd.cs.toArray 67)).there wr.heap.size 0 22 from there_heap (cs := zPd.cs) g2)
      go_wp2_with (first | (refine wpList_load_mid rfl 67 (.tmp 15) (by rfl) pb (po + k * 22) (by rfl) p.cs _ (by exact RG.out) Try.underlying67 (by rfl) (by kernel_rfl) ?_) | (refine wpList_store_hid (by rfl) 67 (.tmp 7) (.tmp 16) (by rfl) wr.heap.size 0 p.cs (by rfl) (by rfl) (by exact TH.out) (by kernel_rfl) (by simp [Value.oneCell', Pd.cs, Iv.v, Fv.v]) ?_))
      intro w2 e2
      have s2 : Below wr.heap.size wr w2 := by rw [e2.out]; exact q2.trans (below_setCells (g := wr.heap.size) _ 0 _ (Nat.le_refl _))
      have P2 := hide (show w2.heap[wr.heap.size]? = some (.cells p.cs.toArray 67 (0, 0)) by rw [e2.out]; exact whole_heap p.cs (xs := zPd.cs) g2 rfl)
      have O2 := hide (hOw.out.grown s2)
      have B2 := hide (heap_below hB.out s2)
      have Q2 := hide (below_next hQ.out hQ.out.size s2)
      clear e2 TH g2 q2 s2 RG hOw hQ hB
      generalize wr.heap.size = pbx at *
      have HL := whP_len c.l pB k
      obtain ⟨⟨p0, p1, p2, p3, p4, p5, p6, p7, p8, p9⟩, _⟩ := pd_cells P2.out
      clear p0 p3 p4 p5 p6 p7 p8 p9 P2
      have hd := (hD p HM.out)
      by_cases hn : 0 ≤ node ∧ node < c.nodes
      · obtain ⟨hn1, hn2⟩ := hn
        obtain ⟨i, rfl⟩ := Int.eq_ofNat_of_zero_le hn1
        have hi4 : i ≤ 1000 := by omega
        have HB := hide (show pB p = (p.dst / 2 ^ i % 2 == 1) by rw [HPB.out]; unfold hearB; rw [show inI (i : Int) 0 (c.nodes - 1) = true by unfold inI; simp; omega, Bool.true_and, Int.toNat_natCast])
        have BL := hide (refBit21_any p.dst i w2 (by omega) (by omega) hi4)
        obtain ⟨c0, c1, c2, c3, c4, c5, c6, c7⟩ := cf_cells B2.out
        clear c1 c2 c3 c4 c5 c6 c7
        go_wp2_with fail
        (with_reducible refine (BL.out).mono ?_)
        rintro e3 w3 ⟨rfl, rfl⟩
        rcases hb : (p.dst / 2 ^ i % 2 == 1) with _ | _
        · have HN2 := hide (HN.out (HB.out.trans hb))
          have O3 := hide (show Own w3 w.heap.size 3 1 A cc (rowN (whP c.l pB (k + 1))) by rw [HN2.out]; exact O2.out)
          clear HY HN HB BL
          go_wp2_with fail
          go_roundw
          case rel => exact ⟨k + 1, _, _, by omega, by go_num, by rw [HN2.out], O3, Q2, B2⟩
          case measure => simp [intOf]; omega
        · have hy := HY.out (HB.out.trans hb)
          clear HN HY HB BL
          have hy2 : rowN (whP c.l pB (k + 1)) = rowN (whP c.l pB k) ++ [[.int .i64 (k : Int)]] := by rw [hy]; simp [rowN]
          have HY2 := hide hy2
          have HY3 := hide (show (whP c.l pB (k + 1)).length = (whP c.l pB k).length + 1 by rw [hy]; simp)
          clear hy hy2
          have z3 : w.heap.size ≤ w3.heap.size := Q2.out.size
          go_wp2_with (at_builtin; refine wpList_append_one _ _ [.int .i64 (k : Int)] (by rfl) rfl _ _ 23 rfl slInt (by decide) rfl (by simp [Value.oneCell']) w.heap.size _ _ _ (rowN (whP c.l pB k)) (by rfl) (by exact O2.out) _ (by rfl) (by rw [rowN_len]; omega) z3 (by rw [rowN_len]) ?_)
          intro A2 c2 w4 P4
          have O4 := hide (HY2.out ▸ P4.own)
          have Q4 := hide (P4.q Q2.out (Nat.le_refl _))
          have B4 := hide (P4.heap B2.out (by decide))
          clear P4 O2 Q2 z3 B2
          go_wp2_with fail
          go_roundw
          case rel => exact ⟨k + 1, A2, c2, by omega, by go_num, by rw [HY3.out], O4, Q4, B4⟩
          case measure => simp [intOf]; omega
      · have HB : pB p = false := by
          rw [HPB.out]; unfold hearB
          rw [show inI node 0 (c.nodes - 1) = false by unfold inI; simp; omega]; rfl
        have HN2 := hide (HN.out HB)
        have O3 := hide (show Own w2 w.heap.size 3 1 A cc (rowN (whP c.l pB (k + 1))) by rw [HN2.out]; exact O2.out)
        clear HY HN HB
        obtain ⟨c0, c1, c2, c3, c4, c5, c6, c7⟩ := cf_cells B2.out
        clear c1 c2 c3 c4 c5 c6 c7
        by_cases hn0 : 0 ≤ node
        · have hn1 : ¬ node < c.nodes := fun h => hn ⟨hn0, h⟩
          clear hn
          go_wp2_with fail
          go_roundw
          case rel => exact ⟨k + 1, _, _, by omega, by go_num, by rw [HN2.out], O3, Q2, B2⟩
          case measure => simp [intOf]; omega
        · clear hn
          go_wp2_with fail
          go_roundw
          case rel => exact ⟨k + 1, _, _, by omega, by go_num, by rw [HN2.out], O3, Q2, B2⟩
          case measure => simp [intOf]; omega
    · obtain rfl : k = c.l.length := by omega
      rw [← HE.out] at hOw ⊢
      have RR := hide (hOw.out.rd (rowN_rows R))
      clear hOw
      go_wp2_with fail
      go_ret
      exact ⟨⟨_, _, rfl, RR.out⟩, hQ.out⟩
end Go.Proofs.Ytplpnnjjjfcibaa
